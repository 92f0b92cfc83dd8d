/- The walks and the words of the family link, part 3: PlA, Cmp, PlD, LkW, LkD, LkE, LkF, LkG, RfA. -/
import Derived.Test.YtgboboljgcfggaaDoorM2
import Derived.Laws.Cover1
import Derived.Sort.Walk0
import Derived.Deep.RegionWith
import Derived.WalkLawsBesides
import Derived.WalkSpells
import Derived.StringKeys
import Derived.DeepKeys4
import Derived.Deep.QuietTactic
import Derived.Deep.RegionLaw
import Derived.RangeFuncNested
import Derived.RangeFuncBound
import Derived.RangeFuncCalls
import Derived.RangeFuncLeaves
import Derived.Shelf.Abstract
import Derived.Shelf.RegionOpen
import Derived.OwnWalkIn
import Derived.TacticsInMore
import Derived.LoopNIn
import Derived.LoopIn
import Derived.StillTailTactics
import Derived.Sort.CutIn
namespace Go.Proofs.YtgboboljgcfggaaDoor

/-- A block, without its places. -/
structure PB where
  cap : Int
  param : Bool
  ins : List Ins
deriving DecidableEq
/-- A code, without its places. -/
structure PC where
  label : T
  blocks : List PB
  decls : List Dcl
deriving DecidableEq
/-- A block of a code. -/
structure Sp where
  code : Nat
  block : Int
deriving DecidableEq
/-- The block of a declaration: the codes from number i on. -/
def findC : List PC → Nat → T → Int → Option Sp
  | [], _, _, _ => none
  | c :: l, i, p, n => match (if c.label = p then c.decls.find? (fun d => d.id == n) else none) with
    | some d => some ⟨i, d.block⟩
    | none => findC l (i + 1) p n
/-- To what an instruction refers: a block, if it exists. -/
def tgt (l : List PC) (s : Sp) (x : Ins) : Option (Option Sp) :=
  if x.op = 4 then some (findC l 0 x.name x.a) else if x.op = 5 then some (some ⟨s.code, x.a⟩) else none
/-- Known blocks, with one more. -/
def addS (k : List Sp) (x : Sp) : List Sp := if x ∈ k then k else k ++ [x]
/-- Known blocks, with those to which instructions refer. -/
def addAll : List Sp → List (Option Sp) → Option (List Sp)
  | k, [] => some k
  | _, none :: _ => none
  | k, some x :: r => addAll (addS k x) r
def blkAt (l : List PC) (s : Sp) : PB := match l[s.code]? with
  | some c => c.blocks.getD s.block.toNat ⟨0, false, []⟩
  | none => ⟨0, false, []⟩
/-- The blocks that are needed, from number i on. -/
def bfs (l : List PC) : Nat → Nat → List Sp → Option (Option (List Sp))
  | 0, _, _ => none
  | f + 1, i, k => match k[i]? with
    | none => some (some k)
    | some s => match addAll k ((blkAt l s).ins.filterMap (tgt l s)) with
      | none => some none
      | some k' => bfs l f (i + 1) k'
/-- The blocks of roots. -/
def rootsK (l : List PC) : List Sp → List (T × Int) → Option (List Sp)
  | k, [] => some k
  | k, n :: r => match findC l 0 n.1 n.2 with
    | none => none
    | some s => rootsK l (addS k s) r
/-- A spot of valid codes. -/
def SpOk (l : List PC) (s : Sp) : Prop := ∃ c, l[s.code]? = some c ∧ 0 ≤ s.block ∧ s.block < c.blocks.length
/-- Codes whose references to their own blocks are in range. -/
structure CsOk (l : List PC) : Prop where
  d : ∀ c ∈ l, ∀ d ∈ c.decls, 0 ≤ d.block ∧ d.block < c.blocks.length
  x : ∀ c ∈ l, ∀ b ∈ c.blocks, ∀ x ∈ b.ins, x.op = 5 → 0 ≤ x.a ∧ x.a < c.blocks.length
theorem findC_ok {l0 : List PC} (h : CsOk l0) : ∀ (l : List PC) (i : Nat) (p : T) (n : Int) (s : Sp), (∀ j c, l[j]? = some c → l0[i + j]? = some c) → findC l i p n = some s → SpOk l0 s
  | [], _, _, _, _, _, e => by cases e
  | c :: l, i, p, n, s, hl, e => by
    rw [findC] at e
    have hc := hl 0 c rfl
    split at e
    · rename_i d hd
      cases e
      have hm : d ∈ c.decls := by
        split at hd
        · exact List.mem_of_find?_eq_some hd
        · cases hd
      exact ⟨c, hc, h.d c (List.mem_of_getElem? hc) d hm⟩
    · exact findC_ok h l (i + 1) p n s (fun j c' hj => by
        have := hl (j + 1) c' (by simpa using hj)
        rw [show i + 1 + j = i + (j + 1) from by omega]
        exact this) e
theorem blkAt_ok {l : List PC} {s : Sp} (h : SpOk l s) : ∃ c, l[s.code]? = some c ∧ blkAt l s ∈ c.blocks := by
  obtain ⟨c, hc, h1, h2⟩ := h
  refine ⟨c, hc, ?_⟩
  unfold blkAt
  rw [hc]
  simp only
  have h3 : s.block.toNat < c.blocks.length := by omega
  rw [List.getD_eq_getElem?_getD, List.getElem?_eq_getElem h3]
  exact List.getElem_mem h3
theorem tgt_ok {l : List PC} (h : CsOk l) {s : Sp} (hs : SpOk l s) {x : Ins} (hx : x ∈ (blkAt l s).ins) {t : Sp} (e : tgt l s x = some (some t)) : SpOk l t := by
  unfold tgt at e
  split at e
  · simp only [Option.some.injEq] at e
    exact findC_ok h l 0 _ _ _ (fun j c hj => by simpa using hj) e
  · split at e
    · rename_i h5
      simp only [Option.some.injEq] at e
      subst e
      obtain ⟨c, hc, hb⟩ := blkAt_ok hs
      exact ⟨c, hc, h.x c (List.mem_of_getElem? hc) _ hb x hx h5⟩
    · cases e
theorem mem_addS {k : List Sp} {x y : Sp} : y ∈ addS k x ↔ y ∈ k ∨ y = x := by
  unfold addS
  split
  · rename_i h
    exact ⟨.inl, fun h2 => h2.elim id (fun e => e ▸ h)⟩
  · simp
theorem nodup_addS {k : List Sp} {x : Sp} (h : k.Nodup) : (addS k x).Nodup := by
  unfold addS
  split
  · exact h
  · rename_i hx
    rw [List.nodup_append]
    refine ⟨h, by simp, ?_⟩
    intro a ha b hb
    simp at hb
    subst hb
    exact fun e => hx (e ▸ ha)
theorem addS_pre (k : List Sp) (x : Sp) : ∃ e, addS k x = k ++ e := by
  unfold addS
  split
  · exact ⟨[], by simp⟩
  · exact ⟨[x], rfl⟩
theorem addAll_pre : ∀ (r : List (Option Sp)) (k k' : List Sp), addAll k r = some k' → ∃ e, k' = k ++ e
  | [], k, k', h => by cases h; exact ⟨[], by simp⟩
  | none :: _, _, _, h => by cases h
  | some x :: r, k, k', h => by
    rw [addAll] at h
    obtain ⟨e, he⟩ := addAll_pre r _ _ h
    obtain ⟨e2, he2⟩ := addS_pre k x
    exact ⟨e2 ++ e, by rw [he, he2, List.append_assoc]⟩
theorem addAll_mem : ∀ (r : List (Option Sp)) (k k' : List Sp), addAll k r = some k' → (∀ y, y ∈ k' ↔ y ∈ k ∨ some y ∈ r) ∧ none ∉ r
  | [], k, k', h => by cases h; exact ⟨fun y => by simp, by simp⟩
  | none :: _, _, _, h => by cases h
  | some x :: r, k, k', h => by
    rw [addAll] at h
    obtain ⟨h1, h2⟩ := addAll_mem r _ _ h
    refine ⟨fun y => ?_, by simpa using h2⟩
    rw [h1, mem_addS, List.mem_cons, Option.some.injEq]
    constructor
    · rintro ((h | h) | h)
      · exact .inl h
      · exact .inr (.inl h)
      · exact .inr (.inr h)
    · rintro (h | h | h)
      · exact .inl (.inl h)
      · exact .inl (.inr h)
      · exact .inr h
theorem addAll_nodup : ∀ (r : List (Option Sp)) (k k' : List Sp), addAll k r = some k' → k.Nodup → k'.Nodup
  | [], k, k', h, hk => by cases h; exact hk
  | none :: _, _, _, h, _ => by cases h
  | some x :: r, k, k', h, hk => by
    rw [addAll] at h
    exact addAll_nodup r _ _ h (nodup_addS hk)
/-- All spots of codes. -/
def spots (l : List PC) : List Sp := l.zipIdx.flatMap fun (c, i) => (List.range c.blocks.length).map fun j : Nat => ⟨i, (j : Int)⟩
theorem mem_spots {l : List PC} {s : Sp} (h : SpOk l s) : s ∈ spots l := by
  obtain ⟨c, hc, h1, h2⟩ := h
  unfold spots
  rw [List.mem_flatMap]
  refine ⟨(c, s.code), ?_, ?_⟩
  · rw [List.mem_zipIdx_iff_getElem?]
    simpa using hc
  · rw [List.mem_map]
    refine ⟨s.block.toNat, ?_, ?_⟩
    · rw [List.mem_range]; omega
    · obtain ⟨a, b⟩ := s
      simp only at h1 ⊢
      congr
      omega
theorem len_le_of_sub {k m : List Sp} (hk : k.Nodup) (h : ∀ y ∈ k, y ∈ m) : k.length ≤ m.length := by
  induction k generalizing m with
  | nil => simp
  | cons x k ih =>
    rw [List.nodup_cons] at hk
    have hx : x ∈ m := h x (by simp)
    have h1 := ih hk.2 (m := m.erase x) (fun y hy => by
      rw [List.mem_erase_of_ne]
      · exact h y (by simp [hy])
      · intro e; exact hk.1 (e ▸ hy))
    rw [List.length_erase_of_mem hx] at h1
    have := List.length_pos_of_mem hx
    simp only [List.length_cons]
    omega
/-- The state of the search is sound. -/
structure Kn (l : List PC) (k : List Sp) : Prop where
  nd : k.Nodup
  ok : ∀ s ∈ k, SpOk l s
theorem Kn.len {l : List PC} {k : List Sp} (h : Kn l k) : k.length ≤ (spots l).length := len_le_of_sub h.nd fun y hy => mem_spots (h.ok y hy)
theorem Kn.step {l : List PC} (hl : CsOk l) {k k' : List Sp} (h : Kn l k) {s : Sp} (hs : s ∈ k) (e : addAll k ((blkAt l s).ins.filterMap (tgt l s)) = some k') : Kn l k' := by
  refine ⟨addAll_nodup _ _ _ e h.nd, fun y hy => ?_⟩
  rcases ((addAll_mem _ _ _ e).1 y).1 hy with h1 | h1
  · exact h.ok y h1
  · obtain ⟨x, hx, e2⟩ := List.mem_filterMap.1 h1
    exact tgt_ok hl (h.ok s hs) hx e2
/-- With enough fuel the search ends. -/
theorem bfs_ends {l : List PC} (hl : CsOk l) : ∀ (f i : Nat) (k : List Sp), Kn l k → i ≤ k.length → (spots l).length < f + i → bfs l f i k ≠ none
  | 0, i, k, h, hi, hf => by have := h.len; omega
  | f + 1, i, k, h, hi, hf => by
    rw [bfs]
    split
    · simp
    · rename_i s hs
      split
      · simp
      · rename_i k' hk'
        obtain ⟨e, he⟩ := addAll_pre _ _ _ hk'
        have hlt := (List.getElem?_eq_some_iff.1 hs).1
        exact bfs_ends hl f (i + 1) k' (h.step hl (List.mem_of_getElem? hs) hk') (by rw [he, List.length_append]; omega) (by omega)
/-- What a search that has ended has found. -/
structure Fnd (l : List PC) (i : Nat) (k r : List Sp) : Prop where
  pre : ∃ e, r = k ++ e
  kn : Kn l r
  cl : ∀ j s, i ≤ j → r[j]? = some s → ∀ x ∈ (blkAt l s).ins, ∀ t, tgt l s x = some t → ∃ u, t = some u ∧ u ∈ r
  src : ∀ j t, k.length ≤ j → r[j]? = some t → ∃ j' s x, j' < j ∧ r[j']? = some s ∧ x ∈ (blkAt l s).ins ∧ tgt l s x = some (some t)
theorem addAll_src : ∀ (r : List (Option Sp)) (k k' : List Sp), addAll k r = some k' → ∀ j t, k.length ≤ j → k'[j]? = some t → some t ∈ r
  | [], k, k', h, j, t, hj, e => by
    cases h
    have := (List.getElem?_eq_some_iff.1 e).1
    omega
  | none :: _, _, _, h, _, _, _, _ => by cases h
  | some x :: r, k, k', h, j, t, hj, e => by
    rw [addAll] at h
    by_cases h1 : (addS k x).length ≤ j
    · exact List.mem_cons_of_mem _ (addAll_src r _ _ h j t h1 e)
    · obtain ⟨e1, he1⟩ := addAll_pre r _ _ h
      rw [he1, List.getElem?_append_left (by omega)] at e
      have h2 := List.mem_of_getElem? e
      unfold addS at h1 e
      split at e
      · rename_i h3
        rw [if_pos h3] at h1
        omega
      · rename_i h3
        rw [if_neg h3] at h1
        simp only [List.length_append, List.length_cons, List.length_nil] at h1
        obtain rfl : j = k.length := by omega
        simp at e
        simp [e]
theorem bfs_fnd {l : List PC} (hl : CsOk l) : ∀ (f i : Nat) (k r : List Sp), Kn l k → i ≤ k.length → bfs l f i k = some (some r) → Fnd l i k r
  | 0, _, _, _, _, _, e => by cases e
  | f + 1, i, k, r, h, hi, e => by
    rw [bfs] at e
    split at e
    · rename_i hs
      cases e
      have hlen := List.getElem?_eq_none_iff.1 hs
      refine ⟨⟨[], by simp⟩, h, fun j s hj e => ?_, fun j t hj e => ?_⟩
      · have := (List.getElem?_eq_some_iff.1 e).1
        omega
      · have := (List.getElem?_eq_some_iff.1 e).1
        omega
    · rename_i s hs
      have hlt := (List.getElem?_eq_some_iff.1 hs).1
      split at e
      · cases e
      · rename_i k' hk'
        obtain ⟨e1, he1⟩ := addAll_pre _ _ _ hk'
        have H := bfs_fnd hl f (i + 1) k' r (h.step hl (List.mem_of_getElem? hs) hk') (by rw [he1, List.length_append]; omega) e
        obtain ⟨e2, he2⟩ := H.pre
        have hrs : r[i]? = some s := by rw [he2, he1, List.append_assoc, List.getElem?_append_left hlt]; exact hs
        refine ⟨⟨e1 ++ e2, by rw [he2, he1, List.append_assoc]⟩, H.kn, fun j s' hj hjs => ?_, fun j t hj hjt => ?_⟩
        · by_cases h1 : j = i
          · subst h1
            rw [hrs] at hjs
            cases hjs
            intro x hx t ht
            have hm : t ∈ (blkAt l s).ins.filterMap (tgt l s) := List.mem_filterMap.2 ⟨x, hx, ht⟩
            obtain ⟨m1, m2⟩ := addAll_mem _ _ _ hk'
            cases t with
            | none => exact absurd hm m2
            | some u => exact ⟨u, rfl, by rw [he2, List.mem_append]; exact .inl ((m1 u).2 (.inr hm))⟩
          · exact H.cl j s' (by omega) hjs
        · by_cases h1 : k'.length ≤ j
          · exact H.src j t h1 hjt
          · have hjt2 : k'[j]? = some t := by rw [he2, List.getElem?_append_left (by omega)] at hjt; exact hjt
            have hm := addAll_src _ _ _ hk' j t hj hjt2
            obtain ⟨x, hx, e3⟩ := List.mem_filterMap.1 hm
            exact ⟨i, s, x, by omega, hrs, hx, e3⟩
/-- An instruction with the number of its block. -/
def relab (l : List PC) (k : List Sp) (s : Sp) (x : Ins) : Ins := match tgt l s x with
  | some (some t) => ⟨x.op, k.idxOf t, x.b, []⟩
  | _ => x
def blkP (l : List PC) (k : List Sp) (s : Sp) : PB := ⟨(blkAt l s).cap, (blkAt l s).param, (blkAt l s).ins.map (relab l k s)⟩
/-- The blocks of the program. -/
def progB (l : List PC) (k : List Sp) : List PB := k.map (blkP l k)
theorem rootsK_kn {l : List PC} (hl : CsOk l) : ∀ (r : List (T × Int)) (k k' : List Sp), Kn l k → rootsK l k r = some k' → Kn l k'
  | [], _, _, h, e => by cases e; exact h
  | n :: r, k, k', h, e => by
    rw [rootsK] at e
    split at e
    · cases e
    · rename_i s hs
      refine rootsK_kn hl r _ _ ⟨nodup_addS h.nd, fun y hy => ?_⟩ e
      rcases mem_addS.1 hy with h1 | rfl
      · exact h.ok y h1
      · exact findC_ok hl l 0 _ _ _ (fun j c hj => by simpa using hj) hs
theorem rootsK_mem {l : List PC} : ∀ (r : List (T × Int)) (k k' : List Sp), rootsK l k r = some k' → (∀ n ∈ r, ∃ s, findC l 0 n.1 n.2 = some s ∧ s ∈ k') ∧ (∀ s ∈ k', s ∈ k ∨ ∃ n ∈ r, findC l 0 n.1 n.2 = some s) ∧ ∀ s ∈ k, s ∈ k'
  | [], k, k', e => by cases e; exact ⟨by simp, fun s h => .inl h, fun s h => h⟩
  | n :: r, k, k', e => by
    rw [rootsK] at e
    split at e
    · cases e
    · rename_i s hs
      obtain ⟨h1, h2, h3⟩ := rootsK_mem r _ _ e
      refine ⟨fun m hm => ?_, fun t ht => ?_, fun t ht => h3 t (mem_addS.2 (.inl ht))⟩
      · rcases List.mem_cons.1 hm with rfl | hm
        · exact ⟨s, hs, h3 s (mem_addS.2 (.inr rfl))⟩
        · exact h1 m hm
      · rcases h2 t ht with h | ⟨m, hm, h⟩
        · rcases mem_addS.1 h with h | rfl
          · exact .inl h
          · exact .inr ⟨n, by simp, hs⟩
        · exact .inr ⟨m, by simp [hm], h⟩
/-- Numbers, with one more. -/
def addI (k : List Int) (x : Int) : List Int := if x ∈ k then k else k ++ [x]
theorem mem_addI {k : List Int} {x y : Int} : y ∈ addI k x ↔ y ∈ k ∨ y = x := by
  unfold addI
  split
  · rename_i h
    exact ⟨.inl, fun h2 => h2.elim id (fun e => e ▸ h)⟩
  · simp
theorem nodup_addI {k : List Int} {x : Int} (h : k.Nodup) : (addI k x).Nodup := by
  unfold addI
  split
  · exact h
  · rename_i hx
    rw [List.nodup_append]
    refine ⟨h, by simp, ?_⟩
    intro a ha b hb
    simp at hb
    subst hb
    exact fun e => hx (e ▸ ha)
theorem foldI_mem : ∀ (r k : List Int) (y : Int), y ∈ r.foldl addI k ↔ y ∈ k ∨ y ∈ r
  | [], k, y => by simp
  | x :: r, k, y => by
    rw [List.foldl_cons, foldI_mem r, mem_addI, List.mem_cons]
    constructor
    · rintro ((h | h) | h)
      · exact .inl h
      · exact .inr (.inl h)
      · exact .inr (.inr h)
    · rintro (h | h | h)
      · exact .inl (.inl h)
      · exact .inl (.inr h)
      · exact .inr h
theorem foldI_nodup : ∀ (r k : List Int), k.Nodup → (r.foldl addI k).Nodup
  | [], _, h => h
  | x :: r, _, h => by rw [List.foldl_cons]; exact foldI_nodup r _ (nodup_addI h)
theorem foldI_pre : ∀ (r k : List Int), ∃ e, r.foldl addI k = k ++ e
  | [], k => ⟨[], by simp⟩
  | x :: r, k => by
    rw [List.foldl_cons]
    obtain ⟨e, he⟩ := foldI_pre r (addI k x)
    rw [he]
    unfold addI
    split
    · exact ⟨e, rfl⟩
    · exact ⟨[x] ++ e, by simp⟩
/-- The blocks to which a block's instructions refer. -/
def refI (b : PB) : List Int := (b.ins.filter fun x => x.op == 4 || x.op == 5).map Ins.a
/-- The blocks that are reached, from number i on. -/
def nddL (pb : List PB) : Nat → Nat → List Int → Option (List Int)
  | 0, _, _ => none
  | f + 1, i, k => match k[i]? with
    | none => some k
    | some n => if n < 0 ∨ (pb.length : Int) ≤ n then some k else nddL pb f (i + 1) ((refI (pb.getD n.toNat ⟨0, false, []⟩)).foldl addI k)
/-- Numbers of blocks, each once. -/
structure Nu (n : Nat) (k : List Int) : Prop where
  nd : k.Nodup
  ok : ∀ y ∈ k, 0 ≤ y ∧ y < n
theorem lenI_le {k m : List Int} (hk : k.Nodup) (h : ∀ y ∈ k, y ∈ m) : k.length ≤ m.length := by
  induction k generalizing m with
  | nil => simp
  | cons x k ih =>
    rw [List.nodup_cons] at hk
    have hx : x ∈ m := h x (by simp)
    have h1 := ih hk.2 (m := m.erase x) (fun y hy => by
      rw [List.mem_erase_of_ne]
      · exact h y (by simp [hy])
      · intro e; exact hk.1 (e ▸ hy))
    rw [List.length_erase_of_mem hx] at h1
    have := List.length_pos_of_mem hx
    simp only [List.length_cons]
    omega
def nums (n : Nat) : List Int := (List.range n).map fun j : Nat => (j : Int)
theorem mem_nums {n : Nat} {y : Int} : y ∈ nums n ↔ 0 ≤ y ∧ y < n := by
  unfold nums
  rw [List.mem_map]
  constructor
  · rintro ⟨j, hj, rfl⟩
    rw [List.mem_range] at hj
    omega
  · intro h
    exact ⟨y.toNat, by rw [List.mem_range]; omega, by omega⟩
theorem nums_len (n : Nat) : (nums n).length = n := by simp [nums]
theorem nums_nodup (n : Nat) : (nums n).Nodup := by
  unfold nums
  exact List.Pairwise.map _ (fun a b h e => h (by omega)) List.nodup_range
theorem Nu.len {n : Nat} {k : List Int} (h : Nu n k) : k.length ≤ n := by
  have := lenI_le h.nd (m := nums n) fun y hy => mem_nums.2 (h.ok y hy)
  rwa [nums_len] at this
/-- Where all numbers are in range the search ends with a closed list. -/
theorem nddL_ok {pb : List PB} (hr : ∀ b ∈ pb, ∀ a ∈ refI b, 0 ≤ a ∧ a < pb.length) : ∀ (f i : Nat) (k : List Int), Nu pb.length k → i ≤ k.length → pb.length < f + i →
    ∃ r, nddL pb f i k = some r ∧ Nu pb.length r ∧ (∃ e, r = k ++ e) ∧ ∀ j n, i ≤ j → r[j]? = some n → ∀ a ∈ refI (pb.getD n.toNat ⟨0, false, []⟩), a ∈ r
  | 0, i, k, h, hi, hf => by have := h.len; omega
  | f + 1, i, k, h, hi, hf => by
    rw [nddL]
    split
    · rename_i hs
      have hlen := List.getElem?_eq_none_iff.1 hs
      refine ⟨k, rfl, h, ⟨[], by simp⟩, fun j n hj e => ?_⟩
      have := (List.getElem?_eq_some_iff.1 e).1
      omega
    · rename_i n hn
      have hlt := (List.getElem?_eq_some_iff.1 hn).1
      obtain ⟨n1, n2⟩ := h.ok n (List.mem_of_getElem? hn)
      rw [if_neg (by omega)]
      have hb : pb.getD n.toNat ⟨0, false, []⟩ ∈ pb := by
        rw [List.getD_eq_getElem?_getD, List.getElem?_eq_getElem (by omega)]
        exact List.getElem_mem _
      obtain ⟨e1, he1⟩ := foldI_pre (refI (pb.getD n.toNat ⟨0, false, []⟩)) k
      have hk' : Nu pb.length ((refI (pb.getD n.toNat ⟨0, false, []⟩)).foldl addI k) := ⟨foldI_nodup _ _ h.nd, fun y hy => by
        rcases (foldI_mem _ _ _).1 hy with h1 | h1
        · exact h.ok y h1
        · exact hr _ hb y h1⟩
      obtain ⟨r, h1, h2, ⟨e2, he2⟩, h4⟩ := nddL_ok hr f (i + 1) _ hk' (by rw [he1, List.length_append]; omega) (by omega)
      refine ⟨r, h1, h2, ⟨e1 ++ e2, by rw [he2, he1, List.append_assoc]⟩, fun j m hj hjm a ha => ?_⟩
      by_cases h5 : j = i
      · subst h5
        have hjn : r[j]? = some n := by rw [he2, he1, List.append_assoc, List.getElem?_append_left hlt]; exact hn
        rw [hjn] at hjm
        cases hjm
        rw [he2, List.mem_append]
        exact .inl ((foldI_mem _ _ _).2 (.inr ha))
      · exact h4 j m (by omega) hjm a ha
theorem idx_lt {k : List Sp} {t : Sp} (h : t ∈ k) : k.idxOf t < k.length := List.idxOf_lt_length_iff.2 h
theorem idx_at {k : List Sp} (h : k.Nodup) {j : Nat} {t : Sp} (e : k[j]? = some t) : k.idxOf t = j := by
  obtain ⟨hj, e⟩ := List.getElem?_eq_some_iff.1 e
  have hm : t ∈ k := e ▸ List.getElem_mem hj
  have h1 := List.getElem_idxOf (idx_lt hm)
  exact (List.getElem_inj h).1 (h1.trans e.symm)
theorem refI_relab {l : List PC} {k : List Sp} {s : Sp} (hc : ∀ x ∈ (blkAt l s).ins, ∀ t, tgt l s x = some t → ∃ u, t = some u ∧ u ∈ k) {a : Int} : a ∈ refI (blkP l k s) ↔ ∃ x ∈ (blkAt l s).ins, ∃ u, tgt l s x = some (some u) ∧ a = k.idxOf u := by
  unfold refI blkP
  simp only [List.mem_map, List.mem_filter]
  constructor
  · rintro ⟨y, ⟨⟨x, hx, rfl⟩, ho⟩, rfl⟩
    have hop : (relab l k s x).op = x.op := by
      unfold relab
      split <;> rfl
    rw [hop] at ho
    obtain ⟨t, ht⟩ : ∃ t, tgt l s x = some t := by
      unfold tgt
      by_cases h4 : x.op = 4
      · exact ⟨_, if_pos h4⟩
      · by_cases h5 : x.op = 5
        · exact ⟨_, by rw [if_neg h4, if_pos h5]⟩
        · simp [h4, h5] at ho
    obtain ⟨u, rfl, hu⟩ := hc x hx t ht
    refine ⟨x, hx, u, ht, ?_⟩
    unfold relab
    rw [ht]
  · rintro ⟨x, hx, u, ht, rfl⟩
    refine ⟨relab l k s x, ⟨⟨x, hx, rfl⟩, ?_⟩, ?_⟩
    · have hop : (relab l k s x).op = x.op := by
        unfold relab
        split <;> rfl
      rw [hop]
      unfold tgt at ht
      by_cases h4 : x.op = 4
      · simp [h4]
      · rw [if_neg h4] at ht
        by_cases h5 : x.op = 5
        · simp [h5]
        · rw [if_neg h5] at ht; cases ht
    · unfold relab
      rw [ht]
/-- All blocks of a program that was linked are reached. -/
theorem linked_needed {l : List PC} (hl : CsOk l) {k0 k : List Sp} (hk0 : Kn l k0) {f : Nat} (hb : bfs l f 0 k0 = some (some k)) {st : List Int} (h1 : ∀ a ∈ st, ∃ s, s ∈ k0 ∧ a = k.idxOf s) (h2 : ∀ s ∈ k0, (k.idxOf s : Int) ∈ st) :
    ∃ r, nddL (progB l k) (k.length + 1) 0 (st.foldl addI []) = some r ∧ r.length = k.length ∧ (∀ j : Nat, j < k.length → (j : Int) ∈ r) ∧ ∀ y ∈ r, 0 ≤ y ∧ y < k.length := by
  have F := bfs_fnd hl f 0 k0 k hk0 (Nat.zero_le _) hb
  obtain ⟨e0, he0⟩ := F.pre
  have hpl : (progB l k).length = k.length := by unfold progB; rw [List.length_map]
  have cl : ∀ s ∈ k, ∀ x ∈ (blkAt l s).ins, ∀ t, tgt l s x = some t → ∃ u, t = some u ∧ u ∈ k := fun s hs => by
    obtain ⟨j, hj⟩ := List.getElem?_of_mem hs
    exact F.cl j s (Nat.zero_le _) hj
  have gp : ∀ j s, k[j]? = some s → (progB l k)[j]? = some (blkP l k s) := fun j s e => by unfold progB; rw [List.getElem?_map, e]; rfl
  obtain ⟨r, e1, e2, ⟨e3, he3⟩, e4⟩ := nddL_ok (pb := progB l k) (fun b hb a ha => by
    unfold progB at hb
    obtain ⟨s, hs, rfl⟩ := List.mem_map.1 hb
    obtain ⟨x, hx, u, ht, rfl⟩ := (refI_relab (cl s hs)).1 ha
    obtain ⟨u', e, hu⟩ := cl s hs x hx _ ht
    cases e
    rw [hpl]
    have := idx_lt hu
    omega) (k.length + 1) 0 (st.foldl addI []) ⟨foldI_nodup _ _ List.nodup_nil, fun y hy => by
      rcases (foldI_mem _ _ _).1 hy with h | h
      · cases h
      · obtain ⟨s, hs, rfl⟩ := h1 y h
        have : s ∈ k := by rw [he0, List.mem_append]; exact .inl hs
        have := idx_lt this
        rw [hpl]
        omega⟩ (Nat.zero_le _) (by omega)
  rw [hpl] at e2
  have all : ∀ m j : Nat, j < m → j < k.length → (j : Int) ∈ r := by
    intro m
    induction m with
    | zero => intro j h; omega
    | succ m ih =>
      intro j hjm hj
      by_cases hjk : j < k0.length
      · have hm : k0[j]? = some (k0[j]) := List.getElem?_eq_getElem hjk
        have hm2 : k[j]? = some (k0[j]) := by rw [he0, List.getElem?_append_left hjk]; exact hm
        have h := h2 _ (List.getElem_mem hjk)
        rw [idx_at F.kn.nd hm2] at h
        rw [he3, List.mem_append]
        exact .inl ((foldI_mem _ _ _).2 (.inr h))
      · obtain ⟨j', s, x, hlt, hs, hx, ht⟩ := F.src j k[j] (by omega) (List.getElem?_eq_getElem hj)
        have hr := ih j' (by omega) (by omega)
        obtain ⟨i, hi⟩ := List.getElem?_of_mem hr
        have hcl := e4 i j' (Nat.zero_le _) hi
        rw [show (j' : Int).toNat = j' from rfl, List.getD_eq_getElem?_getD, gp _ _ hs] at hcl
        have := hcl (k.idxOf k[j]) ((refI_relab (cl s (List.mem_of_getElem? hs))).2 ⟨x, hx, _, ht, rfl⟩)
        rwa [idx_at F.kn.nd (List.getElem?_eq_getElem hj)] at this
  refine ⟨r, e1, ?_, fun j hj => all _ j (Nat.lt_succ_self _) hj, e2.ok⟩
  refine Nat.le_antisymm e2.len ?_
  have := lenI_le (nums_nodup k.length) (m := r) fun y hy => by
    obtain ⟨a, b⟩ := mem_nums.1 hy
    have := all _ y.toNat (Nat.lt_succ_self _) (by omega)
    rwa [show ((y.toNat : Nat) : Int) = y from by omega] at this
  rwa [nums_len] at this
theorem findC_some : ∀ (l : List PC) (i : Nat) (p : T) (n : Int) (s : Sp), findC l i p n = some s → ∃ j c d, l[j]? = some c ∧ s = ⟨i + j, d.block⟩ ∧ c.label = p ∧ c.decls.find? (fun d => d.id == n) = some d
  | [], _, _, _, _, e => by cases e
  | c :: l, i, p, n, s, e => by
    rw [findC] at e
    split at e
    · rename_i d hd
      cases e
      split at hd
      · rename_i hp
        exact ⟨0, c, d, rfl, rfl, hp, hd⟩
      · cases hd
    · obtain ⟨j, c', d, h1, h2, h3, h4⟩ := findC_some l (i + 1) p n s e
      exact ⟨j + 1, c', d, by simpa using h1, by rw [h2]; congr 1; omega, h3, h4⟩
theorem findC_of : ∀ (l : List PC) (i : Nat) (p : T) (n : Int), (l.map PC.label).Nodup → ∀ (j : Nat) (c : PC) (d : Dcl), l[j]? = some c → c.label = p → c.decls.find? (fun d => d.id == n) = some d → findC l i p n = some ⟨i + j, d.block⟩
  | [], _, _, _, _, _, _, _, e, _, _ => by simp at e
  | c :: l, i, p, n, h, 0, c', d, e, hp, hd => by
    cases e
    rw [findC, if_pos hp, hd]
    rfl
  | c :: l, i, p, n, h, j + 1, c', d, e, hp, hd => by
    rw [List.map_cons, List.nodup_cons] at h
    have e' : l[j]? = some c' := by simpa using e
    have hne : c.label ≠ p := fun h2 => h.1 (by rw [h2, ← hp]; exact List.mem_map.2 ⟨c', List.mem_of_getElem? e', rfl⟩)
    rw [findC, if_neg hne]
    simp only
    rw [findC_of l (i + 1) p n h.2 j c' d e' hp hd]
    congr 2
    omega
/-- Codes lie among others. -/
structure Emb (l' l : List PC) (σ : Nat → Nat) : Prop where
  inj : ∀ i j, i < l'.length → j < l'.length → σ i = σ j → i = j
  at' : ∀ (i : Nat) c, l'[i]? = some c → l[σ i]? = some c
  nd : (l.map PC.label).Nodup
def sg (σ : Nat → Nat) (s : Sp) : Sp := ⟨σ s.code, s.block⟩
section
variable {l' l : List PC} {σ : Nat → Nat}
theorem Emb.fc (h : Emb l' l σ) {p : T} {n : Int} {s : Sp} (e : findC l' 0 p n = some s) : findC l 0 p n = some (sg σ s) := by
  obtain ⟨j, c, d, h1, rfl, h3, h4⟩ := findC_some _ _ _ _ _ e
  rw [findC_of l 0 p n h.nd (σ j) c d (h.at' j c h1) h3 h4]
  simp [sg]
theorem SpOk.lt {l : List PC} {s : Sp} (h : SpOk l s) : s.code < l.length := by
  obtain ⟨c, hc, -⟩ := h
  exact (List.getElem?_eq_some_iff.1 hc).1
theorem Emb.sinj (h : Emb l' l σ) {s t : Sp} (hs : SpOk l' s) (ht : SpOk l' t) (e : sg σ s = sg σ t) : s = t := by
  obtain ⟨a, b⟩ := s
  obtain ⟨c, d⟩ := t
  simp only [sg, Sp.mk.injEq] at e
  rw [h.inj a c hs.lt ht.lt e.1, e.2]
theorem Emb.blk (h : Emb l' l σ) {s : Sp} (hs : SpOk l' s) : blkAt l (sg σ s) = blkAt l' s := by
  obtain ⟨c, hc, -⟩ := hs
  unfold blkAt
  rw [hc, show (sg σ s).code = σ s.code from rfl, h.at' _ _ hc]
  rfl
theorem Emb.tg (h : Emb l' l σ) {s t : Sp} {x : Ins} (e : tgt l' s x = some (some t)) : tgt l (sg σ s) x = some (some (sg σ t)) := by
  unfold tgt at e ⊢
  split at e
  · rename_i h4
    rw [if_pos h4]
    simp only [Option.some.injEq] at e ⊢
    exact h.fc e
  · rename_i h4
    rw [if_neg h4]
    split at e
    · rename_i h5
      rw [if_pos h5]
      simp only [Option.some.injEq] at e ⊢
      rw [← e]
      rfl
    · cases e
theorem tgt_none {l : List PC} {s : Sp} {x : Ins} : tgt l s x = none ↔ x.op ≠ 4 ∧ x.op ≠ 5 := by
  unfold tgt
  by_cases h4 : x.op = 4
  · simp [h4]
  · by_cases h5 : x.op = 5
    · simp [h5]
    · simp [h4, h5]
theorem Emb.fm (h : Emb l' l σ) (s : Sp) : ∀ (xs : List Ins), none ∉ xs.filterMap (tgt l' s) → xs.filterMap (tgt l (sg σ s)) = (xs.filterMap (tgt l' s)).map (Option.map (sg σ))
  | [], _ => rfl
  | x :: xs, hn => by
    rw [List.filterMap_cons] at hn ⊢
    rw [List.filterMap_cons]
    cases hx : tgt l' s x with
    | none =>
      rw [hx] at hn
      have h1 := tgt_none.1 hx
      rw [(tgt_none (l := l) (s := sg σ s)).2 h1]
      exact Emb.fm h s xs hn
    | some t =>
      rw [hx] at hn
      cases t with
      | none => simp at hn
      | some t =>
        rw [h.tg hx]
        simp only [List.map_cons, Option.map_some]
        rw [Emb.fm h s xs (fun h2 => hn (List.mem_cons_of_mem _ h2))]
theorem mem_map_sg (h : Emb l' l σ) {k : List Sp} (hk : ∀ s ∈ k, SpOk l' s) {t : Sp} (ht : SpOk l' t) : sg σ t ∈ k.map (sg σ) ↔ t ∈ k := by
  rw [List.mem_map]
  constructor
  · rintro ⟨s, hs, e⟩
    rw [← h.sinj (hk s hs) ht e]
    exact hs
  · intro ht'
    exact ⟨t, ht', rfl⟩
theorem addS_sg (h : Emb l' l σ) {k : List Sp} (hk : ∀ s ∈ k, SpOk l' s) {t : Sp} (ht : SpOk l' t) : addS (k.map (sg σ)) (sg σ t) = (addS k t).map (sg σ) := by
  unfold addS
  by_cases h1 : t ∈ k
  · rw [if_pos h1, if_pos ((mem_map_sg h hk ht).2 h1)]
  · rw [if_neg h1, if_neg (fun h2 => h1 ((mem_map_sg h hk ht).1 h2))]
    simp
theorem addAll_sg (h : Emb l' l σ) : ∀ (r : List (Option Sp)) (k k' : List Sp), (∀ s ∈ k, SpOk l' s) → (∀ t, some t ∈ r → SpOk l' t) → addAll k r = some k' → addAll (k.map (sg σ)) (r.map (Option.map (sg σ))) = some (k'.map (sg σ))
  | [], k, k', _, _, e => by cases e; rfl
  | none :: _, _, _, _, _, e => by cases e
  | some x :: r, k, k', hk, hr, e => by
    rw [addAll] at e
    have hx := hr x (by simp)
    rw [List.map_cons, Option.map_some, addAll, addS_sg h hk hx]
    exact addAll_sg h r _ _ (fun s hs => by
      rcases mem_addS.1 hs with h1 | rfl
      · exact hk s h1
      · exact hx) (fun t ht => hr t (by simp [ht])) e
theorem bfs_sg (h : Emb l' l σ) (hl : CsOk l') : ∀ (f i : Nat) (k r : List Sp), Kn l' k → bfs l' f i k = some (some r) → bfs l f i (k.map (sg σ)) = some (some (r.map (sg σ)))
  | 0, _, _, _, _, e => by cases e
  | f + 1, i, k, r, hk, e => by
    rw [bfs] at e ⊢
    split at e
    · rename_i hs
      cases e
      rw [List.getElem?_map, hs]
      rfl
    · rename_i s hs
      rw [List.getElem?_map, hs]
      simp only [Option.map_some]
      split at e
      · cases e
      · rename_i k' hk'
        have hm := List.mem_of_getElem? hs
        have hok := hk.ok s hm
        rw [h.blk hok, h.fm s _ (addAll_mem _ _ _ hk').2, addAll_sg h _ _ _ hk.ok (fun t ht => by
          obtain ⟨x, hx, e2⟩ := List.mem_filterMap.1 ht
          exact tgt_ok hl hok hx e2) hk']
        exact bfs_sg h hl f (i + 1) k' r (hk.step hl hm hk') e
theorem rootsK_sg (h : Emb l' l σ) (hl : CsOk l') : ∀ (r : List (T × Int)) (k k' : List Sp), Kn l' k → rootsK l' k r = some k' → rootsK l (k.map (sg σ)) r = some (k'.map (sg σ))
  | [], _, _, _, e => by cases e; rfl
  | n :: r, k, k', hk, e => by
    rw [rootsK] at e ⊢
    split at e
    · cases e
    · rename_i s hs
      have hso : SpOk l' s := findC_ok hl l' 0 _ _ _ (fun j c hj => by simpa using hj) hs
      rw [h.fc hs]
      simp only
      rw [addS_sg h hk.ok hso]
      exact rootsK_sg h hl r _ _ ⟨nodup_addS hk.nd, fun y hy => by
        rcases mem_addS.1 hy with h1 | rfl
        · exact hk.ok y h1
        · exact hso⟩ e
theorem idx_sg (h : Emb l' l σ) {t : Sp} (ht : SpOk l' t) : ∀ {k : List Sp}, (∀ s ∈ k, SpOk l' s) → (k.map (sg σ)).idxOf (sg σ t) = k.idxOf t
  | [], _ => rfl
  | s :: k, hk => by
    rw [List.map_cons, List.idxOf_cons, List.idxOf_cons, idx_sg h ht (fun u hu => hk u (by simp [hu]))]
    by_cases e : s = t
    · subst e; simp
    · have : sg σ s ≠ sg σ t := fun e2 => e (h.sinj (hk s (by simp)) ht e2)
      rw [show (s == t) = false from by simpa using e, show (sg σ s == sg σ t) = false from by simpa using this]
theorem prog_sg (h : Emb l' l σ) {k : List Sp} (hk : ∀ s ∈ k, SpOk l' s) (hc : ∀ s ∈ k, ∀ x ∈ (blkAt l' s).ins, ∀ t, tgt l' s x = some t → ∃ u, t = some u ∧ u ∈ k) : progB l (k.map (sg σ)) = progB l' k := by
  unfold progB
  rw [List.map_map]
  refine List.map_congr_left fun s hs => ?_
  show blkP l (k.map (sg σ)) (sg σ s) = blkP l' k s
  unfold blkP
  rw [h.blk (hk s hs)]
  congr 1
  refine List.map_congr_left fun x hx => ?_
  unfold relab
  cases ht : tgt l' s x with
  | none => rw [(tgt_none (l := l) (s := sg σ s)).2 (tgt_none.1 ht)]
  | some t =>
    obtain ⟨u, rfl, hu⟩ := hc s hs x hx t ht
    rw [h.tg ht]
    show (⟨x.op, (k.map (sg σ)).idxOf (sg σ u), x.b, []⟩ : Ins) = ⟨x.op, k.idxOf u, x.b, []⟩
    rw [idx_sg h (hk u hu) hk]
end
theorem bfs_more {l : List PC} : ∀ (f m i : Nat) (k : List Sp) (r : Option (List Sp)), bfs l f i k = some r → bfs l (f + m) i k = some r
  | 0, _, _, _, _, e => by cases e
  | f + 1, m, i, k, r, e => by
    rw [show f + 1 + m = f + m + 1 from by omega, bfs]
    rw [bfs] at e
    split
    · rename_i hs
      rw [hs] at e
      exact e
    · rename_i s hs
      rw [hs] at e
      simp only at e
      split
      · rename_i h
        rw [h] at e
        exact e
      · rename_i k' h
        rw [h] at e
        exact bfs_more f m (i + 1) k' r e
theorem bfs_same {l : List PC} {f g i : Nat} {k : List Sp} {r r' : Option (List Sp)} (h1 : bfs l f i k = some r) (h2 : bfs l g i k = some r') : r = r' := by
  have a := bfs_more f g i k r h1
  have b := bfs_more g f i k r' h2
  rw [Nat.add_comm g f] at b
  rw [a] at b
  exact Option.some.inj b
/-- The same codes in the other order. -/
theorem emb_rev {l : List PC} (h : (l.map PC.label).Nodup) : Emb l l.reverse (fun i => l.length - 1 - i) :=
  ⟨fun i j hi hj e => by have e : l.length - 1 - i = l.length - 1 - j := e; omega, fun i c hc => by
    have hi := (List.getElem?_eq_some_iff.1 hc).1
    rw [List.getElem?_reverse (by omega)]
    rw [show l.length - 1 - (l.length - 1 - i) = i from by omega]
    exact hc, by rw [List.map_reverse]; exact (List.reverse_perm _).nodup_iff.2 h⟩
/-- One code less. -/
theorem emb_erase {l : List PC} (n : Nat) (h : (l.map PC.label).Nodup) : Emb (l.eraseIdx n) l (fun i => if i < n then i else i + 1) :=
  ⟨fun i j _ _ e => by
    have e : (if i < n then i else i + 1) = (if j < n then j else j + 1) := e
    split at e <;> split at e <;> omega, fun i c hc => by
    rw [List.getElem?_eraseIdx] at hc
    show l[if i < n then i else i + 1]? = some c
    split
    · rename_i h1; rw [if_pos h1] at hc; exact hc
    · rename_i h1; rw [if_neg h1] at hc; exact hc, h⟩
end Go.Proofs.YtgboboljgcfggaaDoor
namespace Go.Proofs.YtgboboljgcfggaaDoor
open Go.RowKit

def cI (x y : Int) : Int := if x < y then -1 else if y < x then 1 else 0
def cS (x y : T) : Int := if x < y then -1 else if x = y then 0 else 1
/-- One name before another. -/
def nmLt (p : T) (i : Int) (q : T) (j : Int) : Bool := decide (p < q) || (p == q && decide (i < j))
def cN (p : T) (i : Int) (q : T) (j : Int) : Int := if cS p q ≠ 0 then cS p q else cI i j
theorem cN_lt (p : T) (i : Int) (q : T) (j : Int) : decide (0 ≤ cN p i q j) = !nmLt p i q j := by
  unfold cN cS cI nmLt
  by_cases h1 : p < q
  · simp [h1]
  · by_cases h2 : p = q
    · subst h2
      by_cases h3 : i < j
      · simp [h1, h3]
      · by_cases h4 : j < i <;> simp [h1, h3, h4]
    · simp [h1, h2]

set_option maxRecDepth 100000 in
theorem cmpInt_any (x y : Int) (w : World) : Calls Tryd.prog 58 #[.int .i64 x, .int .i64 y] w fun e w' => e = .returned (.int .i64 (cI x y)) ∧ w' = w := by
  unfold cI
  by_cases h1 : x < y
  · rw [if_pos h1]
    go_enter Tryd.func58, Tryd.ntmps58
    go_wp2
    go_ret
    exact ⟨rfl, rfl⟩
  · rw [if_neg h1]
    by_cases h2 : y < x
    · rw [if_pos h2]
      go_enter Tryd.func58, Tryd.ntmps58
      go_wp2
      go_ret
      exact ⟨rfl, rfl⟩
    · rw [if_neg h2]
      go_enter Tryd.func58, Tryd.ntmps58
      go_wp2
      go_ret
      exact ⟨rfl, rfl⟩
set_option maxRecDepth 100000 in
theorem cmpStr_any (x y : T) (w : World) : Calls Tryd.prog 57 #[tv x, tv y] w fun e w' => e = .returned (.int .i64 (cS x y)) ∧ w' = w := by
  unfold cS
  by_cases h1 : x < y
  · rw [if_pos h1]
    have t1 : Op.bytesLess x y = true := by rw [bytesLess_eq]; simpa using h1
    clear h1
    go_enter Tryd.func57, Tryd.ntmps57
    go_wp2
    go_ret
    exact ⟨rfl, rfl⟩
  · rw [if_neg h1]
    have t1 : Op.bytesLess x y = false := by rw [bytesLess_eq]; simpa using h1
    clear h1
    by_cases h2 : x = y
    · rw [if_pos h2]
      have t2 : (x == y) = true := by simpa using h2
      clear h2
      go_enter Tryd.func57, Tryd.ntmps57
      go_wp2
      go_ret
      exact ⟨rfl, rfl⟩
    · rw [if_neg h2]
      have t2 : (x == y) = false := by simpa using h2
      clear h2
      go_enter Tryd.func57, Tryd.ntmps57
      go_wp2
      go_ret
      exact ⟨rfl, rfl⟩
set_option maxRecDepth 100000 in
theorem or2_any (x y : Int) (g : Nat) (w : World) (c0 : w.cell? ⟨g, 0, none⟩ = some (.int .i64 x)) (c1 : w.cell? ⟨g, 1, none⟩ = some (.int .i64 y)) : Calls Tryd.prog 56 #[.slice (some ⟨g, 0, none⟩) 2 2] w fun e w' => e = .returned (.int .i64 (if x ≠ 0 then x else y)) ∧ w' = w := by
  by_cases h1 : x = 0
  · rw [if_neg (by simpa using h1)]
    subst h1
    by_cases h2 : y = 0
    · subst h2
      go_enter Tryd.func56, Tryd.ntmps56
      go_wp2
      refine wp_loop_rounds 3 ?_
      rw [rounds_succ]
      go_wp2
      rw [rounds_succ]
      go_wp2
      rw [rounds_succ]
      go_wp2
      go_ret
      exact ⟨rfl, rfl⟩
    · have t2 : (y != 0) = true := by simpa using h2
      clear h2
      go_enter Tryd.func56, Tryd.ntmps56
      go_wp2
      refine wp_loop_rounds 2 ?_
      rw [rounds_succ]
      go_wp2
      rw [rounds_succ]
      go_wp2
      go_ret
      exact ⟨rfl, rfl⟩
  · rw [if_pos (by simpa using h1)]
    have t2 : (x != 0) = true := by simpa using h1
    clear h1
    go_enter Tryd.func56, Tryd.ntmps56
    go_wp2
    refine wp_loop_rounds 1 ?_
    rw [rounds_succ]
    go_wp2
    go_ret
    exact ⟨rfl, rfl⟩
set_option maxRecDepth 100000 in
set_option maxHeartbeats 2000000 in
theorem less_any (p : T) (i : Int) (q : T) (j : Int) (w : World) : Calls Tryd.prog 61 #[.agg #[tv p, .int .i64 i], .agg #[tv q, .int .i64 j]] w fun e w' => e = .returned (.bool (nmLt p i q j)) ∧ Below w.heap.size w w' := by
  have bel : ∀ o o', Below w.heap.size w ((w.alloc o).alloc o') := fun o o' => ((Below.refl _ _).alloc (Nat.le_refl _) _).alloc (by simp) _
  have BEL := Lib.hid bel
  clear bel
  unfold nmLt
  rw [← bytesLess_eq]
  cases h1 : Op.bytesLess p q with
  | true =>
    go_enter Tryd.func61, Tryd.ntmps61
    go_wp2
    go_ret
    exact ⟨rfl, BEL.out _ _⟩
  | false =>
    cases h2 : (p == q) with
    | true =>
      go_enter Tryd.func61, Tryd.ntmps61
      go_wp2
      go_ret
      exact ⟨rfl, BEL.out _ _⟩
    | false =>
      go_enter Tryd.func61, Tryd.ntmps61
      go_wp2
      go_ret
      exact ⟨rfl, BEL.out _ _⟩
end Go.Proofs.YtgboboljgcfggaaDoor
namespace Go.Proofs.YtgboboljgcfggaaDoor

/-- One start before another. -/
def nlt (a b : Stt) : Prop := nmLt a.pack a.id b.pack b.id = true
theorem nlt_iff {a b : Stt} : nlt a b ↔ a.pack < b.pack ∨ a.pack = b.pack ∧ a.id < b.id := by
  unfold nlt nmLt
  simp
theorem nlt_irr (a : Stt) : ¬ nlt a a := by
  rw [nlt_iff]
  rintro (h | ⟨-, h⟩)
  · exact List.lt_irrefl _ h
  · omega
theorem nlt_tr {a b c : Stt} (h : nlt a b) (k : nlt b c) : nlt a c := by
  rw [nlt_iff] at *
  rcases h with h | ⟨h, h'⟩ <;> rcases k with k | ⟨k, k'⟩
  · exact .inl (List.lt_trans h k)
  · exact .inl (k ▸ h)
  · exact .inl (h ▸ k)
  · exact .inr ⟨h.trans k, by omega⟩
theorem nlt_tri (a b : Stt) : nlt a b ∨ (a.pack = b.pack ∧ a.id = b.id) ∨ nlt b a := by
  rw [nlt_iff, nlt_iff]
  by_cases h1 : a.pack < b.pack
  · exact .inl (.inl h1)
  · by_cases h2 : b.pack < a.pack
    · exact .inr (.inr (.inl h2))
    · have e : a.pack = b.pack := List.le_antisymm h2 h1
      rcases Int.lt_trichotomy a.id b.id with h | h | h
      · exact .inl (.inr ⟨e, h⟩)
      · exact .inr (.inl ⟨e, h⟩)
      · exact .inr (.inr (.inr ⟨e.symm, h⟩))
/-- Sorted starts with one more, each name once. -/
def insS : List Stt → Stt → List Stt
  | [], s => [s]
  | x :: l, s => if nmLt x.pack x.id s.pack s.id = true then x :: insS l s else if x.pack = s.pack ∧ x.id = s.id then x :: l else s :: x :: l
theorem insS_mem {s : Stt} : ∀ {l : List Stt}, l.Pairwise nlt → (∀ x ∈ l, x.pack = s.pack → x.id = s.id → x = s) → ∀ y, y ∈ insS l s ↔ y ∈ l ∨ y = s
  | [], _, _, y => by simp [insS]
  | x :: l, h, hf, y => by
    rw [List.pairwise_cons] at h
    rw [insS]
    split
    · rw [List.mem_cons, insS_mem h.2 (fun z hz => hf z (by simp [hz])), List.mem_cons]
      constructor
      · rintro (h | h | h) <;> simp [h]
      · rintro ((h | h) | h) <;> simp [h]
    · split
      · rename_i h2
        have := hf x (by simp) h2.1 h2.2
        subst this
        simp only [List.mem_cons]
        exact ⟨.inl, fun h => h.elim id .inl⟩
      · simp [or_comm]
theorem insS_srt {s : Stt} : ∀ {l : List Stt}, l.Pairwise nlt → (∀ x ∈ l, x.pack = s.pack → x.id = s.id → x = s) → (insS l s).Pairwise nlt
  | [], _, _ => by simp [insS]
  | x :: l, h, hf => by
    have h0 := h
    rw [List.pairwise_cons] at h
    rw [insS]
    split
    · rename_i h1
      rw [List.pairwise_cons]
      refine ⟨fun y hy => ?_, insS_srt h.2 fun z hz => hf z (by simp [hz])⟩
      rcases (insS_mem h.2 (fun z hz => hf z (by simp [hz])) y).1 hy with h2 | rfl
      · exact h.1 y h2
      · exact h1
    · rename_i h1
      split
      · exact h0
      · rename_i h2
        rw [List.pairwise_cons]
        have hs : nlt s x := by
          rcases nlt_tri s x with h3 | h3 | h3
          · exact h3
          · exact absurd ⟨h3.1.symm, h3.2.symm⟩ h2
          · exact absurd h3 h1
        refine ⟨fun y hy => ?_, h0⟩
        rcases List.mem_cons.1 hy with rfl | hy
        · exact hs
        · exact nlt_tr hs (h.1 y hy)
/-- Sorted lists with the same elements are equal. -/
theorem srt_uniq : ∀ {l m : List Stt}, l.Pairwise nlt → m.Pairwise nlt → (∀ y, y ∈ l ↔ y ∈ m) → l = m
  | [], [], _, _, _ => rfl
  | [], y :: m, _, _, h => by have := (h y).2 (by simp); cases this
  | x :: l, [], _, _, h => by have := (h x).1 (by simp); cases this
  | x :: l, y :: m, hl, hm, h => by
    rw [List.pairwise_cons] at hl hm
    have e : x = y := by
      rcases List.mem_cons.1 ((h x).1 (by simp)) with e | h1
      · exact e
      · rcases List.mem_cons.1 ((h y).2 (by simp)) with e | h2
        · exact e.symm
        · exact absurd (nlt_tr (hm.1 x h1) (hl.1 y h2)) (nlt_irr _)
    subst e
    rw [srt_uniq hl.2 hm.2 fun z => ?_]
    constructor
    · intro hz
      rcases List.mem_cons.1 ((h z).1 (by simp [hz])) with e | h1
      · subst e; exact absurd (hl.1 z hz) (nlt_irr _)
      · exact h1
    · intro hz
      rcases List.mem_cons.1 ((h z).2 (by simp [hz])) with e | h1
      · subst e; exact absurd (hm.1 z hz) (nlt_irr _)
      · exact h1
/-- Starts by names, a name's block being a function of it. -/
def stOf (b : T × Int → Int) (n : T × Int) : Stt := ⟨n.1, n.2, b n⟩
theorem foldS {b : T × Int → Int} : ∀ (r done : List (T × Int)) (l : List Stt), l.Pairwise nlt → (∀ y, y ∈ l ↔ ∃ n ∈ done, y = stOf b n) → (r.foldl (fun l n => insS l (stOf b n)) l).Pairwise nlt ∧ ∀ y, y ∈ r.foldl (fun l n => insS l (stOf b n)) l ↔ ∃ n ∈ done ++ r, y = stOf b n
  | [], done, l, h, hm => ⟨h, by simpa using hm⟩
  | n :: r, done, l, h, hm => by
    rw [List.foldl_cons]
    have hf : ∀ x ∈ l, x.pack = (stOf b n).pack → x.id = (stOf b n).id → x = stOf b n := fun x hx e1 e2 => by
      obtain ⟨m, -, rfl⟩ := (hm x).1 hx
      obtain ⟨m1, m2⟩ := m
      obtain ⟨n1, n2⟩ := n
      simp only [stOf] at e1 e2
      subst e1
      subst e2
      rfl
    obtain ⟨a, c⟩ := foldS r (done ++ [n]) (insS l (stOf b n)) (insS_srt h hf) (fun y => by
      rw [insS_mem h hf, hm]
      constructor
      · rintro (⟨m, h1, h2⟩ | h1)
        · exact ⟨m, by simp [h1], h2⟩
        · exact ⟨n, by simp, h1⟩
      · rintro ⟨m, h1, h2⟩
        rcases List.mem_append.1 h1 with h1 | h1
        · exact .inl ⟨m, h1, h2⟩
        · simp at h1
          subst h1
          exact .inr h2)
    exact ⟨a, by simpa using c⟩
/-- The starts of a program. -/
def startsOf (b : T × Int → Int) (r : List (T × Int)) : List Stt := r.foldl (fun l n => insS l (stOf b n)) []
theorem startsOf_srt (b : T × Int → Int) (r : List (T × Int)) : (startsOf b r).Pairwise nlt := (foldS r [] [] .nil (by simp)).1
theorem startsOf_mem (b : T × Int → Int) (r : List (T × Int)) (y : Stt) : y ∈ startsOf b r ↔ ∃ n ∈ r, y = stOf b n := by
  have := (foldS (b := b) r [] [] .nil (by simp)).2 y
  rw [List.nil_append] at this
  exact this
/-- Equal neighbours once. -/
def cmpS : List Stt → List Stt
  | [] => []
  | [x] => [x]
  | x :: y :: l => if x = y then cmpS (y :: l) else x :: cmpS (y :: l)
theorem cmpS_mem : ∀ (l : List Stt) (y : Stt), y ∈ cmpS l ↔ y ∈ l
  | [], _ => by simp [cmpS]
  | [_], _ => by simp [cmpS]
  | x :: z :: l, y => by
    rw [cmpS]
    split
    · rename_i e
      subst e
      rw [cmpS_mem (x :: l) y]
      simp
    · rw [List.mem_cons, cmpS_mem (z :: l) y, List.mem_cons (a := y) (b := x)]
/-- Sorted with equal neighbours, made strictly sorted. -/
theorem cmpS_srt : ∀ (l : List Stt), l.Pairwise (fun a b => nlt a b ∨ a = b) → (cmpS l).Pairwise nlt
  | [], _ => by simp [cmpS]
  | [_], _ => by simp [cmpS]
  | x :: z :: l, h => by
    rw [List.pairwise_cons] at h
    rw [cmpS]
    split
    · exact cmpS_srt _ h.2
    · rename_i hne
      rw [List.pairwise_cons]
      refine ⟨fun y hy => ?_, cmpS_srt _ h.2⟩
      rw [cmpS_mem] at hy
      have h2 := h.2
      rw [List.pairwise_cons] at h2
      have hxz : nlt x z := (h.1 z (by simp)).resolve_right hne
      rcases List.mem_cons.1 hy with rfl | hy
      · exact hxz
      · rcases h2.1 y hy with h3 | rfl
        · exact nlt_tr hxz h3
        · exact hxz
/-- Sorting and taking equal neighbours once is inserting one by one. -/
theorem cmpS_eq {b : T × Int → Int} {r : List (T × Int)} {l : List Stt} (hp : l.Perm (r.map (stOf b))) (hs : l.Pairwise (fun a b => nlt a b ∨ a = b)) : cmpS l = startsOf b r := by
  refine srt_uniq (cmpS_srt l hs) (startsOf_srt b r) fun y => ?_
  rw [cmpS_mem, hp.mem_iff, startsOf_mem, List.mem_map]
  constructor
  · rintro ⟨n, h1, h2⟩; exact ⟨n, h1, h2.symm⟩
  · rintro ⟨n, h1, h2⟩; exact ⟨n, h1, h2.symm⟩
end Go.Proofs.YtgboboljgcfggaaDoor
namespace Go.Proofs.YtgboboljgcfggaaDoor
open Go.RowKit Go.Maps Go.WideMaps

/-- Codes in memory. -/
structure CRd (w : World) (A : Option Addr) (L : List Cod) : Prop where
  rd : RD 3 Cod.cs w A L
  c : ∀ c ∈ L, c.Rd w
theorem CRd.gr {w w' : World} {A : Option Addr} {L : List Cod} (h : CRd w A L) (g : Gr w w') : CRd w' A L := ⟨h.rd.gr g, fun c hc => (h.c c hc).gr g⟩
theorem RD.cod {w : World} {A : Option Addr} {L : List Cod} (h : RD 3 Cod.cs w A L) {k : Nat} (hk : k < L.length) : ∃ a a1 : Addr, A = some a ∧ a.add (k * 3) = a1 ∧ a1.block < w.heap.size ∧ w.cell? a1 = some (.string ⟨L[k].label.toArray⟩) ∧ w.cell? ⟨a1.block, a1.off + 1, none⟩ = some (.slice L[k].bA L[k].bs.length L[k].bc) ∧ w.cell? ⟨a1.block, a1.off + 2, none⟩ = some (.slice L[k].dA L[k].ds.length L[k].dc) := by
  obtain ⟨a, e, hb, hc⟩ := h.at hk
  refine ⟨a, _, e, rfl, by rw [add_block]; exact hb, by simpa using hc 0 _ rfl, ?_, ?_⟩
  · rw [← fld_add _ 1 (by omega), add_add']; exact hc 1 _ rfl
  · rw [← fld_add _ 2 (by omega), add_add']; exact hc 2 _ rfl
/-- The error of a code among those before it. -/
def errK (L : List Cod) (k : Nat) : Int := match L[k]? with
  | none => 0
  | some c => if errC c ≠ 0 then errC c else if c.label ∈ (L.take k).map Cod.label then 7 else 0
/-- The error of codes. -/
def errL (L : List Cod) : Int := fe8 ((List.range L.length).map (errK L))
/-- Texts as keys. -/
theorem ktT : KT (κ := T) 9 (fun t => tv t) (fun t => t.length ≤ maxLen) where
  K := string_keyed Tryd.underlying9
  lit k hk := ⟨_, keyOf_string_mk Tryd.underlying9 (s := ⟨k.toArray⟩) (by simpa [ByteArray.size] using hk)⟩
  inj a b h := by simpa using h
/-- A name as a key. -/
structure Nam where
  pack : T
  id : Int
deriving DecidableEq
def Nam.v (n : Nam) : Value := .agg #[.string ⟨n.pack.toArray⟩, .int .i64 n.id]
def Nam.Ok (n : Nam) : Prop := n.pack.length ≤ maxLen ∧ (Lit.int .i64 n.id).wf = true
/-- A spot as a key. -/
def Sp.v (s : Sp) : Value := .agg #[iv s.code, iv s.block]
def Sp.Key (s : Sp) : Prop := (Lit.int .i64 s.code).wf = true ∧ (Lit.int .i64 s.block).wf = true
theorem laidOut' : laidOutB Tryd.prog = true := by kernel_rfl
theorem types_size : Tryd.prog.types.size = 218 := by kernel_rfl
theorem ktN : KT (κ := Nam) 39 Nam.v Nam.Ok where
  K := Keyed.of_law (deep_law_laid laidOut' (m := 2) (by omega) (of_decide_eq_true (by kernel_rfl)) (by kernel_rfl) (by rw [Tryd.underlying39]))
  lit k hk := by
    refine ⟨.string (keyBytes [.string k.pack, .int .i64 k.id]), ?_⟩
    unfold keyOf Nam.v
    rw [Tryd.underlying39]
    simp only
    rw [if_pos (by rw [show Tryd.prog.keyType 39 = true from by kernel_rfl]; simp [Value.formed, Tryd.underlying39]; kernel_rfl), types_size]
    have h3 : Tryd.prog.keyLits 218 3 [Value.int .i64 k.id] = some [.int .i64 k.id] := by
      unfold Program.keyLits
      simp [Tryd.underlying3, hk.2]
    have h9 : Tryd.prog.keyLits 218 9 [Value.string ⟨k.pack.toArray⟩] = some [.string k.pack] := by
      unfold Program.keyLits
      have := hk.1
      simp [Tryd.underlying9, ByteArray.size, this]
    unfold Program.keyLits
    rw [Tryd.underlying39]
    simp only
    rw [if_pos ⟨by rw [show Tryd.prog.cellsOf 39 = 2 from by kernel_rfl]; rfl, by kernel_rfl⟩]
    have c9 : Tryd.prog.cellsOf 9 = 1 := by kernel_rfl
    have c3 : Tryd.prog.cellsOf 3 = 1 := by kernel_rfl
    simp [List.mapM_cons, Value.cells, c9, c3, h9, h3]
  inj a b h := by
    obtain ⟨p, i⟩ := a
    obtain ⟨q, j⟩ := b
    simp only [Nam.v] at h
    simp at h
    simp [h]
theorem ktS : KT (κ := Sp) 68 Sp.v Sp.Key where
  K := Keyed.of_law (deep_law_laid laidOut' (m := 2) (by omega) (of_decide_eq_true (by kernel_rfl)) (by kernel_rfl) (by rw [Tryd.underlying68]))
  lit k hk := by
    refine ⟨.string (keyBytes [.int .i64 k.code, .int .i64 k.block]), ?_⟩
    unfold keyOf Sp.v
    rw [Tryd.underlying68]
    simp only
    rw [if_pos (by rw [show Tryd.prog.keyType 68 = true from by kernel_rfl]; simp [Value.formed, Tryd.underlying68]; kernel_rfl), types_size]
    have h3 : ∀ n : Int, (Lit.int .i64 n).wf = true → Tryd.prog.keyLits 218 3 [Value.int .i64 n] = some [.int .i64 n] := by
      intro n hn
      unfold Program.keyLits
      simp [Tryd.underlying3, hn]
    unfold Program.keyLits
    rw [Tryd.underlying68]
    simp only
    rw [if_pos ⟨by rw [show Tryd.prog.cellsOf 68 = 2 from by kernel_rfl]; rfl, by kernel_rfl⟩]
    have c3 : Tryd.prog.cellsOf 3 = 1 := by kernel_rfl
    simp [List.mapM_cons, Value.cells, c3, h3 _ hk.1, h3 _ hk.2]
  inj a b h := by
    obtain ⟨p, i⟩ := a
    obtain ⟨q, j⟩ := b
    simp only [Sp.v] at h
    simp at h
    obtain ⟨h1, rfl⟩ := h
    obtain rfl : p = q := by omega
    rfl
end Go.Proofs.YtgboboljgcfggaaDoor
namespace Go.Proofs.YtgboboljgcfggaaDoor
open Go.RowKit Go.Maps

/-- A block, a code, codes: without their places. -/
def Blk.pb (b : Blk) : PB := ⟨b.cap, b.param, b.ins⟩
def Cod.pl (c : Cod) : PC := ⟨c.label, c.bs.map Blk.pb, c.ds⟩
def pls (L : List Cod) : List PC := L.map Cod.pl
theorem pls_drop {L : List Cod} {k : Nat} {x : Cod} (h : L[k]? = some x) : (pls L).drop k = x.pl :: (pls L).drop (k + 1) := by
  obtain ⟨hk, e⟩ := List.getElem?_eq_some_iff.1 h
  have e2 : (pls L)[k]? = some x.pl := by unfold pls; rw [List.getElem?_map, h]; rfl
  obtain ⟨hk2, e3⟩ := List.getElem?_eq_some_iff.1 e2
  rw [List.drop_eq_getElem_cons hk2, e3]
theorem find_drop {α : Type} {q : α → Bool} {l : List α} {j : Nat} {y : α} (h : l[j]? = some y) : (l.drop j).find? q = if q y then some y else (l.drop (j + 1)).find? q := by
  obtain ⟨hk, e⟩ := List.getElem?_eq_some_iff.1 h
  rw [List.drop_eq_getElem_cons hk, List.find?_cons, e]
  cases q y <;> rfl
theorem results_rt {P : Program} {fn : Func} {p u : Tmp} {ty : TypeId} {x : Value} (h : fn.results = #[.cell p ty, .tmp u]) (tmps : Array Value) (w : World) (g : Nat) (t : TypeId) (cs : Array Value) (fr : Nat × Nat) (d : TypeDesc)
    (hp : tmps.getD p undef = .pointer (some ⟨g, 0, none⟩)) (hx : tmps.getD u undef = x) (hg : w.heap[g]? = some (.cells cs t fr))
    (hu : P.underlying ty = some d) (hd : (match d with | .struct _ | .array _ _ => true | _ => false) = true) (hi : (P.info? ty).map (·.size) = some cs.size) :
    (results fn tmps).run P w = .ok (.tuple #[.agg cs, x]) w := by
  rw [results_cell_tmp h, hp, hx]
  simp [asAddr, run_loadVar_row w g t ty cs fr d hg hu hd hi, Result.andThen]
theorem set2c {V : World} {k : Nat} {x0 x1 : Value} {t : TypeId} (h : V.heap[k]? = some (.cells #[x0, x1] t (0, 0))) (u0 u1 : Value) : ((V.setCell ⟨k, 0, none⟩ u0).setCell ⟨k, 1, none⟩ u1).heap[k]? = some (.cells #[u0, u1] t (0, 0)) := by
  simp [World.setCell, Array.getElem?_modify, h]
theorem gr_cell {w W : World} (g : Gr w W) {k j : Nat} (hk : w.heap.size ≤ k) (u : Value) : Gr w (W.setCell ⟨k, j, none⟩ u) :=
  ⟨g.os, g.tape, g.output, by simpa [World.setCell] using g.size, fun i hi hn => (Below.heap_setCell _ _ _ _ (by show i ≠ k; omega)).trans (g.block i hi hn)⟩
theorem frz {W : World} {k : Nat} {c : Array Value} {t : TypeId} (h : W.heap[k]? = some (.cells c t (0, 0))) : ∀ j, W.frozen? ⟨k, j, none⟩ = false := by
  intro j
  simp [World.frozen?, h]
/-- What find answers. -/
def fndV : Option Sp → Value
  | some s => .tuple #[.agg #[iv s.code, iv s.block], .bool true]
  | none => .tuple #[.agg #[iv 0, iv 0], .bool false]
attribute [local irreducible] Calls in
set_option maxRecDepth 100000 in
set_option maxHeartbeats 2000000 in
theorem find_any (Ad : Option Addr) (cp : Nat) (L : List Cod) (p : T) (i : Int) (w : World) (hL : CRd w Ad L) (hl : L.length ≤ 9223372036854775807) (hi : ∀ x ∈ L, x.Lim) : Calls Tryd.prog 31 #[.slice Ad L.length cp, .agg #[.string ⟨p.toArray⟩, .int .i64 i]] w fun e w' => e = .returned (fndV (findC (pls L) 0 p i)) ∧ Gr w w' := by
  have HC := Lib.hid (fun V (g : Gr w V) => (hL.gr g).rd)
  have HDC := Lib.hid (fun V (g : Gr w V) x (hx : x ∈ L) => ((hL.gr g).c x hx).d)
  have HLM := Lib.hid (fun x (hx : x ∈ L) => (hi x hx).d)
  obtain ⟨R, hR⟩ : ∃ R, findC (pls L) 0 p i = R := ⟨_, rfl⟩
  have HR0 := Lib.hid (show findC ((pls L).drop 0) 0 p i = R from hR)
  rw [hR]
  obtain ⟨n, hn⟩ : ∃ n, L.length = n := ⟨_, rfl⟩
  have HN := Lib.hid hn
  rw [hn] at hl ⊢
  have GW := Lib.hid (show Gr w ((w.alloc (.cells #[.string ⟨p.toArray⟩, .int .i64 i] 39)).alloc (.cells #[.int .i64 0, .int .i64 0] 84)) from (gr_al _ _).trans (gr_al _ _))
  have HX := Lib.hid (fun V (g : Gr ((w.alloc (.cells #[.string ⟨p.toArray⟩, .int .i64 i] 39)).alloc (.cells #[.int .i64 0, .int .i64 0] 84)) V) => (show V.cell? ⟨w.heap.size, 0, none⟩ = some (.string ⟨p.toArray⟩) ∧ V.cell? ⟨w.heap.size, 1, none⟩ = some (.int .i64 i) from by
    have h := gr_h g (gr_h (gr_al _ _) (al_new w (.cells #[.string ⟨p.toArray⟩, .int .i64 i] 39)))
    exact ⟨by rw [Lib.cell_of_heap h]; rfl, by rw [Lib.cell_of_heap h]; rfl⟩))
  have HZ := Lib.hid (fun V (g : Gr ((w.alloc (.cells #[.string ⟨p.toArray⟩, .int .i64 i] 39)).alloc (.cells #[.int .i64 0, .int .i64 0] 84)) V) => (show V.heap[w.heap.size + 1]? = some (.cells #[.int .i64 0, .int .i64 0] 84 (0, 0)) from gr_h g (al_at _ _ (by simp))))
  clear hL hi hR hn
  go_enter Tryd.func31, Tryd.ntmps31
  go_wp2
  go_loopw [6] (fun u V => ∃ k : Nat, k ≤ n ∧ u = .int .i64 k ∧ Hid (Gr ((w.alloc (.cells #[.string ⟨p.toArray⟩, .int .i64 i] 39)).alloc (.cells #[.int .i64 0, .int .i64 0] 84)) V ∧ findC ((pls L).drop k) k p i = R)) (fun u _ => n - (intOf u).toNat)
  case atStart => exact ⟨0, Nat.zero_le _, rfl, Lib.hid ⟨gr_refl _, HR0.out⟩⟩
  case round =>
    clear HR0
    obtain ⟨k, hk, rfl, HK⟩ := hrel
    obtain ⟨gm, hfd⟩ := HK.out
    have GM := Lib.hid gm
    have FD := Lib.hid hfd
    clear gm hfd HK
    by_cases hlt : k < n
    · obtain ⟨a, a1, eA, ha, hab, y0, y1, y2⟩ := (HC.out _ (GW.out.trans GM.out)).cod (k := k) (by rw [HN.out]; exact hlt)
      obtain rfl := eA
      obtain ⟨x, hx⟩ : ∃ x, L[k]'(by rw [HN.out]; exact hlt) = x := ⟨_, rfl⟩
      have HXI := Lib.hid (show L[k]? = some x from by rw [List.getElem?_eq_getElem (by rw [HN.out]; exact hlt), hx])
      rw [hx] at y0 y1 y2
      have FU := Lib.hid (show (match (if x.label = p then x.ds.find? (fun d => d.id == i) else none) with | some d => some ⟨k, d.block⟩ | none => findC ((pls L).drop (k + 1)) (k + 1) p i) = R from by
        have h := FD.out
        rw [pls_drop HXI.out, findC] at h
        exact h)
      have KY := Lib.hid (fun V (g : Gr wr V) => (show V.cell? a1 = some (.string ⟨x.label.toArray⟩) ∧ V.cell? ⟨a1.block, a1.off + 2, none⟩ = some (.slice x.dA x.ds.length x.dc) from ⟨gr_c g y0, gr_c g y2⟩))
      have HDX := Lib.hid (fun V (g : Gr wr V) => HDC.out V ((GW.out.trans GM.out).trans g) x (List.mem_of_getElem? HXI.out))
      have hdl := HLM.out x (List.mem_of_getElem? HXI.out)
      obtain ⟨nd, hnd⟩ : ∃ m, x.ds.length = m := ⟨_, rfl⟩
      have HND := Lib.hid hnd
      obtain ⟨dA, hdA⟩ : ∃ m, x.dA = m := ⟨_, rfl⟩
      rw [hnd] at hdl
      simp only [hnd, hdA] at KY
      simp only [hdA] at HDX
      have G00 := Lib.hid (gr_refl wr)
      clear hx y0 y1 y2 hnd hdA FD
      go_wp2
      go_loopw [7] (fun u V => ∃ j : Nat, j ≤ nd ∧ u = .int .i64 j ∧ Hid (Gr wr V ∧ (x.label ≠ p → j = 0) ∧ x.ds.find? (fun d => d.id == i) = (x.ds.drop j).find? (fun d => d.id == i))) (fun u _ => nd - (intOf u).toNat)
      case atStart => exact ⟨0, Nat.zero_le _, rfl, Lib.hid ⟨G00.out, fun _ => rfl, by rw [List.drop_zero]⟩⟩
      case round =>
        obtain ⟨j, hj, rfl, HJ⟩ := hrel
        obtain ⟨gj, hj0, hfj⟩ := HJ.out
        have GJ := Lib.hid gj
        have HJ0 := Lib.hid hj0
        have FJ := Lib.hid hfj
        clear gj hj0 hfj HJ
        obtain ⟨v0, v2⟩ := KY.out _ GJ.out
        obtain ⟨n0, n1⟩ := HX.out _ (GM.out.trans GJ.out)
        by_cases hjn : j < nd
        · by_cases hlab : x.label = p
          · have hb : (x.label == p) = true := by simpa using hlab
            have HLAB := Lib.hid hlab
            obtain ⟨d, d1, eD, hd, hdb, z0, z1, z2⟩ := (HDX.out _ GJ.out).dcl (k := j) (by rw [HND.out]; exact hjn)
            obtain rfl := eD
            obtain ⟨y, hy⟩ : ∃ y, x.ds[j]'(by rw [HND.out]; exact hjn) = y := ⟨_, rfl⟩
            have HYI := Lib.hid (show x.ds[j]? = some y from by rw [List.getElem?_eq_getElem (by rw [HND.out]; exact hjn), hy])
            rw [hy] at z0 z2
            clear hlab hy z1
            go_upto_region 5 with (fail)
            go_quiet (fail)
            generalize hW8 : World.drewN _ _ = W8
            have G8 := Lib.hid (show Gr wr W8 from by rw [← hW8]; exact gr_drewN _ _)
            clear hW8
            have z0' := gr_c G8.out z0
            have z2' := gr_c G8.out z2
            clear v0 v2 n0 n1 z0 z2
            obtain ⟨v0, v2⟩ := KY.out _ (GJ.out.trans G8.out)
            obtain ⟨n0, n1⟩ := HX.out _ (GM.out.trans (GJ.out.trans G8.out))
            by_cases hid : y.id = i
            · have hb2 : (y.id == i) = true := by simpa using hid
              have hRR : R = some ⟨k, y.block⟩ := by
                have h := FU.out
                rw [if_pos HLAB.out, FJ.out, find_drop HYI.out, if_pos hb2] at h
                exact h.symm
              subst hRR
              clear hid
              go_upto_region 7 with (fail)
              go_quiet (fail)
              generalize hW9 : World.drewN _ _ = W9
              have G9 := Lib.hid (show Gr W8 W9 from by rw [← hW9]; exact gr_drewN _ _)
              clear hW9 v0 v2 n0 n1
              have z2 := gr_c G9.out z2'
              clear z0' z2'
              obtain ⟨v0, v2⟩ := KY.out _ (GJ.out.trans (G8.out.trans G9.out))
              have HZ9 := Lib.hid (HZ.out _ (GM.out.trans (GJ.out.trans (G8.out.trans G9.out))))
              have c0 : W9.cell? ⟨w.heap.size + 1, 0, none⟩ = some (.int .i64 0) := by rw [Lib.cell_of_heap HZ9.out]; rfl
              have c1 : W9.cell? ⟨w.heap.size + 1, 1, none⟩ = some (.int .i64 0) := by rw [Lib.cell_of_heap HZ9.out]; rfl
              have f0 := frz HZ9.out 0
              have f1 := frz HZ9.out 1
              have GG := Lib.hid (GW.out.trans (GM.out.trans (GJ.out.trans (G8.out.trans G9.out))))
              go_wp2
              refine bodyPost_ret (results_rt (P := Tryd.prog) rfl _ _ (w.heap.size + 1) _ _ _ _ rfl rfl (set2c HZ9.out _ _) rfl rfl rfl) rfl ?_
              exact ⟨rfl, gr_cell (gr_cell GG.out (by omega) _) (by omega) _⟩
            · have hb2 : (y.id == i) = false := by simpa using hid
              have FN := Lib.hid (show x.ds.find? (fun d => d.id == i) = (x.ds.drop (j + 1)).find? (fun d => d.id == i) from by rw [FJ.out, find_drop HYI.out, hb2]; rfl)
              clear hid
              go_upto_region 7 with (fail)
              go_quiet (fail)
              go_wp2
              exact ⟨⟨j + 1, hjn, by simp, Lib.hid ⟨(GJ.out.trans G8.out).trans (gr_drewN _ _), fun h => absurd HLAB.out h, FN.out⟩⟩, by simp [intOf]; omega⟩
          · have hb : (x.label == p) = false := by simpa using hlab
            have FR := Lib.hid (show findC ((pls L).drop (k + 1)) (k + 1) p i = R from by have h := FU.out; rw [if_neg hlab] at h; exact h)
            clear hlab
            go_upto_region 5 with (fail)
            go_quiet (fail)
            go_wp2
            exact ⟨⟨k + 1, hlt, by simp, Lib.hid ⟨(GM.out.trans GJ.out).trans (gr_drewN _ _), FR.out⟩⟩, by simp [intOf]; omega⟩
        · have FR := Lib.hid (show findC ((pls L).drop (k + 1)) (k + 1) p i = R from by
            have h := FU.out
            rw [FJ.out, List.drop_of_length_le (by rw [HND.out]; omega)] at h
            simpa using h)
          go_upto_region 5 with (fail)
          go_quiet (fail)
          go_wp2
          exact ⟨⟨k + 1, hlt, by simp, Lib.hid ⟨(GM.out.trans GJ.out).trans (gr_drewN _ _), FR.out⟩⟩, by simp [intOf]; omega⟩
    · obtain rfl : n = k := by omega
      have hRR : R = none := by
        have h := FD.out
        rw [List.drop_of_length_le (by unfold pls; rw [List.length_map, HN.out]; exact Nat.le_refl _), findC] at h
        exact h.symm
      subst hRR
      have HZ9 := Lib.hid (HZ.out _ GM.out)
      have c0 : wr.cell? ⟨w.heap.size + 1, 0, none⟩ = some (.int .i64 0) := by rw [Lib.cell_of_heap HZ9.out]; rfl
      have c1 : wr.cell? ⟨w.heap.size + 1, 1, none⟩ = some (.int .i64 0) := by rw [Lib.cell_of_heap HZ9.out]; rfl
      have f0 := frz HZ9.out 0
      have f1 := frz HZ9.out 1
      have GG := Lib.hid (GW.out.trans GM.out)
      go_wp2
      refine bodyPost_ret (results_rt (P := Tryd.prog) rfl _ _ (w.heap.size + 1) _ _ _ _ rfl rfl (set2c HZ9.out _ _) rfl rfl rfl) rfl ?_
      exact ⟨rfl, gr_cell (gr_cell GG.out (by omega) _) (by omega) _⟩
end Go.Proofs.YtgboboljgcfggaaDoor
namespace Go.Proofs.YtgboboljgcfggaaDoor
open Go.RowKit Go.Maps

def Sp.cs (s : Sp) : List Value := [iv s.code, iv s.block]
theorem elP : EL 82 84 2 Sp.cs where
  hn _ := rfl
  h1 x u hu := by
    simp only [Sp.cs, List.mem_cons, List.not_mem_nil, or_false] at hu
    rcases hu with rfl | rfl <;> rfl
  ht := Tryd.underlying82
  hi := ⟨.agg #[iv 0, iv 0], 16, by kernel_rfl, rfl, by decide⟩
  h0 := by decide
theorem RD.sp {w : World} {Ad : Option Addr} {L : List Sp} (h : RD 2 Sp.cs w Ad L) {k : Nat} (hk : k < L.length) : ∃ a a1 : Addr, Ad = some a ∧ a.add (k * 2) = a1 ∧ a1.block < w.heap.size ∧ w.cell? a1 = some (.int .i64 L[k].code) ∧ w.cell? ⟨a1.block, a1.off + 1, none⟩ = some (.int .i64 L[k].block) := by
  obtain ⟨a, e, hb, hc⟩ := h.at hk
  refine ⟨a, _, e, rfl, by rw [add_block]; exact hb, by simpa using hc 0 _ rfl, ?_⟩
  rw [← fld_add _ 1 (by omega), add_add']; exact hc 1 _ rfl
theorem gr_own {w V V' : World} {b : Nat} (g : Gr w V) (hb : w.heap.size ≤ b) (h : V.grownBy V' (some b)) : Gr w V' :=
  ⟨h.os.trans g.os, h.tape.trans g.tape, h.output.trans g.output, Nat.le_trans g.size h.size, fun j hj _ => (h.block j (Nat.lt_of_lt_of_le hj g.size) (fun e => by cases e; omega)).trans (g.block j hj (by simp))⟩
theorem idx_first {K : List Sp} {k : Nat} {x : Sp} (h : K[k]? = some x) (hn : x ∉ K.take k) : K.idxOf x = k := by
  induction K generalizing k with
  | nil => simp at h
  | cons y K ih =>
    rw [List.idxOf_cons]
    cases k with
    | zero => simp only [List.getElem?_cons_zero, Option.some.injEq] at h; subst h; simp
    | succ k =>
      rw [List.take_succ_cons, List.mem_cons, not_or] at hn
      rw [show (y == x) = false from by simpa using fun e => hn.1 e.symm]
      simp only [cond_false]
      rw [ih (by simpa using h) hn.2]
/-- What number leaves. -/
def NumP (K : List Sp) (x : Sp) (w : World) (e : Ending) (w' : World) : Prop := ∃ A' c', e = .returned (.tuple #[.slice A' (addS K x).length c', iv ((addS K x).idxOf x)]) ∧ RD 2 Sp.cs w' A' (addS K x) ∧ Gr w w'
theorem num_old {K : List Sp} {x : Sp} {w w' : World} {Ad : Option Addr} {cp k n : Nat} (h : K[k]? = some x) (hn : x ∉ K.take k) (hl : K.length = n) (hr : RD 2 Sp.cs w' Ad K) (g : Gr w w') : NumP K x w (.returned (.tuple #[.slice Ad n cp, iv k])) w' := by
  have e : addS K x = K := by unfold addS; rw [if_pos (List.mem_of_getElem? h)]
  unfold NumP
  rw [e, idx_first h hn, hl]
  exact ⟨Ad, cp, rfl, hr, g⟩
theorem num_new {K : List Sp} {x : Sp} {w w' : World} {v : Value} {b n : Nat} (hx : x ∉ K) (hl : K.length = n) (ho : OR 84 2 Sp.cs w' b v (K ++ [x])) (g : Gr w w') : NumP K x w (.returned (.tuple #[v, iv n])) w' := by
  have e : addS K x = K ++ [x] := by unfold addS; rw [if_neg hx]
  obtain ⟨A', c', rfl, hr⟩ := ho.form elP.hn
  unfold NumP
  rw [e]
  have hi : (K ++ [x]).idxOf x = K.length := by
    rw [List.idxOf_append, if_neg hx]
    simp
  rw [hi, hl]
  exact ⟨A', c', rfl, hr, g⟩
attribute [local irreducible] Calls in
set_option maxRecDepth 100000 in
set_option maxHeartbeats 4000000 in
theorem number_any (Ad : Option Addr) (cp : Nat) (K : List Sp) (x : Sp) (w : World) (hK : RD 2 Sp.cs w Ad K) (hl : K.length ≤ 100000) : Calls Tryd.prog 32 #[.slice Ad K.length cp, .agg #[.int .i64 x.code, .int .i64 x.block]] w (NumP K x w) := by
  have HK := Lib.hid (fun V (g : Gr w V) => hK.gr g)
  obtain ⟨n, hn⟩ : ∃ n, K.length = n := ⟨_, rfl⟩
  have HN := Lib.hid hn
  rw [hn] at hl ⊢
  have GW := Lib.hid (gr_al w (.cells #[.int .i64 x.code, .int .i64 x.block] 84))
  have HX := Lib.hid (fun V (g : Gr (w.alloc (.cells #[.int .i64 x.code, .int .i64 x.block] 84)) V) => (show V.cell? ⟨w.heap.size, 0, none⟩ = some (.int .i64 x.code) ∧ V.cell? ⟨w.heap.size, 1, none⟩ = some (.int .i64 x.block) from by
    have h := gr_h g (al_new w (.cells #[.int .i64 x.code, .int .i64 x.block] 84))
    exact ⟨by rw [Lib.cell_of_heap h]; rfl, by rw [Lib.cell_of_heap h]; rfl⟩))
  clear hK hn
  go_enter Tryd.func32, Tryd.ntmps32
  go_wp2
  go_loopw [6] (fun u V => ∃ k : Nat, k ≤ n ∧ u = .int .i64 k ∧ Hid (Gr (w.alloc (.cells #[.int .i64 x.code, .int .i64 x.block] 84)) V ∧ x ∉ K.take k)) (fun u _ => n - (intOf u).toNat)
  case atStart => exact ⟨0, Nat.zero_le _, rfl, Lib.hid ⟨gr_refl _, by simp⟩⟩
  case round =>
    obtain ⟨k, hk, rfl, HR⟩ := hrel
    obtain ⟨gm, hno⟩ := HR.out
    have GM := Lib.hid gm
    have HNO := Lib.hid hno
    clear gm hno HR
    obtain ⟨x0, x1⟩ := HX.out _ GM.out
    by_cases hlt : k < n
    · obtain ⟨a, a1, eA, ha, hab, y0, y1⟩ := (HK.out _ (GW.out.trans GM.out)).sp (k := k) (by rw [HN.out]; exact hlt)
      obtain rfl := eA
      obtain ⟨y, hy⟩ : ∃ y, K[k]'(by rw [HN.out]; exact hlt) = y := ⟨_, rfl⟩
      have HYI := Lib.hid (show K[k]? = some y from by rw [List.getElem?_eq_getElem (by rw [HN.out]; exact hlt), hy])
      rw [hy] at y0 y1
      have FALSE := Lib.hid (show y ≠ x → x ∉ K.take (k + 1) from fun hne h => by
        rw [List.take_add_one, HYI.out, List.mem_append] at h
        rcases h with h | h
        · exact HNO.out h
        · simp at h; exact hne h.symm)
      obtain ⟨yc, hyc⟩ : ∃ z : Int, (y.code : Int) = z := ⟨_, rfl⟩
      obtain ⟨yb, hyb⟩ : ∃ z, y.block = z := ⟨_, rfl⟩
      obtain ⟨xc, hxc⟩ : ∃ z : Int, (x.code : Int) = z := ⟨_, rfl⟩
      obtain ⟨xb, hxb⟩ : ∃ z, x.block = z := ⟨_, rfl⟩
      have EQ := Lib.hid (show y = x ↔ yc = xc ∧ yb = xb from by
        obtain ⟨a, b⟩ := y
        obtain ⟨c, d⟩ := x
        simp only at hyc hyb hxc hxb
        rw [Sp.mk.injEq, ← hyc, ← hyb, ← hxc, ← hxb]
        constructor
        · rintro ⟨h1, h2⟩; exact ⟨by rw [h1], h2⟩
        · rintro ⟨h1, h2⟩; exact ⟨by omega, h2⟩)
      rw [hyc] at y0
      rw [hyb] at y1
      rw [hxc] at x0
      rw [hxb] at x1
      clear hy hyc hyb hxc hxb
      by_cases e1 : yc = xc
      · have hb1 : (yc == xc) = true := by simpa using e1
        by_cases e2 : yb = xb
        · have hb2 : (yb == xb) = true := by simpa using e2
          have HE := Lib.hid (show K[k]? = some x from by rw [HYI.out, EQ.out.2 ⟨e1, e2⟩])
          clear e1 e2
          go_upto_region 4 with (fail)
          go_quiet (fail)
          go_wp2
          go_ret2
          exact num_old HE.out HNO.out HN.out (HK.out _ ((GW.out.trans GM.out).trans (gr_drewN _ _))) ((GW.out.trans GM.out).trans (gr_drewN _ _))
        · have hb2 : (yb == xb) = false := by simpa using e2
          have HNX := Lib.hid (FALSE.out fun h => e2 (EQ.out.1 h).2)
          clear e1 e2
          go_upto_region 4 with (fail)
          go_quiet (fail)
          go_wp2
          exact ⟨⟨k + 1, hlt, by simp, Lib.hid ⟨GM.out.trans (gr_drewN _ _), HNX.out⟩⟩, by simp [intOf]; omega⟩
      · have hb1 : (yc == xc) = false := by simpa using e1
        have HNX := Lib.hid (FALSE.out fun h => e1 (EQ.out.1 h).1)
        clear e1
        go_upto_region 4 with (fail)
        go_quiet (fail)
        go_wp2
        exact ⟨⟨k + 1, hlt, by simp, Lib.hid ⟨GM.out.trans (gr_drewN _ _), HNX.out⟩⟩, by simp [intOf]; omega⟩
    · obtain rfl : n = k := by omega
      have HNX := Lib.hid (show x ∉ K from by have h := HNO.out; rwa [List.take_of_length_le (by rw [HN.out]; exact Nat.le_refl _)] at h)
      have HX2 := Lib.hid (fun V (g : Gr wr V) => HX.out V (GM.out.trans g))
      have HK2 := Lib.hid (fun V (g : Gr wr V) => HK.out V ((GW.out.trans GM.out).trans g))
      have GG := Lib.hid (GW.out.trans GM.out)
      obtain ⟨B, hB⟩ : ∃ B, wr.heap.size = B := ⟨_, rfl⟩
      clear HNO GM GW HX HK
      go_upto_region 6 with (fail)
      obtain ⟨i0, i1⟩ := HX2.out _ (gr_al wr (.cells #[] 84))
      go_region_law (first
        | (refine step_app elP rfl (.tmp 22) (.tmp 23) rfl B (v := .slice (some ⟨_, 0, none⟩) 0 0) (L := []) rfl (or_made (by first | exact lz1 hB | exact lz2 hB | exact lz3 hB) (by omega)) (A := Ad) (M := K) (m := n) (c := cp) HN.out rfl (HK2.out _ (by first | exact (gr_al _ _).trans (gr_drew _) | exact ((gr_al _ _).trans (gr_al _ _)).trans (gr_drew _))) (by have := HN.out; simp; omega) (by first | omega | (simp; omega)) ?_
           intro v7 w7 o7 g7 h7
           have O7 := Lib.hid o7
           have G7 := Lib.hid (show Gr wr w7 from gr_own (by first | exact (gr_al _ _).trans (gr_drew _) | exact ((gr_al _ _).trans (gr_al _ _)).trans (gr_drew _)) (by dsimp only; omega) g7)
           have GQ := Lib.hid g7
           obtain ⟨e0, e1⟩ := HX2.out _ G7.out
           clear o7 g7 h7)
        | (refine step_app elP rfl (.tmp 24) (.tmp 26) rfl B (v := _) (L := [] ++ K) rfl (by first | exact O7.out | exact O7.out.alloc _) (A := some ⟨_, 0, none⟩) (M := [x]) (m := 1) (c := 1) rfl rfl (rd_cells (t := 84) elP.hn (by first | exact al_new _ _ | exact (GQ.out.block _ (by simp; omega) (fun h => by have h2 := Option.some.inj h; dsimp only at h2; omega)).trans (lz2 hB) | exact (GQ.out.block _ (by simp; omega) (fun h => by have h2 := Option.some.inj h; dsimp only at h2; omega)).trans (lz3 hB))) (by have := HN.out; simp; omega) (by have := G7.out.size; first | omega | (simp; omega)) ?_
           intro v8 w8 o8 g8 h8
           have O8 := Lib.hid o8
           have G8 := Lib.hid (show Gr wr w8 from OR.grow (by first | exact G7.out | exact G7.out.trans (gr_al _ _)) (by first | exact O7.out | exact O7.out.alloc _) (by omega) g8)
           clear o8 g8 h8))
      all_goals go_wp2
      all_goals go_ret2
      all_goals exact num_new HNX.out HN.out (by have h := O8.out; rw [List.nil_append] at h; exact h) (GG.out.trans G8.out)
end Go.Proofs.YtgboboljgcfggaaDoor
namespace Go.Proofs.YtgboboljgcfggaaDoor
open Go.RowKit Go.Maps

theorem elS : EL 72 68 2 Sp.cs where
  hn _ := rfl
  h1 x u hu := by
    simp only [Sp.cs, List.mem_cons, List.not_mem_nil, or_false] at hu
    rcases hu with rfl | rfl <;> rfl
  ht := Tryd.underlying72
  hi := ⟨.agg #[iv 0, iv 0], 16, by kernel_rfl, rfl, by decide⟩
  h0 := by decide
/-- Numbers of blocks, as a map: from number i on. -/
def numF : Nat → List Sp → MK Sp
  | _, [] => []
  | i, s :: K => (s, iv i) :: numF (i + 1) K
theorem numF_snoc (x : Sp) : ∀ (i : Nat) (K : List Sp), numF i (K ++ [x]) = numF i K ++ [(x, iv ((i + K.length : Nat) : Int))]
  | i, [] => by simp [numF]
  | i, s :: K => by
    rw [List.cons_append, numF, numF, numF_snoc x (i + 1) K, List.cons_append]
    rw [List.length_cons, show i + 1 + K.length = i + (K.length + 1) from by omega]
theorem numF_get (x : Sp) : ∀ (i j : Nat) (K : List Sp), (fndK x (numF i K) j).map (·.2) = if x ∈ K then some (iv ((i + K.idxOf x : Nat) : Int)) else none
  | i, j, [] => by simp [numF, fndK]
  | i, j, s :: K => by
    rw [numF, fndK]
    by_cases h : x = s
    · subst h; simp
    · rw [if_neg h, numF_get x (i + 1) (j + 1) K, List.idxOf_cons, show (s == x) = false from by simpa using fun e => h e.symm]
      by_cases hk : x ∈ K
      · rw [if_pos hk, if_pos (List.mem_cons_of_mem _ hk)]
        congr 3
        simp only [cond_false]
        omega
      · rw [if_neg hk, if_neg (by simp [h, hk])]
def numL (K : List Sp) : MK Sp := numF 0 K
theorem numL_get (K : List Sp) (x : Sp) : kget (numL K) x = if x ∈ K then some (iv (K.idxOf x)) else none := by
  unfold kget numL
  rw [numF_get]
  simp
theorem numL_no {K : List Sp} {x : Sp} (h : x ∉ K) : fndK x (numL K) 0 = none := by
  have h1 := numL_get K x
  rw [if_neg h] at h1
  unfold kget at h1
  simpa using h1
theorem numL_snoc (K : List Sp) (x : Sp) : numL (K ++ [x]) = numL K ++ [(x, iv K.length)] := by
  unfold numL
  rw [numF_snoc]
  simp
/-- A linker in memory. -/
structure LM (kb m1 m2 base : Nat) (Ad : Option Addr) (cp n : Nat) (dl : MK Nam) (K : List Sp) (v : Value) (V : World) : Prop where
  h : V.heap[kb]? = some (.cells #[.slice Ad n cp, .map (some m1), .map (some m2), v] 74 (0, 0))
  d : MP Nam.v V m1 dl
  ld : LK Nam.Ok dl
  n : MP Sp.v V m2 (numL K)
  ln : LK Sp.Key (numL K)
  o : OR 68 2 Sp.cs V base v K
  lt : kb < base ∧ m1 < base ∧ m2 < base
  ne : kb ≠ m1 ∧ kb ≠ m2 ∧ m1 ≠ m2
/-- What a linker's work leaves. -/
structure NF (kb m2 base : Nat) (v : Value) (V W : World) : Prop where
  os : W.os = V.os
  tape : W.tape = V.tape
  output : W.output = V.output
  size : V.heap.size ≤ W.heap.size
  same : ∀ k, k < V.heap.size → k ≠ kb → k ≠ m2 → v.ownBlock ≠ some k → W.heap[k]? = V.heap[k]?
section
variable {kb m1 m2 base cp n : Nat} {Ad : Option Addr} {dl : MK Nam} {K : List Sp} {v : Value} {V W : World}
theorem NF.of (g : Gr V W) : NF kb m2 base v V W := ⟨g.os, g.tape, g.output, g.size, fun k hk _ _ _ => g.block k hk (by simp)⟩
theorem LM.gr (h : LM kb m1 m2 base Ad cp n dl K v V) (g : Gr V W) : LM kb m1 m2 base Ad cp n dl K v W :=
  ⟨gr_h g h.h, h.d.keep (g.block _ h.d.lt (by simp)), h.ld, h.n.keep (g.block _ h.n.lt (by simp)), h.ln, h.o.gr g, h.lt, h.ne⟩
theorem LM.hd (h : LM kb m1 m2 base Ad cp n dl K v V) : (V.cell? ⟨kb, 0, none⟩ = some (.slice Ad n cp) ∧ V.cell? ⟨kb, 1, none⟩ = some (.map (some m1)) ∧ V.cell? ⟨kb, 2, none⟩ = some (.map (some m2)) ∧ V.cell? ⟨kb, 3, none⟩ = some v) ∧ ∀ j, V.frozen? ⟨kb, j, none⟩ = false :=
  ⟨⟨by rw [Lib.cell_of_heap h.h]; rfl, by rw [Lib.cell_of_heap h.h]; rfl, by rw [Lib.cell_of_heap h.h]; rfl, by rw [Lib.cell_of_heap h.h]; rfl⟩, frz h.h⟩
theorem heap_set3 {k : Nat} {x0 x1 x2 x3 : Value} {t : TypeId} (h : V.heap[k]? = some (.cells #[x0, x1, x2, x3] t (0, 0))) (u : Value) : (V.setCell ⟨k, 3, none⟩ u).heap[k]? = some (.cells #[x0, x1, x2, u] t (0, 0)) := by
  simp [World.setCell, Array.getElem?_modify, h]
/-- A block that is not known yet. -/
theorem LM.put (h : LM kb m1 m2 base Ad cp n dl K v V) {x : Sp} (hx : x ∉ K) (hk : x.Key) {U U' : World} {v' : Value} (hU : Gr (setM Sp.v V m2 (numL K ++ [(x, iv K.length)])) U) (o' : OR 68 2 Sp.cs U' base v' (K ++ [x])) (g' : U.grownBy U' v.ownBlock) :
    LM kb m1 m2 base Ad cp n dl (addS K x) v' (U'.setCell ⟨kb, 3, none⟩ v') ∧ NF kb m2 base v V (U'.setCell ⟨kb, 3, none⟩ v') := by
  have e : addS K x = K ++ [x] := by unfold addS; rw [if_neg hx]
  obtain ⟨l1, l2, l3⟩ := h.lt
  obtain ⟨n1, n2, n3⟩ := h.ne
  have hkb := heap_lt h.h
  have hd := h.d.lt
  have hm := h.n.lt
  have hsz : (setM Sp.v V m2 (numL K ++ [(x, iv K.length)])).heap.size = V.heap.size := setM_size _ _ _
  have hlt := h.o.lt
  have h7 := o'.lt
  have stU : ∀ j, j < V.heap.size → j ≠ m2 → U.heap[j]? = V.heap[j]? := fun j hj hne => (hU.block j (by omega) (by simp)).trans (setM_other hne)
  have st : ∀ j, j < base → j < V.heap.size → U'.heap[j]? = U.heap[j]? := fun j hj hj2 => g'.block j (by have := hU.size; omega) (fun e2 => by have := hlt j e2.symm; omega)
  have own : ∀ j, v'.ownBlock = some j → base ≤ j := fun j hj => (h7 j hj).1
  refine ⟨⟨heap_set3 (((st kb l1 hkb).trans (stU kb hkb n2)).trans h.h) _, ?_, h.ld, ?_, ?_, ?_, h.lt, h.ne⟩, ?_⟩
  · exact h.d.keep (((Below.heap_setCell _ _ _ _ (by show m1 ≠ kb; omega)).trans (st m1 l2 hd)).trans (stU m1 hd n3))
  · rw [e, numL_snoc]
    have hs : MP Sp.v (setM Sp.v V m2 (numL K ++ [(x, iv K.length)])) m2 (numL K ++ [(x, iv K.length)]) := h.n.set
    exact hs.keep (((Below.heap_setCell _ _ _ _ (by show m2 ≠ kb; omega)).trans (st m2 l3 hm)).trans (hU.block m2 (by omega) (by simp)))
  · rw [e, numL_snoc]
    exact h.ln.snoc hk (numL_no hx) _
  · rw [e]
    refine o'.kept (grown_set _ _ _) ?_
    cases hq : v'.ownBlock with
    | none => exact .inl rfl
    | some j => right; intro e2; have := own j hq; cases e2; omega
  · refine ⟨g'.os.trans hU.os, g'.tape.trans hU.tape, g'.output.trans hU.output, ?_, fun j hj h1 h2 h3 => ?_⟩
    · have := hU.size
      have := g'.size
      simp only [World.setCell, Array.size_modify]
      omega
    · exact (Below.heap_setCell _ _ _ _ (by show j ≠ kb; exact h1)).trans ((g'.block j (by have := hU.size; omega) (fun e2 => h3 e2.symm)).trans (stU j hj h2))
theorem NF.pre {w : World} (g : Gr w V) (h : NF kb m2 base v V W) : NF kb m2 base v w W :=
  ⟨h.os.trans g.os, h.tape.trans g.tape, h.output.trans g.output, Nat.le_trans g.size h.size, fun k hk h1 h2 h3 => (h.same k (Nat.lt_of_lt_of_le hk g.size) h1 h2 h3).trans (g.block k hk (by simp))⟩
theorem LM.mid {x0 x1 x2 : Value} {t : TypeId} {u : Value} (h : V.heap[kb]? = some (.cells #[x0, x1, x2, u] t (0, 0))) (hl : ∀ j, v.ownBlock = some j → base ≤ j) (hk : kb < base) {U w7 : World} (g : Gr V U) (g7 : U.grownBy w7 v.ownBlock) : w7.cell? ⟨kb, 3, none⟩ = some u ∧ ∀ j, w7.frozen? ⟨kb, j, none⟩ = false := by
  have h1 := gr_h g h
  have h2 := (g7.block kb (heap_lt h1) (fun e => by have := hl kb e.symm; omega)).trans h1
  exact ⟨by rw [Lib.cell_of_heap h2]; rfl, frz h2⟩
theorem app_val {K : List Sp} {x : Sp} {nk b : Nat} {v7 : Value} {U : World} (hn : K.length = nk) (o : OR 68 2 Sp.cs U b v7 (K ++ [x])) : ∃ A c, v7 = .slice A (nk + 1) c := by
  obtain ⟨A, c, e, -⟩ := o.form elS.hn
  exact ⟨A, c, by rw [e, List.length_append, hn]; rfl⟩
end
attribute [local irreducible] Calls in
set_option maxRecDepth 100000 in
set_option maxHeartbeats 4000000 in
theorem need_any (kb m1 m2 base : Nat) (Ad : Option Addr) (cp n : Nat) (dl : MK Nam) (K : List Sp) (v : Value) (x : Sp) (w : World) (h : LM kb m1 m2 base Ad cp n dl K v w) (hk : x.Key) (hl : K.length ≤ 100000) (hb : base ≤ w.heap.size) :
    Calls Tryd.prog 27 #[.pointer (some ⟨kb, 0, none⟩), .agg #[.int .i64 x.code, .int .i64 x.block]] w fun e w' => e = .returned (.tuple #[]) ∧ ∃ v', LM kb m1 m2 base Ad cp n dl (addS K x) v' w' ∧ NF kb m2 base v w w' := by
  have GW := Lib.hid (gr_al w (.cells #[.int .i64 x.code, .int .i64 x.block] 68))
  have HX := Lib.hid (fun V (g : Gr (w.alloc (.cells #[.int .i64 x.code, .int .i64 x.block] 68)) V) => (show V.cell? ⟨w.heap.size, 0, none⟩ = some (.int .i64 x.code) ∧ V.cell? ⟨w.heap.size, 1, none⟩ = some (.int .i64 x.block) from by
    have h := gr_h g (al_new w (.cells #[.int .i64 x.code, .int .i64 x.block] 68))
    exact ⟨by rw [Lib.cell_of_heap h]; rfl, by rw [Lib.cell_of_heap h]; rfl⟩))
  have HXB := Lib.hid (al_new w (.cells #[.int .i64 x.code, .int .i64 x.block] 68))
  have H1 := Lib.hid (h.gr (gr_al w (.cells #[.int .i64 x.code, .int .i64 x.block] 68)))
  have H := Lib.hid h
  have hkb := heap_lt h.h
  obtain ⟨A1, c1, e1, -⟩ := h.o.form elS.hn
  obtain ⟨nk, hnk⟩ : ∃ m, K.length = m := ⟨_, rfl⟩
  have HNK := Lib.hid hnk
  rw [hnk] at e1 hl
  subst e1
  clear h hnk
  go_enter Tryd.func27, Tryd.ntmps27
  go_upto_region 1 with (fail)
  generalize hW1 : World.alloc w _ = W1 at *
  have HS1 := Lib.hid (show W1.heap.size = w.heap.size + 1 from by rw [← hW1]; simp)
  clear hW1
  obtain ⟨x0, x1⟩ := HX.out _ (gr_refl _)
  obtain ⟨⟨-, -, k2, k3⟩, fz⟩ := H1.out.hd
  have f3 := fz 3
  have LKK := Lib.hid (fun V (g : Gr W1 V) => show (Instr.lookup 71 (.map (some m2)) (.agg #[.int .i64 x.code, .int .i64 x.block]) true).run Tryd.prog V = .ok (.tuple #[((if x ∈ K then some (iv (K.idxOf x)) else none).getD (iv 0)), .bool (if x ∈ K then some (iv (K.idxOf x)) else none).isSome]) V from by
    have h := (lookup_k ktS (H1.out.gr g).n (H1.out.gr g).ln Tryd.underlying71 (z := iv 0) (by kernel_rfl) hk).2
    rw [numL_get] at h
    exact h)
  have HKY := Lib.hid hk
  clear hk
  by_cases hx : x ∈ K
  · simp only [if_pos hx] at LKK
    have lk0 := LKK.out _ (gr_refl W1)
    have lk1 := LKK.out _ (gr_drew W1)
    have lk2 := fun n => LKK.out _ (gr_drewN W1 n)
    have HE := Lib.hid (show addS K x = K from by unfold addS; rw [if_pos hx])
    clear hx fz
    go_quiet (fail)
    go_wp2
    go_end0
    exact ⟨rfl, _, by rw [HE.out]; exact H1.out.gr (gr_drewN _ _), NF.of (GW.out.trans (gr_drewN _ _))⟩
  · simp only [if_neg hx] at LKK
    have lk0 := LKK.out _ (gr_refl W1)
    have lk1 := LKK.out _ (gr_drew W1)
    have lk2 := fun n => LKK.out _ (gr_drewN W1 n)
    have HNX := Lib.hid hx
    clear hx fz
    go_quiet (fail)
    generalize hW2 : World.drewN W1 _ = W2
    have G2 := Lib.hid (show Gr W1 W2 from by rw [← hW2]; exact gr_drewN _ _)
    clear hW2 x0 x1 k2 k3 f3 lk0 lk1 lk2 LKK
    have H2 := Lib.hid (H1.out.gr G2.out)
    obtain ⟨x0, x1⟩ := HX.out _ G2.out
    obtain ⟨⟨-, -, k2, k3⟩, fz⟩ := H2.out.hd
    go_upto_region 3 with (fail)
    go_still_tail 10, (by kernel_rfl)
    change wpList _ _ _ _ _ W2.drew
    generalize hW3 : W2.drew = W3
    have G3 := Lib.hid (show Gr W2 W3 from by rw [← hW3]; exact gr_drew _)
    clear hW3 x0 x1 k2 k3 fz
    have H3 := Lib.hid (H2.out.gr G3.out)
    have up := (show (Instr.mapUpdate 71 (.map (some m2)) (.agg #[.int .i64 x.code, .int .i64 x.block]) (iv nk)).run Tryd.prog W3 = .ok () (setM Sp.v W3 m2 (numL K ++ [(x, iv nk)])) from update_k ktS H3.out.n H3.out.ln Tryd.underlying71 HKY.out (numL_no HNX.out) (iv nk))
    go_upto_region 4 with (fail)
    clear up
    have hlt := H3.out.lt
    have hne := H3.out.ne
    have hown := H3.out.o.lt
    have hk3 := heap_lt H3.out.h
    have HW4 := Lib.hid (show Gr (setM Sp.v W3 m2 (numL K ++ [(x, iv K.length)])) (setM Sp.v W3 m2 (numL K ++ [(x, iv nk)])) from by rw [HNK.out]; exact gr_refl _)
    have HK4 := Lib.hid (show (setM Sp.v W3 m2 (numL K ++ [(x, iv nk)])).heap[kb]? = some (.cells #[.slice Ad n cp, .map (some m1), .map (some m2), .slice A1 nk c1] 74 (0, 0)) from (setM_other hne.2.1).trans H3.out.h)
    have HX4 := Lib.hid (show (setM Sp.v W3 m2 (numL K ++ [(x, iv nk)])).heap[w.heap.size]? = some (.cells #[.int .i64 x.code, .int .i64 x.block] 68 (0, 0)) from (setM_other (by have := H.out.n.lt; omega)).trans (gr_h (G2.out.trans G3.out) HXB.out))
    have HO4 := Lib.hid (show OR 68 2 Sp.cs (setM Sp.v W3 m2 (numL K ++ [(x, iv nk)])) base (.slice A1 nk c1) K from H3.out.o.kept (grown_setM _ _ _) (by
      cases hq : (Value.slice A1 nk c1).ownBlock with
      | none => exact .inl rfl
      | some j => right; intro e2; have := (hown j hq).1; cases e2; omega))
    have HB4 := Lib.hid (show base ≤ (setM Sp.v W3 m2 (numL K ++ [(x, iv nk)])).heap.size from by rw [setM_size]; have := G3.out.size; have := G2.out.size; have := HS1.out; omega)
    generalize hW4 : setM Sp.v W3 m2 (numL K ++ [(x, iv nk)]) = W4 at *
    clear hW4
    have k3 : W4.cell? ⟨kb, 3, none⟩ = some (.slice A1 nk c1) := by rw [Lib.cell_of_heap HK4.out]; rfl
    have x0 : W4.cell? ⟨w.heap.size, 0, none⟩ = some (.int .i64 x.code) := by rw [Lib.cell_of_heap HX4.out]; rfl
    have x1 : W4.cell? ⟨w.heap.size, 1, none⟩ = some (.int .i64 x.block) := by rw [Lib.cell_of_heap HX4.out]; rfl
    have k3a := gr_c (gr_al W4 (.cells #[.int .i64 x.code, .int .i64 x.block] 68)) k3
    have HOA := Lib.hid (HO4.out.alloc (.cells #[.int .i64 x.code, .int .i64 x.block] 68))
    have HBA := Lib.hid (show base ≤ (W4.alloc (.cells #[.int .i64 x.code, .int .i64 x.block] 68)).heap.size from by have := HB4.out; simp; omega)
    have HLT := Lib.hid hlt
    have HOW := Lib.hid (fun j (hj : (Value.slice A1 nk c1).ownBlock = some j) => (hown j hj).1)
    clear hne hown hk3 hlt hkb
    go_region_law (first | (refine step_app elS rfl (.tmp 31) (.tmp 33) rfl base rfl HOA.out (A := some ⟨W4.heap.size, 0, none⟩) (M := [x]) (m := 1) (c := 1) rfl rfl (rd_cells (t := 68) elS.hn (al_new _ _)) (by have := HNK.out; simp; omega) HBA.out ?_; intro v7 w7 o7 g7 b7; obtain ⟨A7, c7, rfl⟩ := app_val HNK.out o7; have O7 := Lib.hid o7; have G7 := Lib.hid g7; obtain ⟨q7, fz7⟩ := LM.mid HK4.out HOW.out HLT.out.1 ((gr_al _ _).trans (gr_drew _)) g7; have z7 := fz7 3; clear o7 g7 b7 fz7))
    all_goals go_wp2
    all_goals go_end0
    all_goals obtain ⟨L1, L2⟩ := H3.out.put HNX.out HKY.out (HW4.out.trans ((gr_al _ _).trans (gr_drew _))) O7.out G7.out
    all_goals exact ⟨rfl, _, L1, L2.pre (GW.out.trans (G2.out.trans G3.out))⟩
end Go.Proofs.YtgboboljgcfggaaDoor
namespace Go.Proofs.YtgboboljgcfggaaDoor
open Go.RowKit Go.Maps

/-- A declaration as an entry of a map. -/
def ent (i : Nat) (c : Cod) (d : Dcl) : Nam × Value := (⟨c.label, d.id⟩, .agg #[iv i, iv d.block])
/-- The declarations of codes, from number i on. -/
def dlF : Nat → List Cod → MK Nam
  | _, [] => []
  | i, c :: L => c.ds.map (ent i c) ++ dlF (i + 1) L
theorem dlF_app : ∀ (i : Nat) (L M : List Cod), dlF i (L ++ M) = dlF i L ++ dlF (i + L.length) M
  | i, [], M => by simp [dlF]
  | i, c :: L, M => by
    rw [List.cons_append, dlF, dlF, dlF_app (i + 1) L M, List.append_assoc, List.length_cons, show i + 1 + L.length = i + (L.length + 1) from by omega]
theorem dlF_split {L : List Cod} {k : Nat} {x : Cod} (h : L[k]? = some x) : dlF 0 L = dlF 0 (L.take k) ++ (x.ds.map (ent k x) ++ dlF (k + 1) (L.drop (k + 1))) := by
  obtain ⟨hk, e⟩ := List.getElem?_eq_some_iff.1 h
  have h1 : L = L.take k ++ x :: L.drop (k + 1) := by
    rw [← e, ← List.drop_eq_getElem_cons hk, List.take_append_drop]
  have hl : (L.take k).length = k := by rw [List.length_take]; omega
  conv => lhs; rw [h1, dlF_app, hl, Nat.zero_add, dlF]
theorem dlF_take {L : List Cod} {k : Nat} {x : Cod} (h : L[k]? = some x) : dlF 0 (L.take (k + 1)) = dlF 0 (L.take k) ++ x.ds.map (ent k x) := by
  have hk := (List.getElem?_eq_some_iff.1 h).1
  rw [List.take_add_one, h, Option.toList_some, dlF_app, List.length_take, Nat.min_eq_left (by omega), Nat.zero_add]
  simp [dlF]
/-- The declarations that were met. -/
def dlP (L : List Cod) (k : Nat) (x : Cod) (j : Nat) : MK Nam := dlF 0 (L.take k) ++ (x.ds.take j).map (ent k x)
theorem dlP_succ {L : List Cod} {k j : Nat} {x : Cod} {d : Dcl} (h : x.ds[j]? = some d) : dlP L k x (j + 1) = dlP L k x j ++ [ent k x d] := by
  unfold dlP
  rw [List.take_add_one, h, Option.toList_some, List.map_append, ← List.append_assoc]
  rfl
theorem dlP_no {L : List Cod} {k j : Nat} {x : Cod} {d : Dcl} (hx : L[k]? = some x) (h : x.ds[j]? = some d) (nd : ((dlF 0 L).map (·.1)).Nodup) : fndK (ent k x d).1 (dlP L k x j) 0 = none := by
  have e : dlF 0 L = dlP L k x j ++ (ent k x d :: ((x.ds.drop (j + 1)).map (ent k x) ++ dlF (k + 1) (L.drop (k + 1)))) := by
    obtain ⟨hj, e⟩ := List.getElem?_eq_some_iff.1 h
    have h1 : x.ds = x.ds.take j ++ d :: x.ds.drop (j + 1) := by rw [← e, ← List.drop_eq_getElem_cons hj, List.take_append_drop]
    unfold dlP
    rw [dlF_split hx]
    conv => lhs; rw [h1]
    simp
  rw [e, List.map_append, List.map_cons, List.nodup_append] at nd
  refine fndK_mem.2 fun p hp he => ?_
  exact nd.2.2 p.1 (List.mem_map.2 ⟨p, hp, rfl⟩) _ (by simp) he
section
variable {kb m1 m2 base cp n : Nat} {Ad : Option Addr} {dl : MK Nam} {K : List Sp} {v : Value} {V W : World}
theorem LM.putD (h : LM kb m1 m2 base Ad cp n dl K v V) {p : Nam × Value} (hp : p.1.Ok) (hn : fndK p.1 dl 0 = none) : LM kb m1 m2 base Ad cp n (dl ++ [p]) K v (setM Nam.v V m1 (dl ++ [p])) := by
  obtain ⟨n1, n2, n3⟩ := h.ne
  have hlt := h.o.lt
  have l2 := h.lt.2.1
  exact ⟨(setM_other n1).trans h.h, h.d.set, h.ld.snoc hp hn p.2, h.n.keep (setM_other (Ne.symm n3)), h.ln, h.o.kept (grown_setM _ _ _) (by
    cases hq : v.ownBlock with
    | none => exact .inl rfl
    | some j => right; intro e2; have := (hlt j hq).1; cases e2; omega), h.lt, h.ne⟩
end
theorem gr_setM {κ : Type} {kv : κ → Value} {w V : World} (g : Gr w V) {b : Nat} (hb : w.heap.size ≤ b) (m : MK κ) : Gr w (setM kv V b m) :=
  ⟨g.os, g.tape, g.output, by rw [setM_size]; exact g.size, fun j hj hn => (setM_other (by omega)).trans (g.block j hj hn)⟩
attribute [local irreducible] Calls in
set_option maxRecDepth 100000 in
set_option maxHeartbeats 4000000 in
theorem newLinker_any (Ad : Option Addr) (cp : Nat) (L : List Cod) (w : World) (hL : CRd w Ad L) (hl : L.length ≤ 9223372036854775807) (hi : ∀ x ∈ L, x.Lim) (nd : ((dlF 0 L).map (·.1)).Nodup) (hw : ∀ x ∈ L, ∀ d ∈ x.ds, (Lit.int .i64 d.id).wf = true) :
    Calls Tryd.prog 26 #[.slice Ad L.length cp] w fun e w' => e = .returned (.pointer (some ⟨w.heap.size + 2, 0, none⟩)) ∧ LM (w.heap.size + 2) w.heap.size (w.heap.size + 1) (w.heap.size + 3) Ad cp L.length (dlF 0 L) [] (.slice none 0 0) w' ∧ Gr w w' ∧ w.heap.size + 3 ≤ w'.heap.size := by
  have HC := Lib.hid (fun V (g : Gr w V) => (hL.gr g).rd)
  have HDC := Lib.hid (fun V (g : Gr w V) x (hx : x ∈ L) => ((hL.gr g).c x hx).d)
  have HLM := Lib.hid hi
  have HND := Lib.hid nd
  have HWF := Lib.hid hw
  obtain ⟨n, hn⟩ : ∃ n, L.length = n := ⟨_, rfl⟩
  have HN := Lib.hid hn
  rw [hn] at hl ⊢
  have M0 := Lib.hid (show LM (w.heap.size + 2) w.heap.size (w.heap.size + 1) (w.heap.size + 3) Ad cp n (dlF 0 (L.take 0)) [] (.slice none 0 0) (((w.alloc (.map #[] 0)).alloc (.map #[] 0)).alloc (.cells #[.slice Ad n cp, .map (some w.heap.size), .map (some (w.heap.size + 1)), .slice none 0 0] 74)) from
    ⟨al_at _ _ (by simp), ((Below.heap_alloc _ _ _ (by simp; omega)).trans (Below.heap_alloc _ _ _ (by simp))).trans (al_new w _), by simpa [dlF] using LK.nil, (Below.heap_alloc _ _ _ (by simp)).trans (al_at _ _ (by simp)), by simpa [numL, numF] using LK.nil, OR.nil, by omega, by omega⟩)
  have G0 := Lib.hid (show Gr w (((w.alloc (.map #[] 0)).alloc (.map #[] 0)).alloc (.cells #[.slice Ad n cp, .map (some w.heap.size), .map (some (w.heap.size + 1)), .slice none 0 0] 74)) from ((gr_al _ _).trans (gr_al _ _)).trans (gr_al _ _))
  have Z0 := Lib.hid (show w.heap.size + 3 ≤ (((w.alloc (.map #[] 0)).alloc (.map #[] 0)).alloc (.cells #[.slice Ad n cp, .map (some w.heap.size), .map (some (w.heap.size + 1)), .slice none 0 0] 74)).heap.size from by simp)
  clear hL hi hn nd hw
  have hmm := @run_makeMap Tryd.prog
  go_enter Tryd.func26, Tryd.ntmps26
  go_wp2
  clear hmm
  go_loopw [15] (fun u V => ∃ k : Nat, k ≤ n ∧ u = .int .i64 k ∧ Hid (Gr w V ∧ w.heap.size + 3 ≤ V.heap.size ∧ LM (w.heap.size + 2) w.heap.size (w.heap.size + 1) (w.heap.size + 3) Ad cp n (dlF 0 (L.take k)) [] (.slice none 0 0) V)) (fun u _ => n - (intOf u).toNat)
  case atStart => exact ⟨0, Nat.zero_le _, rfl, Lib.hid ⟨G0.out, Z0.out, M0.out⟩⟩
  case round =>
    clear M0 G0 Z0
    obtain ⟨k, hk, rfl, HK⟩ := hrel
    obtain ⟨gm, hz, hm⟩ := HK.out
    have GM := Lib.hid gm
    have ZM := Lib.hid hz
    have HM := Lib.hid hm
    clear gm hz hm HK
    by_cases hlt : k < n
    · obtain ⟨a, a1, eA, ha, hab, y0, y1, y2⟩ := (HC.out _ GM.out).cod (k := k) (by rw [HN.out]; exact hlt)
      obtain rfl := eA
      obtain ⟨x, hx⟩ : ∃ x, L[k]'(by rw [HN.out]; exact hlt) = x := ⟨_, rfl⟩
      have HXI := Lib.hid (show L[k]? = some x from by rw [List.getElem?_eq_getElem (by rw [HN.out]; exact hlt), hx])
      rw [hx] at y0 y1 y2
      have HDX := Lib.hid (fun V (g : Gr wr V) => HDC.out V (GM.out.trans g) x (List.mem_of_getElem? HXI.out))
      have hdl := (HLM.out x (List.mem_of_getElem? HXI.out)).d
      have HLL := Lib.hid (show x.label.length ≤ maxLen from by have := (HLM.out x (List.mem_of_getElem? HXI.out)).l; unfold maxLen; omega)
      obtain ⟨nd, hnd⟩ : ∃ m, x.ds.length = m := ⟨_, rfl⟩
      have HND2 := Lib.hid hnd
      obtain ⟨dA, hdA⟩ : ∃ m, x.dA = m := ⟨_, rfl⟩
      rw [hnd] at hdl y2
      rw [hdA] at y2
      simp only [hdA] at HDX
      have HDA := Lib.hid hdA
      clear hx hnd hdA
      go_upto_region 5 with (fail)
      have HQ := Lib.hid (al_new wr (.cells #[.string ⟨x.label.toArray⟩, .slice x.bA x.bs.length x.bc, .slice dA nd x.dc] 49))
      have G7 := Lib.hid (gr_al wr (.cells #[.string ⟨x.label.toArray⟩, .slice x.bA x.bs.length x.bc, .slice dA nd x.dc] 49))
      have HMQ := Lib.hid (HM.out.gr (gr_al wr (.cells #[.string ⟨x.label.toArray⟩, .slice x.bA x.bs.length x.bc, .slice dA nd x.dc] 49)))
      obtain ⟨q, hq⟩ : ∃ q, wr.heap.size = q := ⟨_, rfl⟩
      have hq3 : w.heap.size + 3 ≤ q := by rw [← hq]; exact ZM.out
      rw [hq] at HQ ⊢
      clear hq
      generalize World.alloc wr _ = W7 at *
      have ZQ := Lib.hid (show w.heap.size + 3 ≤ W7.heap.size from by have := G7.out.size; have := ZM.out; omega)
      clear y0 y1 y2 ha hab
      have i2 : W7.cell? ⟨q, 2, none⟩ = some (.slice dA nd x.dc) := by rw [Lib.cell_of_heap HQ.out]; rfl
      have HDW := Lib.hid (fun V (g : Gr wr V) => HDX.out V g)
      have HM0 := Lib.hid (show LM (w.heap.size + 2) w.heap.size (w.heap.size + 1) (w.heap.size + 3) (some a) cp n (dlP L k x 0) [] (.slice none 0 0) W7 from by unfold dlP; simpa using HMQ.out)
      go_wp2
      clear i2
      go_loopw [23] (fun u V => ∃ j : Nat, j ≤ nd ∧ u = .int .i64 j ∧ Hid (Gr w V ∧ w.heap.size + 3 ≤ V.heap.size ∧ V.heap[q]? = some (.cells #[.string ⟨x.label.toArray⟩, .slice x.bA x.bs.length x.bc, .slice dA nd x.dc] 49 (0, 0)) ∧ RD 3 Dcl.cs V dA x.ds ∧ LM (w.heap.size + 2) w.heap.size (w.heap.size + 1) (w.heap.size + 3) (some a) cp n (dlP L k x j) [] (.slice none 0 0) V)) (fun u _ => nd - (intOf u).toNat)
      case atStart => exact ⟨0, Nat.zero_le _, rfl, Lib.hid ⟨GM.out.trans G7.out, ZQ.out, HQ.out, HDX.out _ G7.out, HM0.out⟩⟩
      case round =>
        clear HM0 HMQ HQ ZQ
        obtain ⟨j, hj, rfl, HJ⟩ := hrel
        obtain ⟨gj, zj, qj, rj, mj⟩ := HJ.out
        have GJ := Lib.hid gj
        have ZJ := Lib.hid zj
        have QJ := Lib.hid qj
        have RJ := Lib.hid rj
        have MJ := Lib.hid mj
        clear gj zj qj rj mj HJ
        by_cases hjn : j < nd
        · obtain ⟨b, b1, eB, hb, hbb, z0, z1, z2⟩ := RJ.out.dcl (k := j) (by rw [HND2.out]; exact hjn)
          obtain rfl := eB
          obtain ⟨d, hd⟩ : ∃ y, x.ds[j]'(by rw [HND2.out]; exact hjn) = y := ⟨_, rfl⟩
          have HDI := Lib.hid (show x.ds[j]? = some d from by rw [List.getElem?_eq_getElem (by rw [HND2.out]; exact hjn), hd])
          rw [hd] at z0 z1 z2
          clear hd
          obtain ⟨R1, rfl⟩ : ∃ R, R = wr := ⟨_, rfl⟩
          go_upto_region 8 with (fail)
          have HDB := Lib.hid (al_new R1 (.cells #[.int .i64 d.id, .int .i64 d.kind, .int .i64 d.block] 116))
          have G8 := Lib.hid (gr_al R1 (.cells #[.int .i64 d.id, .int .i64 d.kind, .int .i64 d.block] 116))
          obtain ⟨q2, hq2⟩ : ∃ q, R1.heap.size = q := ⟨_, rfl⟩
          rw [hq2] at HDB ⊢
          clear hq2
          generalize World.alloc R1 _ = W8 at *
          have MJ8 := Lib.hid (MJ.out.gr G8.out)
          have QJ8 := Lib.hid (gr_h G8.out QJ.out)
          have c0 : W8.cell? ⟨q, 0, none⟩ = some (.string ⟨x.label.toArray⟩) := by rw [Lib.cell_of_heap QJ8.out]; rfl
          have d0 : W8.cell? ⟨q2, 0, none⟩ = some (.int .i64 d.id) := by rw [Lib.cell_of_heap HDB.out]; rfl
          have d2 : W8.cell? ⟨q2, 2, none⟩ = some (.int .i64 d.block) := by rw [Lib.cell_of_heap HDB.out]; rfl
          obtain ⟨⟨-, k1, -, -⟩, -⟩ := MJ8.out.hd
          clear z0 z1 z2 hb hbb
          have HNO := Lib.hid (dlP_no HXI.out HDI.out HND.out)
          have HOK := Lib.hid (show (ent k x d).1.Ok from ⟨HLL.out, HWF.out x (List.mem_of_getElem? HXI.out) d (List.mem_of_getElem? HDI.out)⟩)
          go_still_tail 13, (by kernel_rfl)
          change wpList _ _ _ _ _ W8.drew
          generalize hW9 : W8.drew = W9
          have G9 := Lib.hid (show Gr W8 W9 from by rw [← hW9]; exact gr_drew _)
          clear hW9 c0 d0 d2 k1
          have MJ9 := Lib.hid (MJ8.out.gr G9.out)
          have up := (show (Instr.mapUpdate 70 (.map (some w.heap.size)) (.agg #[.string ⟨x.label.toArray⟩, .int .i64 d.id]) (.agg #[.int .i64 k, .int .i64 d.block])).run Tryd.prog W9 = .ok () (setM Nam.v W9 w.heap.size (dlP L k x j ++ [ent k x d])) from update_k ktN MJ9.out.d MJ9.out.ld Tryd.underlying70 HOK.out HNO.out _)
          have MN := Lib.hid (MJ9.out.putD HOK.out HNO.out)
          rw [← dlP_succ HDI.out] at up MN
          have GN := Lib.hid (gr_setM (kv := Nam.v) (GJ.out.trans (G8.out.trans G9.out)) (Nat.le_refl w.heap.size) (dlP L k x (j + 1)))
          have ZN := Lib.hid (show w.heap.size + 3 ≤ (setM Nam.v W9 w.heap.size (dlP L k x (j + 1))).heap.size from by rw [setM_size]; have := ZJ.out; have := G8.out.size; have := G9.out.size; omega)
          have QN := Lib.hid (show (setM Nam.v W9 w.heap.size (dlP L k x (j + 1))).heap[q]? = some (.cells #[.string ⟨x.label.toArray⟩, .slice x.bA x.bs.length x.bc, .slice (some b) nd x.dc] 49 (0, 0)) from (setM_other (by omega)).trans (gr_h G9.out QJ8.out))
          have RN := Lib.hid (HDC.out _ GN.out x (List.mem_of_getElem? HXI.out))
          have hrn := RN.out
          rw [HDA.out] at hrn
          clear RN
          have RN := Lib.hid hrn
          clear hrn
          go_wp2
          exact ⟨⟨j + 1, hjn, by simp, Lib.hid ⟨GN.out, ZN.out, QN.out, RN.out, MN.out⟩⟩, by simp [intOf]; omega⟩
        · obtain rfl : nd = j := by omega
          have ME := Lib.hid (show LM (w.heap.size + 2) w.heap.size (w.heap.size + 1) (w.heap.size + 3) (some a) cp n (dlF 0 (L.take (k + 1))) [] (.slice none 0 0) wr from by
            have h := MJ.out
            unfold dlP at h
            rw [List.take_of_length_le (l := x.ds) (by rw [HND2.out]; exact Nat.le_refl _), ← dlF_take HXI.out] at h
            exact h)
          go_wp2
          exact ⟨⟨k + 1, hlt, by simp, Lib.hid ⟨GJ.out, ZJ.out, ME.out⟩⟩, by simp [intOf]; omega⟩
    · obtain rfl : n = k := by omega
      have hm := HM.out
      rw [List.take_of_length_le (by rw [HN.out]; exact Nat.le_refl _)] at hm
      have HME := Lib.hid hm
      clear hm
      go_wp2
      go_ret
      exact ⟨rfl, HME.out, GM.out, ZM.out⟩
end Go.Proofs.YtgboboljgcfggaaDoor
namespace Go.Proofs.YtgboboljgcfggaaDoor
open Go.RowKit Go.Maps Go.Shelf
attribute [local go_sem] Oper.semAt_some

/-- A reference: where it stands, and what it leads to. -/
abbrev Tg := Nat × Option Sp
/-- The references of instructions, from place i on. -/
def trg (l : List PC) (s : Sp) : Nat → List Ins → List Tg
  | _, [] => []
  | i, x :: r => match tgt l s x with
    | none => trg l s (i + 1) r
    | some t => (i, t) :: trg l s (i + 1) r
def tgV : Option Sp → Value
  | some s => .agg #[.int .i64 s.code, .int .i64 s.block, .bool true]
  | none => .agg #[.int .i64 0, .int .i64 0, .bool false]
theorem trg_drop {l : List PC} {s : Sp} {L : List Ins} {i : Nat} {x : Ins} (h : L[i]? = some x) : trg l s i (L.drop i) = match tgt l s x with
    | none => trg l s (i + 1) (L.drop (i + 1))
    | some t => (i, t) :: trg l s (i + 1) (L.drop (i + 1)) := by
  obtain ⟨hk, e⟩ := List.getElem?_eq_some_iff.1 h
  rw [List.drop_eq_getElem_cons hk, e, trg]
theorem trg_snd (l : List PC) (s : Sp) : ∀ (L : List Ins) (i : Nat), (trg l s i L).map (·.2) = L.filterMap (tgt l s)
  | [], _ => rfl
  | x :: r, i => by
    rw [trg, List.filterMap_cons]
    cases h : tgt l s x with
    | none => exact trg_snd l s r (i + 1)
    | some t => simp only [List.map_cons]; rw [trg_snd l s r (i + 1)]

/-- What is below a number, and some blocks, stay. -/
structure Kp (B : Nat) (own : Nat → Prop) (W W' : World) : Prop where
  os : W'.os = W.os
  tape : W'.tape = W.tape
  output : W'.output = W.output
  size : W.heap.size ≤ W'.heap.size
  same : ∀ k, k < B ∨ own k → W'.heap[k]? = W.heap[k]?
theorem Kp.of {B : Nat} {own : Nat → Prop} {W W' : World} (h : Gr W W') (hB : B ≤ W.heap.size) (ho : ∀ k, own k → k < W.heap.size) : Kp B own W W' :=
  ⟨h.os, h.tape, h.output, h.size, fun k hk => h.block k (by rcases hk with hk | hk; omega; exact ho k hk) (by simp)⟩
theorem Kp.trans {B : Nat} {own : Nat → Prop} {U V W : World} (h : Kp B own U V) (k : Kp B own V W) : Kp B own U W :=
  ⟨k.os.trans h.os, k.tape.trans h.tape, k.output.trans h.output, Nat.le_trans h.size k.size, fun j hj => (k.same j hj).trans (h.same j hj)⟩
theorem Kp.row {B : Nat} {own : Nat → Prop} {W W' : World} {g : Nat} (h : W.grownBy W' (some g)) (hB : B ≤ W.heap.size) (ho : ∀ k, own k → k < W.heap.size) (hg : B ≤ g) (hn : ¬ own g) : Kp B own W W' :=
  ⟨h.os, h.tape, h.output, h.size, fun k hk => h.block k (by rcases hk with hk | hk; omega; exact ho k hk) (by
    intro e
    cases e
    rcases hk with hk | hk
    · omega
    · exact hn hk)⟩
/-- What a loop over the references of a block keeps; it has blocks of its own. -/
structure Yk (w0 : World) (Ad : Option Addr) (cp nc kb m1 : Nat) (dl : MK Nam) (sc sb b1 b2 B n l : Nat) (X : List Tg) (J : List Tg → (Nat → Prop) → World → Prop) (F : List Tg → Tg → World → Prop) : Prop where
  gr : ∀ pre own W, J pre own W → Gr w0 W ∧ B ≤ W.heap.size
  box : ∀ pre own W, J pre own W → W.heap[b1]? = some (.cells #[.pointer (some ⟨kb, 0, none⟩)] 65 (0, 0)) ∧ W.heap[b2]? = some (.cells #[.int .i64 sc, .int .i64 sb] 68 (0, 0))
  lk : ∀ pre own W, J pre own W → MP Nam.v W m1 dl ∧ ∃ x y, W.heap[kb]? = some (.cells #[.slice Ad nc cp, .map (some m1), x, y] 74 (0, 0))
  lt : ∀ pre own W, J pre own W → ∀ k, own k → k < W.heap.size
  keep : ∀ pre own W W', J pre own W → Kp B own W W' → J pre own W'
  yield : ∀ pre own y W, J pre own W → (∃ post, X = pre ++ y :: post) → YieldAt Fence.wide n Tryd.prog l #[.int .i64 y.1, tgV y.2] W fun e W' => ((∀ k, B ≤ k → k < W.heap.size → ¬ own k → W'.heap[k]? = W.heap[k]?) ∧ W.heap.size ≤ W'.heap.size) ∧ ((e = .returned (.bool true) ∧ ∃ own', (∀ k, own' k → own k ∨ W.heap.size ≤ k) ∧ J (pre ++ [y]) own' W') ∨ (e = .returned (.bool false) ∧ F pre y W'))

theorem refs_any (kb sc sb : Nat) (w : World) :
    Calls Tryd.prog 28 #[.pointer (some ⟨kb, 0, none⟩), .agg #[.int .i64 sc, .int .i64 sb]] w fun e w' => e = .returned (.func (.func 52) #[] #[.pointer (some ⟨w.heap.size, 0, none⟩), .pointer (some ⟨w.heap.size + 1, 0, none⟩)]) ∧ w' = (w.alloc (.cells #[.pointer (some ⟨kb, 0, none⟩)] 65)).alloc (.cells #[.int .i64 sc, .int .i64 sb] 68) := by
  go_enter Tryd.func28, Tryd.ntmps28
  go_wp2
  go_ret
  exact ⟨rfl, rfl⟩

theorem set3c {V : World} {k : Nat} {x0 x1 x2 : Value} {t : TypeId} (h : V.heap[k]? = some (.cells #[x0, x1, x2] t (0, 0))) (u0 u1 u2 : Value) : (((V.setCell ⟨k, 0, none⟩ u0).setCell ⟨k, 1, none⟩ u1).setCell ⟨k, 2, none⟩ u2).heap[k]? = some (.cells #[u0, u1, u2] t (0, 0)) := by
  simp [World.setCell, Array.getElem?_modify, h]
theorem wpIn_to {P : Program} {n : Nat} {c : Code} {Q : Exit → Act → World → Prop} {a : Act} {w : World} (A : Act) (V : World) (h : ∀ K0 : Act → World → Prop, K0 A V → c.wp P (Exit.then K0 (fun _ _ _ => False)) a w) (k : Q .normal A V) : c.wpIn Fence.wide n P Q a w :=
  wpIn_mono (wpIn_wide.2 (h (fun a' w' => Q .normal a' w') k)) fun e a' w' h => by
    cases e with
    | normal => exact h
    | _ => exact h.elim
set_option maxRecDepth 100000 in
set_option maxHeartbeats 4000000 in
theorem refs_in (w0 : World) (Ad : Option Addr) (cp nc kb m1 : Nat) (dl : MK Nam) (sc sb b1 b2 n l : Nat) (hn : 1 ≤ n) (L : List Cod) (hL : CRd w0 Ad L) (hnc : L.length = nc) (c : Cod) (hc : L[sc]? = some c) (b : Blk) (hb : c.bs[sb]? = some b) (hbn : b.ins.length ≤ 9223372036854775807)
    (hdl : LK Nam.Ok dl) (hget : ∀ p i, kget dl ⟨p, i⟩ = (findC (pls L) 0 p i).map Sp.v) (hwf : ∀ x ∈ b.ins, x.op = 4 → (Lit.int .i64 x.a).wf = true ∧ x.name.length ≤ maxLen)
    (J : List Tg → (Nat → Prop) → World → Prop) (F : List Tg → Tg → World → Prop) (W : World) (Y : Yk w0 Ad cp nc kb m1 dl sc sb b1 b2 W.heap.size (n - 1) l (trg (pls L) ⟨sc, sb⟩ 0 b.ins) J F) (h0 : J [] (fun _ => False) W) :
    CallsIn Fence.wide n Tryd.prog 52 #[.func (.yield l) #[] #[], .pointer (some ⟨b1, 0, none⟩), .pointer (some ⟨b2, 0, none⟩)] W fun e W' => (∃ r, e = .returned r) ∧ ((∃ own, J (trg (pls L) ⟨sc, sb⟩ 0 b.ins) own W') ∨ ∃ pre y post, trg (pls L) ⟨sc, sb⟩ 0 b.ins = pre ++ y :: post ∧ F pre y W') := by
  obtain ⟨h1, h2⟩ := Y.box _ _ _ h0
  obtain ⟨h3, x3, y3, h4⟩ := Y.lk _ _ _ h0
  have hw0 := (Y.gr _ _ _ h0).1
  have u1 : W.cell? ⟨b1, 0, none⟩ = some (.pointer (some ⟨kb, 0, none⟩)) := by rw [Lib.cell_of_heap h1]; rfl
  have u2 : W.cell? ⟨b2, 0, none⟩ = some (.int .i64 sc) := by rw [Lib.cell_of_heap h2]; rfl
  have u3 : W.cell? ⟨b2, 1, none⟩ = some (.int .i64 sb) := by rw [Lib.cell_of_heap h2]; rfl
  have u4 : W.cell? ⟨kb, 0, none⟩ = some (.slice Ad nc cp) := by rw [Lib.cell_of_heap h4]; rfl
  obtain ⟨hsc, ec⟩ := List.getElem?_eq_some_iff.1 hc
  obtain ⟨hsb, eb⟩ := List.getElem?_eq_some_iff.1 hb
  have hcm := List.mem_of_getElem? hc
  have hbm := List.mem_of_getElem? hb
  obtain ⟨a, a1, rfl, ha, hab, y0, y1, y2⟩ := (hL.rd.gr hw0).cod (k := sc) hsc
  obtain ⟨q, q1, eq, hq, hqb, z0, z1, z2⟩ := ((hL.c c hcm).gr hw0).b.blk (k := sb) hsb
  rw [ec] at y0 y1 y2
  rw [eb] at z0 z1 z2
  rw [eq] at y1
  obtain ⟨nb, hnb⟩ : ∃ m, c.bs.length = m := ⟨_, rfl⟩
  obtain ⟨ni, hni⟩ : ∃ m, b.ins.length = m := ⟨_, rfl⟩
  rw [hnb] at y1 hsb
  rw [hni] at z2 hbn
  rw [hnc] at hsc
  obtain ⟨bA, hbA⟩ : ∃ m, b.A = m := ⟨_, rfl⟩
  rw [hbA] at z2
  have HI := Lib.hid (fun V (g : Gr w0 V) => show RD 4 Ins.cs V bA b.ins from by have := (hL.c c hcm).i b hbm; rw [hbA] at this; exact this.gr g)
  have HNI := Lib.hid hni
  have YY := Lib.hid Y
  have HDL := Lib.hid hdl
  have HGET := Lib.hid hget
  have HWF := Lib.hid hwf
  have H0 := Lib.hid h0
  obtain ⟨X, hX⟩ : ∃ X, trg (pls L) ⟨sc, sb⟩ 0 b.ins = X := ⟨_, rfl⟩
  rw [hX] at YY ⊢
  have HX0 := Lib.hid hX
  clear hX
  clear Y h0 hL hdl hget hwf hc hb hcm hbm h1 h2 h3 h4 hnb hni hbA ec eb y0 y2 z0 z1 hnc
  refine callsIn_of_wp Tryd.func52 rfl trivial ?_ rfl
  simp only [Tryd.ntmps52, List.size_toArray, List.length_cons, List.length_nil, Nat.reduceAdd, Nat.reduceSub, Array.replicate_succ, Array.replicate_zero, List.push_toArray, List.append_toArray, List.nil_append, List.cons_append]
  gi_upto_region 0 with (fail)
  gi_quiet (fail)
  gi_upto_region 1 with (fail)
  have G0 := Lib.hid (show Gr W (W.drewN nq) from gr_drewN _ _)
  have B0 := Lib.hid (show W.heap.size ≤ (W.drewN nq).heap.size from G0.out.size)
  have X0 := Lib.hid (show ([] : List Tg) ++ trg (pls L) ⟨sc, sb⟩ 0 (b.ins.drop 0) = X from HX0.out)
  have J0 := Lib.hid (YY.out.keep _ _ _ _ H0.out (Kp.of G0.out (Nat.le_refl _) fun k h => h.elim))
  generalize W.drewN nq = W1 at *
  clear u1 u2 u3 u4 y1 z2 ha hab hq hqb
  gi_loopw [22] (fun u V => ∃ (i : Nat) (pre : List Tg) (own : Nat → Prop), i ≤ ni ∧ u = .int .i64 i ∧ Hid (J pre own V ∧ pre ++ trg (pls L) ⟨sc, sb⟩ i (b.ins.drop i) = X)) (fun u _ => ni - (intOf u).toNat)
  case atStart => exact ⟨0, [], _, Nat.zero_le _, rfl, Lib.hid ⟨J0.out, X0.out⟩⟩
  case round =>
    clear J0 X0 B0 G0
    obtain ⟨i, pre, own, hin, rfl, HK⟩ := hrel
    obtain ⟨hj, hx⟩ := HK.out
    have HJ := Lib.hid hj
    have HX := Lib.hid hx
    have HO := Lib.hid (YY.out.lt _ _ _ hj)
    have HB := Lib.hid (YY.out.gr _ _ _ hj).2
    have HG := Lib.hid (YY.out.gr _ _ _ hj).1
    clear hj hx HK
    by_cases hlt : i < ni
    · obtain ⟨e, e1, eE, he, heb, z0, z1, z2, z3⟩ := (HI.out _ HG.out).ins (k := i) (by rw [HNI.out]; exact hlt)
      obtain rfl := eE
      obtain ⟨x, hx⟩ : ∃ x, b.ins[i]'(by rw [HNI.out]; exact hlt) = x := ⟨_, rfl⟩
      have HXI := Lib.hid (show b.ins[i]? = some x from by rw [List.getElem?_eq_getElem (by rw [HNI.out]; exact hlt), hx])
      rw [hx] at z0 z1 z2 z3
      clear hx
      gi_upto_region 5 with (fail)
      obtain ⟨op, hop⟩ : ∃ o, x.op = o := ⟨_, rfl⟩
      rw [hop]
      have HOP := Lib.hid hop
      clear hop z0 z1 z2 z3 he heb
      have H5 := Lib.hid (gr_h (gr_al _ (.cells #[.int .i64 0, .int .i64 0, .bool false] 80)) (al_new wr (.cells #[.int .i64 op, .int .i64 x.a, .int .i64 x.b, .string ⟨x.name.toArray⟩] 63)))
      have H6 := Lib.hid (al_at (wr.alloc (.cells #[.int .i64 op, .int .i64 x.a, .int .i64 x.b, .string ⟨x.name.toArray⟩] 63)) (.cells #[.int .i64 0, .int .i64 0, .bool false] 80) (A := wr.heap.size + 1) (by simp))
      have G8 := Lib.hid ((gr_al wr (.cells #[.int .i64 op, .int .i64 x.a, .int .i64 x.b, .string ⟨x.name.toArray⟩] 63)).trans (gr_al _ (.cells #[.int .i64 0, .int .i64 0, .bool false] 80)))
      obtain ⟨r6, hr6⟩ : ∃ r, wr.heap.size + 1 = r := ⟨_, rfl⟩
      obtain ⟨r5, hr5⟩ : ∃ r, wr.heap.size = r := ⟨_, rfl⟩
      have H66 := Lib.hid (show wr.heap.size ≤ r6 by omega)
      rw [hr6] at H6 ⊢
      rw [hr5] at H5 ⊢
      clear hr5 hr6
      generalize World.alloc _ (.cells #[.int .i64 0, .int .i64 0, .bool false] 80) = W8 at *
      have J8 := YY.out.keep _ _ _ _ HJ.out (Kp.of G8.out HB.out HO.out)
      obtain ⟨h1, h2⟩ := YY.out.box _ _ _ J8
      obtain ⟨h3, x3, y3, h4⟩ := YY.out.lk _ _ _ J8
      have H3 := Lib.hid h3
      have u1 : W8.cell? ⟨b1, 0, none⟩ = some (.pointer (some ⟨kb, 0, none⟩)) := by rw [Lib.cell_of_heap h1]; rfl
      have u2 : W8.cell? ⟨b2, 0, none⟩ = some (.int .i64 sc) := by rw [Lib.cell_of_heap h2]; rfl
      have v4 : W8.cell? ⟨kb, 1, none⟩ = some (.map (some m1)) := by rw [Lib.cell_of_heap h4]; rfl
      have v0 : W8.cell? ⟨r5, 1, none⟩ = some (.int .i64 x.a) := by rw [Lib.cell_of_heap H5.out]; rfl
      have v3 : W8.cell? ⟨r5, 3, none⟩ = some (.string ⟨x.name.toArray⟩) := by rw [Lib.cell_of_heap H5.out]; rfl
      have z0 : W8.cell? ⟨r6, 0, none⟩ = some (.int .i64 0) := by rw [Lib.cell_of_heap H6.out]; rfl
      have z1 : W8.cell? ⟨r6, 1, none⟩ = some (.int .i64 0) := by rw [Lib.cell_of_heap H6.out]; rfl
      have z2 : W8.cell? ⟨r6, 2, none⟩ = some (.bool false) := by rw [Lib.cell_of_heap H6.out]; rfl
      have fz := frz H6.out
      have fz0 := fz 0
      have fz1 := fz 1
      have fz2 := fz 2
      clear h1 h2 h3 h4 J8 fz
      rcases (show op = 4 ∨ op = 5 ∨ (op ≠ 4 ∧ op ≠ 5) from by omega) with rfl | rfl | ⟨n4, n5⟩
      · have HLK := Lib.hid (fun V (g : Gr W8 V) => show (Instr.lookup 70 (.map (some m1)) (.agg #[.string ⟨x.name.toArray⟩, .int .i64 x.a]) true).run Tryd.prog V = .ok (.tuple #[((findC (pls L) 0 x.name x.a).map Sp.v).getD (.agg #[iv 0, iv 0]), .bool ((findC (pls L) 0 x.name x.a).map Sp.v).isSome]) V from by
          obtain ⟨wa, wb⟩ := HWF.out x (List.mem_of_getElem? HXI.out) HOP.out
          have h := (lookup_k ktN (k := ⟨x.name, x.a⟩) (H3.out.keep (g.block _ H3.out.lt (by simp))) HDL.out Tryd.underlying70 (z := .agg #[iv 0, iv 0]) (by kernel_rfl) ⟨wb, wa⟩).2
          rw [HGET.out] at h
          exact h)
        have HT0 := Lib.hid (show tgt (pls L) ⟨sc, sb⟩ x = some (findC (pls L) 0 x.name x.a) from by unfold tgt; rw [if_pos HOP.out])
        obtain ⟨R, hR⟩ : ∃ R, findC (pls L) 0 x.name x.a = R := ⟨_, rfl⟩
        rw [hR] at HLK HT0
        clear hR
        cases R with
        | none =>
          have HT := Lib.hid (show tgt (pls L) ⟨sc, sb⟩ x = some none from HT0.out)
          simp only [Option.map_none, Option.getD_none, Option.isSome_none] at HLK
          have lk1 := HLK.out _ (gr_drew _)
          have dc : ∀ p, W8.drew.cell? p = W8.cell? p := fun _ => rfl
          have df : ∀ p, W8.drew.frozen? p = W8.frozen? p := fun _ => rfl
          gi_upto_region 6 with (fail)
          refine wpIn_to { tmps := #[.func (.yield l) #[] #[], .pointer (some ⟨b1, 0, none⟩), .pointer (some ⟨b2, 0, none⟩), undef, .int .i64 i, .pointer (some ⟨r5, 0, none⟩), .pointer (some ⟨r6, 0, none⟩), .pointer (some ⟨kb, 0, none⟩), .pointer (some ⟨kb, 0, none⟩), .pointer (some ⟨kb, 0, none⟩), .slice (some a) nc cp, .pointer (some ⟨b2, 0, none⟩), .int .i64 sc, .pointer (some a1), .pointer (some ⟨a1.block, a1.off + 1, none⟩), .slice (some q) nb c.bc, .pointer (some ⟨b2, 1, none⟩), .int .i64 sb, .pointer (some q1), .pointer (some ⟨q1.block, q1.off + 2, none⟩), .slice (some e) ni b.c, .int .i64 ni, .int .i64 i, .bool true, .int .i64 i, .pointer (some e1), .agg #[.int .i64 4, .int .i64 x.a, .int .i64 x.b, .string ⟨x.name.toArray⟩], .pointer (some ⟨r5, 0, none⟩), .int .i64 4, .bool true, .bool true, .tuple #[.agg #[.int .i64 0, .int .i64 0], .bool false], .pointer (some ⟨kb, 0, none⟩), .pointer (some ⟨kb, 0, none⟩), .pointer (some ⟨kb, 1, none⟩), .map (some m1), .pointer (some ⟨r5, 3, none⟩), .string ⟨x.name.toArray⟩, .pointer (some ⟨r5, 1, none⟩), .int .i64 x.a, .agg #[.string ⟨x.name.toArray⟩, .int .i64 x.a], .tuple #[.agg #[.int .i64 0, .int .i64 0], .bool false], .agg #[.int .i64 0, .int .i64 0], .bool false, .pointer (some ⟨r6, 0, none⟩), .pointer (some ⟨r6, 2, none⟩), u46, u47, u48, u49, u50, u51, u52, u53, u54, u55, u56, u57, u58, u59], defers := [] } (((W8.drew.setCell ⟨r6, 0, none⟩ (.int .i64 0)).setCell ⟨r6, 1, none⟩ (.int .i64 0)).setCell ⟨r6, 2, none⟩ (.bool false)) (fun Q0 hQ => ?_) ?_
          · have HQ := Lib.hid hQ
            clear hQ
            go_region_law (fail)
            all_goals exact HQ.out
          · clear lk1 dc df
            gi_upto_region 9 with (fail)
            have H9 := Lib.hid (show (((W8.drew.setCell ⟨r6, 0, none⟩ (.int .i64 0)).setCell ⟨r6, 1, none⟩ (.int .i64 0)).setCell ⟨r6, 2, none⟩ (.bool false)).heap[r6]? = some (.cells #[.int .i64 0, .int .i64 0, .bool false] 80 (0, 0)) from set3c (gr_h (gr_drew W8) H6.out) _ _ _)
            have G9 := Lib.hid (show Gr wr (((W8.drew.setCell ⟨r6, 0, none⟩ (.int .i64 0)).setCell ⟨r6, 1, none⟩ (.int .i64 0)).setCell ⟨r6, 2, none⟩ (.bool false)) from gr_cell (gr_cell (gr_cell (G8.out.trans (gr_drew W8)) H66.out _) H66.out _) H66.out _)
            clear u1 u2 v4 v0 v3 z0 z1 z2 fz0 fz1 fz2
            generalize ((W8.drew.setCell ⟨r6, 0, none⟩ (.int .i64 0)).setCell ⟨r6, 1, none⟩ (.int .i64 0)).setCell ⟨r6, 2, none⟩ (.bool false) = W9 at *
            have J9 := Lib.hid (YY.out.keep _ _ _ _ HJ.out (Kp.of G9.out HB.out HO.out))
            have c0 : W9.cell? ⟨r6, 0, none⟩ = some (.int .i64 0) := by rw [Lib.cell_of_heap H9.out]; rfl
            have c1 : W9.cell? ⟨r6, 1, none⟩ = some (.int .i64 0) := by rw [Lib.cell_of_heap H9.out]; rfl
            have c2 : W9.cell? ⟨r6, 2, none⟩ = some (.bool false) := by rw [Lib.cell_of_heap H9.out]; rfl
            have PO := Lib.hid (show pre ++ ((i, none) : Tg) :: trg (pls L) ⟨sc, sb⟩ (i + 1) (b.ins.drop (i + 1)) = X from by
              have h := HX.out
              rw [trg_drop HXI.out, HT.out] at h
              exact h)
            obtain ⟨fn, tmps, assign, body, hy, hR⟩ := YY.out.yield pre own (i, none) W9 J9.out ⟨_, PO.out.symm⟩
            simp only [tgV] at hy
            gi_wp2
            refine hR.mono ?_
            rintro e W3 ⟨⟨hk3, hs3⟩, ⟨rfl, own3, ho3, hJ3⟩ | ⟨rfl, hF3⟩⟩
            · have HN := Lib.hid (show J (pre ++ [(i, none)]) own3 W3 ∧ pre ++ [((i, none) : Tg)] ++ trg (pls L) ⟨sc, sb⟩ (i + 1) (b.ins.drop (i + 1)) = X from ⟨hJ3, by rw [← PO.out]; simp⟩)
              clear hk3 hs3 ho3 hJ3 hR hy c0 c1 c2
              gi_wp2
              exact ⟨⟨i + 1, _, _, hlt, by simp, HN⟩, by simp [intOf]; omega⟩
            · have FF := Lib.hid hF3
              clear hk3 hs3 hF3 hR hy c0 c1 c2
              gi_wp2
              refine bodyPost_ret (results_none rfl _ _ _) rfl ?_
              exact ⟨⟨_, rfl⟩, .inr ⟨pre, (i, none), _, PO.out.symm, FF.out⟩⟩
        | some t =>
          have HT := Lib.hid (show tgt (pls L) ⟨sc, sb⟩ x = some (some t) from HT0.out)
          simp only [Option.map_some, Option.getD_some, Option.isSome_some, Sp.v] at HLK
          have lk1 := HLK.out _ (gr_drew _)
          have dc : ∀ p, W8.drew.cell? p = W8.cell? p := fun _ => rfl
          have df : ∀ p, W8.drew.frozen? p = W8.frozen? p := fun _ => rfl
          gi_upto_region 6 with (fail)
          refine wpIn_to { tmps := #[.func (.yield l) #[] #[], .pointer (some ⟨b1, 0, none⟩), .pointer (some ⟨b2, 0, none⟩), undef, .int .i64 i, .pointer (some ⟨r5, 0, none⟩), .pointer (some ⟨r6, 0, none⟩), .pointer (some ⟨kb, 0, none⟩), .pointer (some ⟨kb, 0, none⟩), .pointer (some ⟨kb, 0, none⟩), .slice (some a) nc cp, .pointer (some ⟨b2, 0, none⟩), .int .i64 sc, .pointer (some a1), .pointer (some ⟨a1.block, a1.off + 1, none⟩), .slice (some q) nb c.bc, .pointer (some ⟨b2, 1, none⟩), .int .i64 sb, .pointer (some q1), .pointer (some ⟨q1.block, q1.off + 2, none⟩), .slice (some e) ni b.c, .int .i64 ni, .int .i64 i, .bool true, .int .i64 i, .pointer (some e1), .agg #[.int .i64 4, .int .i64 x.a, .int .i64 x.b, .string ⟨x.name.toArray⟩], .pointer (some ⟨r5, 0, none⟩), .int .i64 4, .bool true, .bool true, .tuple #[.agg #[.int .i64 t.code, .int .i64 t.block], .bool true], .pointer (some ⟨kb, 0, none⟩), .pointer (some ⟨kb, 0, none⟩), .pointer (some ⟨kb, 1, none⟩), .map (some m1), .pointer (some ⟨r5, 3, none⟩), .string ⟨x.name.toArray⟩, .pointer (some ⟨r5, 1, none⟩), .int .i64 x.a, .agg #[.string ⟨x.name.toArray⟩, .int .i64 x.a], .tuple #[.agg #[.int .i64 t.code, .int .i64 t.block], .bool true], .agg #[.int .i64 t.code, .int .i64 t.block], .bool true, .pointer (some ⟨r6, 0, none⟩), .pointer (some ⟨r6, 2, none⟩), u46, u47, u48, u49, u50, u51, u52, u53, u54, u55, u56, u57, u58, u59], defers := [] } (((W8.drew.setCell ⟨r6, 0, none⟩ (.int .i64 t.code)).setCell ⟨r6, 1, none⟩ (.int .i64 t.block)).setCell ⟨r6, 2, none⟩ (.bool true)) (fun Q0 hQ => ?_) ?_
          · have HQ := Lib.hid hQ
            clear hQ
            go_region_law (fail)
            all_goals exact HQ.out
          · clear lk1 dc df
            gi_upto_region 9 with (fail)
            have H9 := Lib.hid (show (((W8.drew.setCell ⟨r6, 0, none⟩ (.int .i64 t.code)).setCell ⟨r6, 1, none⟩ (.int .i64 t.block)).setCell ⟨r6, 2, none⟩ (.bool true)).heap[r6]? = some (.cells #[.int .i64 t.code, .int .i64 t.block, .bool true] 80 (0, 0)) from set3c (gr_h (gr_drew W8) H6.out) _ _ _)
            have G9 := Lib.hid (show Gr wr (((W8.drew.setCell ⟨r6, 0, none⟩ (.int .i64 t.code)).setCell ⟨r6, 1, none⟩ (.int .i64 t.block)).setCell ⟨r6, 2, none⟩ (.bool true)) from gr_cell (gr_cell (gr_cell (G8.out.trans (gr_drew W8)) H66.out _) H66.out _) H66.out _)
            clear u1 u2 v4 v0 v3 z0 z1 z2 fz0 fz1 fz2
            generalize ((W8.drew.setCell ⟨r6, 0, none⟩ (.int .i64 t.code)).setCell ⟨r6, 1, none⟩ (.int .i64 t.block)).setCell ⟨r6, 2, none⟩ (.bool true) = W9 at *
            have J9 := Lib.hid (YY.out.keep _ _ _ _ HJ.out (Kp.of G9.out HB.out HO.out))
            have c0 : W9.cell? ⟨r6, 0, none⟩ = some (.int .i64 t.code) := by rw [Lib.cell_of_heap H9.out]; rfl
            have c1 : W9.cell? ⟨r6, 1, none⟩ = some (.int .i64 t.block) := by rw [Lib.cell_of_heap H9.out]; rfl
            have c2 : W9.cell? ⟨r6, 2, none⟩ = some (.bool true) := by rw [Lib.cell_of_heap H9.out]; rfl
            have PO := Lib.hid (show pre ++ ((i, some t) : Tg) :: trg (pls L) ⟨sc, sb⟩ (i + 1) (b.ins.drop (i + 1)) = X from by
              have h := HX.out
              rw [trg_drop HXI.out, HT.out] at h
              exact h)
            obtain ⟨fn, tmps, assign, body, hy, hR⟩ := YY.out.yield pre own (i, some t) W9 J9.out ⟨_, PO.out.symm⟩
            simp only [tgV] at hy
            gi_wp2
            refine hR.mono ?_
            rintro e W3 ⟨⟨hk3, hs3⟩, ⟨rfl, own3, ho3, hJ3⟩ | ⟨rfl, hF3⟩⟩
            · have HN := Lib.hid (show J (pre ++ [(i, some t)]) own3 W3 ∧ pre ++ [((i, some t) : Tg)] ++ trg (pls L) ⟨sc, sb⟩ (i + 1) (b.ins.drop (i + 1)) = X from ⟨hJ3, by rw [← PO.out]; simp⟩)
              clear hk3 hs3 ho3 hJ3 hR hy c0 c1 c2
              gi_wp2
              exact ⟨⟨i + 1, _, _, hlt, by simp, HN⟩, by simp [intOf]; omega⟩
            · have FF := Lib.hid hF3
              clear hk3 hs3 hF3 hR hy c0 c1 c2
              gi_wp2
              refine bodyPost_ret (results_none rfl _ _ _) rfl ?_
              exact ⟨⟨_, rfl⟩, .inr ⟨pre, (i, some t), _, PO.out.symm, FF.out⟩⟩
      · have HT := Lib.hid (show tgt (pls L) ⟨sc, sb⟩ x = some (some ⟨sc, x.a⟩) from by unfold tgt; rw [if_neg (by have := HOP.out; omega), if_pos HOP.out])
        gi_upto_region 9 with (fail)
        have H9 := Lib.hid (show (((W8.setCell ⟨r6, 0, none⟩ (.int .i64 sc)).setCell ⟨r6, 1, none⟩ (.int .i64 x.a)).setCell ⟨r6, 2, none⟩ (.bool true)).heap[r6]? = some (.cells #[.int .i64 sc, .int .i64 x.a, .bool true] 80 (0, 0)) from set3c H6.out _ _ _)
        have G9 := Lib.hid (show Gr wr (((W8.setCell ⟨r6, 0, none⟩ (.int .i64 sc)).setCell ⟨r6, 1, none⟩ (.int .i64 x.a)).setCell ⟨r6, 2, none⟩ (.bool true)) from gr_cell (gr_cell (gr_cell G8.out H66.out _) H66.out _) H66.out _)
        clear u1 u2 v4 v0 v3 z0 z1 z2 fz0 fz1 fz2
        generalize ((W8.setCell ⟨r6, 0, none⟩ (.int .i64 sc)).setCell ⟨r6, 1, none⟩ (.int .i64 x.a)).setCell ⟨r6, 2, none⟩ (.bool true) = W9 at *
        have J9 := Lib.hid (YY.out.keep _ _ _ _ HJ.out (Kp.of G9.out HB.out HO.out))
        have c0 : W9.cell? ⟨r6, 0, none⟩ = some (.int .i64 sc) := by rw [Lib.cell_of_heap H9.out]; rfl
        have c1 : W9.cell? ⟨r6, 1, none⟩ = some (.int .i64 x.a) := by rw [Lib.cell_of_heap H9.out]; rfl
        have c2 : W9.cell? ⟨r6, 2, none⟩ = some (.bool true) := by rw [Lib.cell_of_heap H9.out]; rfl
        have PO := Lib.hid (show pre ++ ((i, some ⟨sc, x.a⟩) : Tg) :: trg (pls L) ⟨sc, sb⟩ (i + 1) (b.ins.drop (i + 1)) = X from by
          have h := HX.out
          rw [trg_drop HXI.out, HT.out] at h
          exact h)
        obtain ⟨fn, tmps, assign, body, hy, hR⟩ := YY.out.yield pre own (i, some ⟨sc, x.a⟩) W9 J9.out ⟨_, PO.out.symm⟩
        simp only [tgV] at hy
        gi_wp2
        refine hR.mono ?_
        rintro e W3 ⟨⟨hk3, hs3⟩, ⟨rfl, own3, ho3, hJ3⟩ | ⟨rfl, hF3⟩⟩
        · have HN := Lib.hid (show J (pre ++ [(i, some ⟨sc, x.a⟩)]) own3 W3 ∧ pre ++ [((i, some ⟨sc, x.a⟩) : Tg)] ++ trg (pls L) ⟨sc, sb⟩ (i + 1) (b.ins.drop (i + 1)) = X from ⟨hJ3, by rw [← PO.out]; simp⟩)
          clear hk3 hs3 ho3 hJ3 hR hy c0 c1 c2
          gi_wp2
          exact ⟨⟨i + 1, _, _, hlt, by simp, HN⟩, by simp [intOf]; omega⟩
        · have FF := Lib.hid hF3
          clear hk3 hs3 hF3 hR hy c0 c1 c2
          gi_wp2
          refine bodyPost_ret (results_none rfl _ _ _) rfl ?_
          exact ⟨⟨_, rfl⟩, .inr ⟨pre, (i, some ⟨sc, x.a⟩), _, PO.out.symm, FF.out⟩⟩
      · have HT := Lib.hid (show tgt (pls L) ⟨sc, sb⟩ x = none from by unfold tgt; rw [if_neg (by have := HOP.out; omega), if_neg (by have := HOP.out; omega)])
        have HN := Lib.hid (show J pre own W8 ∧ pre ++ trg (pls L) ⟨sc, sb⟩ (i + 1) (b.ins.drop (i + 1)) = X from ⟨YY.out.keep _ _ _ _ HJ.out (Kp.of G8.out HB.out HO.out), by
          have h := HX.out
          rw [trg_drop HXI.out, HT.out] at h
          exact h⟩)
        gi_wp2
        exact ⟨⟨i + 1, _, _, hlt, by simp, HN⟩, by simp [intOf]; omega⟩
    · obtain rfl : ni = i := by omega
      have FF := Lib.hid (show J X own wr from by
        have h := HX.out
        rw [List.drop_of_length_le (by rw [HNI.out]; exact Nat.le_refl _), trg, List.append_nil] at h
        rw [← h]; exact HJ.out)
      gi_wp2
      first | go_end0 | refine bodyPost_ret (results_none rfl _ _ _) rfl ?_
      exact ⟨⟨_, rfl⟩, .inl ⟨_, FF.out⟩⟩
end Go.Proofs.YtgboboljgcfggaaDoor

/- The walks and the words of the family types, part 3: Mps, Mat, Mtc, Mor, Uni, Unm, AdV, Adm, AdN, AdP, AdT, AdS, AdW, AdX, Tha, Thb. -/
import Derived.Test.YtjlmhfdigoogfaaM2
import Derived.MapKept
namespace Go.Proofs.Ytjlmhfdigoogfaa
open Go.RowKit

abbrev ML := List (Int × Value)
def ensF : Nat → ML → List MapEntry
  | _, [] => []
  | j, p :: l => { key := iv p.1, val := p.2, born := j } :: ensF (j + 1) l
/-- Where a number stands, and what stands for it. -/
def fnd (k : Int) : ML → Nat → Option (Nat × Value)
  | [], _ => none
  | p :: l, i => if k = p.1 then some (i, p.2) else fnd k l (i + 1)
def mget (l : ML) (k : Int) : Option Value := (fnd k l 0).map (·.2)
def mput (l : ML) (k : Int) (v : Value) : ML :=
  match fnd k l 0 with
  | some (i, _) => l.set i (k, v)
  | none => l ++ [(k, v)]
theorem ensF_len : ∀ (l : ML) (j : Nat), (ensF j l).length = l.length
  | [], _ => rfl
  | _ :: l, j => by simp [ensF, ensF_len l]
theorem ensF_app (k : Int) (v : Value) : ∀ (l : ML) (j : Nat), ensF j (l ++ [(k, v)]) = ensF j l ++ [{ key := iv k, val := v, born := j + l.length }]
  | [], _ => rfl
  | _ :: l, j => by simp [ensF, ensF_app k v l]; omega
theorem ensF_set (k : Int) (v : Value) : ∀ (l : ML) (j i : Nat), (ensF j l).modify i (fun e => { e with key := iv k, val := v }) = ensF j (l.set i (k, v))
  | [], _, _ => by simp [ensF]
  | _ :: _, _, 0 => by simp [ensF]
  | _ :: l, j, i + 1 => by simp [ensF, ensF_set k v l]
theorem findNow_ens (k : Int) : ∀ (l : ML) (j i : Nat), Instr.findNow (.int .i64) (iv k) (ensF j l) i = some (fnd k l i)
  | [], _, _ => rfl
  | p :: l, j, i => by
    by_cases h : k = p.1
    · simp [ensF, Instr.findNow, Instr.sameNow, fnd, h]
    · have : (k == p.1) = false := by simpa using h
      simp [ensF, Instr.findNow, Instr.sameNow, fnd, h, this, findNow_ens k l]
theorem fnd_shift (k : Int) : ∀ (l : ML) (i : Nat), fnd k l (i + 1) = (fnd k l i).map (fun p => (p.1 + 1, p.2))
  | [], _ => rfl
  | p :: l, i => by
    by_cases h : k = p.1
    · simp [fnd, h]
    · simp [fnd, h, fnd_shift k l]
theorem fnd_some {k : Int} : ∀ {l : ML} {i : Nat} {v : Value}, fnd k l 0 = some (i, v) → l[i]? = some (k, v)
  | [], _, _, h => by simp [fnd] at h
  | p :: l, i, v, h => by
    by_cases hk : k = p.1
    · simp only [fnd, if_pos hk, Option.some.injEq, Prod.mk.injEq] at h
      obtain ⟨rfl, rfl⟩ := h
      simp [hk]
    · simp only [fnd, if_neg hk, fnd_shift] at h
      obtain ⟨⟨j, u⟩, h1, h2⟩ := Option.map_eq_some_iff.1 h
      simp only [Prod.mk.injEq] at h2
      obtain ⟨rfl, rfl⟩ := h2
      simpa using fnd_some h1
theorem fnd_none {k : Int} : ∀ {l : ML} {i : Nat}, fnd k l i = none ↔ ∀ p ∈ l, p.1 ≠ k
  | [], _ => by simp [fnd]
  | p :: l, i => by
    by_cases hk : k = p.1
    · simp [fnd, hk]
    · simp [fnd, hk, fnd_none (l := l), Ne.symm hk]
/-- A block that is a map. -/
def MP (w : World) (b : Nat) (l : ML) : Prop := w.heap[b]? = some (.map (ensF 0 l).toArray l.length)
def World.setM (w : World) (b : Nat) (l : ML) : World := { w with heap := w.heap.setIfInBounds b (.map (ensF 0 l).toArray l.length) }
theorem MP.lt {w : World} {b : Nat} {l : ML} (h : MP w b l) : b < w.heap.size := heap_lt h
theorem MP.keep {w V : World} {b : Nat} {l : ML} (h : MP w b l) (hk : V.heap[b]? = w.heap[b]?) : MP V b l := hk.trans h
theorem MP.gr {w V : World} {b : Nat} {l : ML} (h : MP w b l) (g : Gr w V) : MP V b l := gr_h g h
theorem MP.made (w : World) : MP (w.alloc (.map #[] 0)) w.heap.size [] := al_new _ _
theorem MP.set {w : World} {b : Nat} {l m : ML} (h : MP w b l) : MP (World.setM w b m) b m := by
  unfold MP World.setM
  simp [h.lt]
theorem setM_other {w : World} {b j : Nat} {m : ML} (h : j ≠ b) : (World.setM w b m).heap[j]? = w.heap[j]? := by
  unfold World.setM
  simp [Ne.symm h]
theorem setM_size (w : World) (b : Nat) (m : ML) : (World.setM w b m).heap.size = w.heap.size := by simp [World.setM]
theorem grown_setM (w : World) (b : Nat) (m : ML) : w.grownBy (World.setM w b m) (some b) := ⟨rfl, rfl, rfl, by simp [World.setM], fun i _ hne => setM_other (by rintro rfl; exact hne rfl)⟩
theorem isKey (k : Int) : Go.MapKept.IsKey (.int .i64) (iv k) := by simp [Go.MapKept.IsKey]
theorem lookup_m {w : World} {b : Nat} {l : ML} (h : MP w b l) {t e : TypeId} {z : Value} (ht : Try.prog.underlying t = some (.map 3 e)) (hz : (zeroValue e).run Try.prog w = .ok z w) (k : Int) :
    (Instr.lookup t (.map (some b)) (iv k) false).run Try.prog w = .ok ((mget l k).getD z) w ∧ (Instr.lookup t (.map (some b)) (iv k) true).run Try.prog w = .ok (.tuple #[(mget l k).getD z, .bool (mget l k).isSome]) w := by
  have h3 : Try.prog.underlying 3 = some (.int .i64) := Try.underlying3
  have hf := Go.MapKept.run_findKey (P := Try.prog) (w := w) (kt := 3) h3 (findNow_ens k l 0 0)
  have hc := fun em => Go.MapKept.run_checkKey (P := Try.prog) (w := w) (kt := 3) h3 (isKey k) em 9999
  have hg := Go.MapKept.run_getObj_map (P := Try.prog) h
  unfold Instr.lookup
  unfold mget
  cases hq : fnd k l 0 with
  | none =>
    rw [hq] at hf
    simp [run_underlying ht, hg, hc, hf, hz, Result.andThen]
  | some p =>
    obtain ⟨i, v⟩ := p
    rw [hq] at hf
    simp [run_underlying ht, hg, hc, hf, Result.andThen]
theorem update_m {w : World} {b : Nat} {l : ML} (h : MP w b l) {t e : TypeId} (ht : Try.prog.underlying t = some (.map 3 e)) (k : Int) (v : Value) :
    (Instr.mapUpdate t (.map (some b)) (iv k) v).run Try.prog w = .ok () (World.setM w b (mput l k v)) := by
  have h3 : Try.prog.underlying 3 = some (.int .i64) := Try.underlying3
  have hf := Go.MapKept.run_findKey (P := Try.prog) (w := w) (kt := 3) h3 (findNow_ens k l 0 0)
  have hc := fun em => Go.MapKept.run_checkKey (P := Try.prog) (w := w) (kt := 3) h3 (isKey k) em 9999
  have hg := Go.MapKept.run_getObj_map (P := Try.prog) h
  have hs := fun o => Go.MapKept.run_setObj_map (P := Try.prog) o h
  unfold Instr.mapUpdate
  unfold mput World.setM
  cases hq : fnd k l 0 with
  | none =>
    rw [hq] at hf
    simp [run_underlying ht, hg, hc, hf, hs, Result.andThen, ensF_app]
  | some p =>
    obtain ⟨i, u⟩ := p
    rw [hq] at hf
    have h5 := fnd_some hq
    have h6 : (ensF 0 l)[i]?.map (·.key) = some (iv k) := by
      have h7 : ∀ (l : ML) (j i : Nat), (ensF j l)[i]?.map (·.key) = l[i]?.map (fun p => iv p.1) := by
        intro l
        induction l with
        | nil => intro j i; simp [ensF]
        | cons p l ih =>
          intro j i
          cases i with
          | zero => simp [ensF]
          | succ i => simp [ensF, ih]
      rw [h7, h5]; rfl
    have h9 : (Instr.keyThatStays (iv k) (iv k)).run Try.prog w = .ok (iv k) w := by
      simp [Instr.keyThatStays, Instr.sameBits]
    have h10 := ensF_set k v l 0 i
    simp [run_underlying ht, hg, hc, hf, hs, h6, h9, Result.andThen, h10]
theorem mget_nil (k : Int) : mget [] k = none := rfl
end Go.Proofs.Ytjlmhfdigoogfaa
namespace Go.Proofs.Ytjlmhfdigoogfaa
open Go.RowKit

abbrev wr64 (n : Int) : Int := IntKind.i64.wrap n
abbrev FA := List (Int × PT)
def fas (k : Int) (l : FA) : Option PT := (l.find? (fun p => decide (p.1 = k))).map (·.2)
mutual
/-- What stands for the own variables, if a type results from one of a scheme. -/
def mt (m : Int) : PT → PT → FA → Option FA
  | .mk k v s, t, fd =>
    if k = 5 then
      (if m ≤ v then (if t.seq (.mk 5 (wr64 (v - m)) []) then some fd else none)
      else match fas v fd with
        | some o => if o.seq t then some fd else none
        | none => some (fd ++ [(v, t)]))
    else if k = t.kind ∧ s.length = t.sub.length then mts m s t.sub fd else none
def mts (m : Int) : List PT → List PT → FA → Option FA
  | x :: l, y :: n, fd => match mt m x y fd with | some fd' => mts m l n fd' | none => none
  | [], _, fd => some fd
  | _ :: _, [], fd => some fd
end
theorem mt_eq (m : Int) (p t : PT) (fd : FA) : mt m p t fd = if p.kind = 5 then
      (if m ≤ p.var then (if t.seq (.mk 5 (wr64 (p.var - m)) []) then some fd else none)
      else match fas p.var fd with
        | some o => if o.seq t then some fd else none
        | none => some (fd ++ [(p.var, t)]))
    else if p.kind = t.kind ∧ p.sub.length = t.sub.length then mts m p.sub t.sub fd else none := by
  cases p with
  | mk k v s =>
    rw [mt]
    rfl
theorem mts_snoc (m : Int) (x y : PT) : ∀ (l n : List PT) (fd : FA), l.length = n.length → mts m (l ++ [x]) (n ++ [y]) fd = (mts m l n fd).bind (mt m x y)
  | [], [], fd, _ => by
    simp only [List.nil_append, mts, Option.bind_some]
    cases mt m x y fd <;> rfl
  | a :: l, b :: n, fd, h => by
    simp only [List.cons_append, mts]
    cases hq : mt m a b fd with
    | none => rfl
    | some fd' => exact mts_snoc m x y l n fd' (by simpa using h)
  | [], _ :: _, _, h => by simp at h
  | _ :: _, [], _, h => by simp at h
theorem mts_app (m : Int) (l' n' : List PT) : ∀ (l n : List PT) (fd : FA), l.length = n.length → mts m (l ++ l') (n ++ n') fd = (mts m l n fd).bind (mts m l' n')
  | [], [], fd, _ => by simp [mts]
  | a :: l, b :: n, fd, h => by
    simp only [List.cons_append, mts]
    cases hq : mt m a b fd with
    | none => rfl
    | some fd' => exact mts_app m l' n' l n fd' (by simpa using h)
  | [], _ :: _, _, h => by simp at h
  | _ :: _, [], _, h => by simp at h
theorem mts_succ {m : Int} {l n : List PT} {fd : FA} {k : Nat} (h : k < l.length) (h' : k < n.length) : mts m (l.take (k + 1)) (n.take (k + 1)) fd = (mts m (l.take k) (n.take k) fd).bind (mt m l[k] n[k]) := by
  rw [List.take_succ_eq_append_getElem h, List.take_succ_eq_append_getElem h']
  exact mts_snoc m _ _ _ _ _ (by simp; omega)
theorem mts_stop {m : Int} {l n : List PT} {fd : FA} {k : Nat} (hl : l.length = n.length) (h : mts m (l.take k) (n.take k) fd = none) : mts m l n fd = none := by
  have h1 := mts_app m (l.drop k) (n.drop k) (l.take k) (n.take k) fd (by simp [hl])
  rw [List.take_append_drop, List.take_append_drop, h] at h1
  exact h1
/-- The rows of a type are cells. -/
theorem TRd.tinC {w : World} {A : Option Addr} {c : Nat} {L : List Ty} (h : TRd w A c L) : TIn (fun k => ∃ d t f, w.heap[k]? = some (.cells d t f)) A L := by
  induction h with
  | @mk A c L hc hm h0 hr _ ih =>
    refine .mk (fun a e n => ?_) ih
    rcases hr with rfl | ⟨a', e', hb, hc⟩
    · exact absurd rfl n
    · rw [e] at e'; cases e'
      cases L with
      | nil => exact absurd rfl n
      | cons x L =>
        have h1 := hc 0 x rfl 0 _ rfl
        simp only [Nat.zero_mul, Nat.add_zero, add_zero'] at h1
        unfold World.cell? at h1
        split at h1
        · rename_i d t f hq
          exact ⟨d, t, f, hq⟩
        · cases h1
theorem TRd.map {w V : World} {b : Nat} {l : ML} {A : Option Addr} {c : Nat} {L : List Ty} (h : TRd w A c L) (hb : MP w b l) (g : w.grownBy V (some b)) : TRd V A c L :=
  TRd.keepAt h h.tinC g.size fun k ⟨d, t, f, hk⟩ hl => g.block k hl (by
    rintro e
    cases e
    unfold MP at hb
    rw [hk] at hb
    cases hb)
/-- What has been found, in a map. -/
def FD (w : World) (b : Nat) (fd : FA) : Prop := ∃ F : List (Int × Ty), MP w b (F.map fun p => (p.1, p.2.v)) ∧ (∀ p ∈ F, p.2.Rd w) ∧ F.map (fun p => (p.1, p.2.er)) = fd
theorem FD.gr {w V : World} {b : Nat} {fd : FA} (h : FD w b fd) (g : Gr w V) : FD V b fd := by
  obtain ⟨F, h1, h2, h3⟩ := h
  exact ⟨F, h1.gr g, fun p hp => TRd.gr (h2 p hp) g, h3⟩
theorem fnd_fas (k : Int) : ∀ (F : List (Int × Ty)) (i : Nat), (fas k (F.map fun p => (p.1, p.2.er)) = none ∧ fnd k (F.map fun p => (p.1, p.2.v)) i = none) ∨ ∃ p ∈ F, fas k (F.map fun p => (p.1, p.2.er)) = some p.2.er ∧ ∃ j, fnd k (F.map fun p => (p.1, p.2.v)) i = some (j, p.2.v)
  | [], _ => .inl ⟨rfl, rfl⟩
  | p :: F, i => by
    by_cases h : k = p.1
    · exact .inr ⟨p, by simp, by simp [fas, h], i, by simp [fnd, h]⟩
    · rcases fnd_fas k F (i + 1) with ⟨h1, h2⟩ | ⟨q, hq, h1, j, h2⟩
      · exact .inl ⟨by simpa [fas, Ne.symm h] using h1, by simpa [fnd, h] using h2⟩
      · exact .inr ⟨q, by simp [hq], by simpa [fas, Ne.symm h] using h1, j, by simpa [fnd, h] using h2⟩
theorem FD.put {w : World} {b : Nat} {fd : FA} {k : Int} {x : Ty} (h : FD w b fd) (hx : x.Rd w) (hn : fas k fd = none) : ∃ l : ML, (Instr.mapUpdate 100 (.map (some b)) (iv k) x.v).run Try.prog w = .ok () (World.setM w b l) ∧ FD (World.setM w b l) b (fd ++ [(k, x.er)]) := by
  obtain ⟨F, h1, h2, rfl⟩ := h
  refine ⟨_, update_m h1 Try.underlying100 k x.v, F ++ [(k, x)], ?_, fun p hp => ?_, by simp⟩
  · have hm : mput (F.map fun p => (p.1, p.2.v)) k x.v = (F ++ [(k, x)]).map fun p => (p.1, p.2.v) := by
      unfold mput
      rcases fnd_fas k F 0 with ⟨-, h4⟩ | ⟨q, hq, h4, j, h5⟩
      · rw [h4]; simp
      · rw [hn] at h4; cases h4
    rw [hm]
    exact MP.set h1
  · rcases List.mem_append.1 hp with hp | hp
    · exact TRd.map (h2 p hp) h1 (grown_setM _ _ _)
    · simp only [List.mem_singleton] at hp
      subst hp
      exact TRd.map hx h1 (grown_setM _ _ _)
theorem FD.look {w : World} {b : Nat} {fd : FA} (k : Int) (h : FD w b fd) : (fas k fd = none ∧ (Instr.lookup 100 (.map (some b)) (iv k) true).run Try.prog w = .ok (.tuple #[.agg #[iv 0, iv 0, .slice none 0 0], .bool false]) w) ∨
    ∃ x : Ty, fas k fd = some x.er ∧ x.Rd w ∧ (Instr.lookup 100 (.map (some b)) (iv k) true).run Try.prog w = .ok (.tuple #[x.v, .bool true]) w := by
  obtain ⟨F, h1, h2, rfl⟩ := h
  have hl := (lookup_m h1 Try.underlying100 (z := .agg #[iv 0, iv 0, .slice none 0 0]) (by kernel_rfl) k).2
  rcases fnd_fas k F 0 with ⟨h3, h4⟩ | ⟨q, hq, h4, j, h5⟩
  · left
    refine ⟨h3, ?_⟩
    rw [hl]
    unfold mget
    rw [h4]
    rfl
  · right
    refine ⟨q.2, h4, h2 q hq, ?_⟩
    rw [hl]
    unfold mget
    rw [h5]
    rfl
/-- What match leaves. -/
def MR (b : Nat) (w : World) (r : Option FA) (e : Ending) (w' : World) : Prop := w.grownBy w' (some b) ∧ match r with
  | some fd => e = .returned (.bool true) ∧ FD w' b fd
  | none => e = .returned (.bool false)
/-- The boxes of match. -/
structure MB (m k v : Int) (s : Value) (k' v' : Int) (s' : Value) (b : Nat) (w V : World) : Prop where
  gr : w.grownBy V (some b)
  hv : V.heap[w.heap.size]? = some (.cells #[iv m] 3 (0, 0))
  h : V.heap[w.heap.size + 1]? = some (.cells #[iv k, iv v, s] 24 (0, 0))
  h' : V.heap[w.heap.size + 2]? = some (.cells #[iv k', iv v', s'] 24 (0, 0))
  hm : V.heap[w.heap.size + 3]? = some (.cells #[.map (some b)] 100 (0, 0))
section
variable {m k v k' v' : Int} {s s' : Value} {b : Nat} {w V V' : World}
theorem MB.of (m k v : Int) (s : Value) (k' v' : Int) (s' : Value) (b : Nat) (w : World) : MB m k v s k' v' s' b w ((((w.alloc (.cells #[iv m] 3)).alloc (.cells #[iv k, iv v, s] 24)).alloc (.cells #[iv k', iv v', s'] 24)).alloc (.cells #[.map (some b)] 100)) :=
  ⟨World.grownBy.but ((((gr_al _ _).trans (gr_al _ _)).trans (gr_al _ _)).trans (gr_al _ _)) _, (((Below.heap_alloc _ _ _ (by simp; omega)).trans (Below.heap_alloc _ _ _ (by simp; omega))).trans (Below.heap_alloc _ _ _ (by simp))).trans (al_new w _),
    ((Below.heap_alloc _ _ _ (by simp)).trans (Below.heap_alloc _ _ _ (by simp))).trans (al_at _ _ (by simp)), (Below.heap_alloc _ _ _ (by simp)).trans (al_at _ _ (by simp)), al_at _ _ (by simp)⟩
theorem MB.grow (h : MB m k v s k' v' s' b w V) (hb : b < w.heap.size) (g : V.grownBy V' (some b)) : MB m k v s k' v' s' b w V' :=
  ⟨h.gr.trans g, (g.block _ (heap_lt h.hv) (fun e => by cases e; omega)).trans h.hv, (g.block _ (heap_lt h.h) (fun e => by cases e; omega)).trans h.h, (g.block _ (heap_lt h.h') (fun e => by cases e; omega)).trans h.h', (g.block _ (heap_lt h.hm) (fun e => by cases e; omega)).trans h.hm⟩
theorem cell1 {W : World} {k : Nat} {a : Value} {t : TypeId} (h : W.heap[k]? = some (.cells #[a] t (0, 0))) : W.cell? ⟨k, 0, none⟩ = some a := by rw [Lib.cell_of_heap h]; rfl
end
set_option maxRecDepth 100000 in
set_option maxHeartbeats 4000000 in
/-- match$1, by match. -/
theorem match89 {p q : Ty} {m : Int} {b p0 q0 : Nat} {w : World} {r : Option FA} (h0 : w.cell? ⟨p0, 0, none⟩ = some (iv m)) (h1 : w.cell? ⟨q0, 0, none⟩ = some (.map (some b)))
    (h : ∀ V, Gr w V → Calls Try.prog 70 #[iv m, p.v, q.v, .map (some b)] V (MR b V r)) : Calls Try.prog 89 #[p.v, q.v, .pointer (some ⟨p0, 0, none⟩), .pointer (some ⟨q0, 0, none⟩)] w (MR b w r) := by
  have BX := Lib.hid (BB.of p.kind p.var (.slice p.A p.sub.length p.c) q.kind q.var (.slice q.A q.sub.length q.c) w)
  have HC := Lib.hid h
  obtain ⟨b0, b1, b2⟩ := BX.out.c
  obtain ⟨c0, c1, c2⟩ := BX.out.c'
  have e0 := gr_c BX.out.gr h0
  have e1 := gr_c BX.out.gr h1
  clear h
  unfold Ty.v at *
  cases r with
  | some fd =>
    go_enter Try.func89, Try.ntmps89
    go_wp2_with (first | (go_at_call 70; refine (HC.out _ BX.out.gr).mono ?_; rintro e w6 ⟨g6, rfl, h6⟩; have G6 := Lib.hid ((World.grownBy.but BX.out.gr (some b)).trans g6); have H6 := Lib.hid h6; clear g6 h6))
    go_ret
    exact ⟨G6.out, rfl, H6.out⟩
  | none =>
    go_enter Try.func89, Try.ntmps89
    go_wp2_with (first | (go_at_call 70; refine (HC.out _ BX.out.gr).mono ?_; rintro e w6 ⟨g6, rfl⟩; have G6 := Lib.hid ((World.grownBy.but BX.out.gr (some b)).trans g6); clear g6))
    go_ret
    exact ⟨G6.out, rfl⟩
end Go.Proofs.Ytjlmhfdigoogfaa
namespace Go.Proofs.Ytjlmhfdigoogfaa
open Go.RowKit

set_option maxRecDepth 100000 in
set_option maxHeartbeats 4000000 in
theorem match_any (x : Ty) : ∀ (m : Int) (y : Ty) (b : Nat) (fd : FA) (w : World), x.Rd w → y.Rd w → FD w b fd → Calls Try.prog 70 #[iv m, x.v, y.v, .map (some b)] w (MR b w (mt m x.er y.er fd)) := by
  induction x using Ty.ind with
  | h x ih =>
    intro m y b fd w hx hy hf
    have IH := Lib.hid ih
    have HX := Lib.hid (fun V (g : Gr w V) => TRd.gr hx g)
    have HY := Lib.hid (fun V (g : Gr w V) => TRd.gr hy g)
    have HF := Lib.hid (fun V (g : Gr w V) => hf.gr g)
    have HB := Lib.hid (show b < w.heap.size from by obtain ⟨F, h1, -⟩ := hf; exact h1.lt)
    have BX := Lib.hid (MB.of m x.kind x.var (.slice x.A x.sub.length x.c) y.kind y.var (.slice y.A y.sub.length y.c) b w)
    have G4 := Lib.hid (show Gr w ((((w.alloc (.cells #[iv m] 3)).alloc (.cells #[iv x.kind, iv x.var, .slice x.A x.sub.length x.c] 24)).alloc (.cells #[iv y.kind, iv y.var, .slice y.A y.sub.length y.c] 24)).alloc (.cells #[.map (some b)] 100)) from (((gr_al _ _).trans (gr_al _ _)).trans (gr_al _ _)).trans (gr_al _ _))
    have MT := Lib.hid (mt_eq m x.er y.er fd)
    rw [er_kind, er_var, er_sub, er_kind, er_sub, ers_length, ers_length] at MT
    have HM := Lib.hid (show ∀ V, w.grownBy V (some b) → TRd V x.A x.c x.sub ∧ TRd V y.A y.c y.sub from fun V g => by obtain ⟨F, h1, -⟩ := hf; exact ⟨TRd.map hx h1 g, TRd.map hy h1 g⟩)
    have hlen : x.sub.length ≤ 9223372036854775807 := Nat.le_trans hx.hc hx.hm
    clear hx hy hf ih
    unfold Ty.v
    obtain ⟨K, hK⟩ : ∃ K, x.kind = K := ⟨_, rfl⟩
    obtain ⟨U, hU⟩ : ∃ U, x.var = U := ⟨_, rfl⟩
    rw [hK, hU] at BX G4 MT ⊢
    obtain ⟨⟨b0, b1, b2⟩, -⟩ := cell3 BX.out.h
    obtain ⟨⟨c0, c1, c2⟩, -⟩ := cell3 BX.out.h'
    have d0 := cell1 BX.out.hv
    have d1 := cell1 BX.out.hm
    clear hK hU
    by_cases h5 : K = 5
    · subst h5
      rw [if_pos rfl] at MT
      by_cases hm : m ≤ U
      · rw [if_pos hm] at MT
        obtain ⟨z, hz⟩ : ∃ z, IntKind.i64.wrap (U - m) = z := ⟨_, rfl⟩
        have EQ := Lib.hid (fun V (g : Gr w V) => equal_any y (.mk 5 z none 0 []) V (HY.out V g) (TRd.nil _))
        have EZ := Lib.hid (show wr64 (U - m) = z from hz)
        rw [EZ.out] at MT
        have ET := Lib.hid (show (Ty.mk 5 z none 0 []).er = .mk 5 z [] by simp [Ty.er])
        rw [ET.out] at EQ
        obtain ⟨r, hr⟩ : ∃ r, y.er.seq (.mk 5 z []) = r := ⟨_, rfl⟩
        rw [hr] at MT EQ
        unfold Ty.v at EQ
        simp only [Ty.kind, Ty.var, Ty.A, Ty.sub, Ty.c, List.length_nil] at EQ
        clear hr
        rw [MT.out]
        go_enter Try.func70, Try.ntmps70
        go_upto_region 3 with (fail)
        generalize hW : World.alloc (World.alloc (World.alloc (World.alloc w _) _) _) _ = W4 at *
        clear hW
        have VA := Lib.hid (fun V => variable_any z V)
        go_region_law (first | (go_simp; go_at_call 62; refine (VA.out _).mono ?_; rintro e w5 ⟨rfl, g5⟩; have g5' := (gr_drew _).trans g5; obtain ⟨⟨c3, c4, c5⟩, -⟩ := cell3 (gr_h g5' BX.out.h'); have G5 := Lib.hid (G4.out.trans g5'); clear g5 g5') | (go_simp; go_at_call 87; refine (EQ.out _ G5.out).mono ?_; rintro e w6 ⟨rfl, g6⟩; have G6 := Lib.hid (G5.out.trans g6); clear g6))
        all_goals go_wp2
        all_goals go_ret
        all_goals refine ⟨World.grownBy.but G6.out _, ?_⟩
        all_goals cases r
        all_goals first | exact rfl | exact ⟨rfl, HF.out _ G6.out⟩
      · rw [if_neg hm] at MT
        rcases FD.look U (HF.out _ G4.out) with ⟨h1, h2⟩ | ⟨o, h1, h2, h3⟩
        · rw [h1] at MT
          have H1 := Lib.hid h1
          clear h1
          rw [MT.out]
          have PU := Lib.hid (fun V (g : Gr w V) => FD.put (k := U) (HF.out V g) (HY.out V g) H1.out)
          obtain ⟨l, hl, hfd⟩ := PU.out _ (G4.out.trans (gr_al _ (.cells #[iv 0, iv 0, .slice none 0 0] 24)))
          have FE := Lib.hid hfd
          have GG := Lib.hid ((World.grownBy.but (G4.out.trans (gr_al _ (.cells #[iv 0, iv 0, .slice none 0 0] 24))) (some b)).trans (grown_setM _ b l))
          unfold Ty.v at hl
          clear hfd
          go_enter Try.func70, Try.ntmps70
          go_wp2
          go_ret
          exact ⟨GG.out, rfl, FE.out⟩
        · rw [h1] at MT
          have H2 := Lib.hid h2
          have EQ := Lib.hid (fun V (g : Gr w V) (g' : Gr _ V) => equal_any o y V (TRd.gr H2.out g') (HY.out V g))
          obtain ⟨r, hr⟩ : ∃ r, o.er.seq y.er = r := ⟨_, rfl⟩
          simp only [hr] at MT EQ
          unfold Ty.v at EQ h3
          clear h1 h2 hr
          rw [MT.out]
          go_enter Try.func70, Try.ntmps70
          go_wp2_with (first | (go_at_call 87; refine (EQ.out _ (G4.out.trans (gr_al _ _)) (gr_al _ _)).mono ?_; rintro e w6 ⟨rfl, g6⟩; have G6 := Lib.hid ((G4.out.trans (gr_al _ _)).trans g6); clear g6))
          all_goals go_ret
          all_goals refine ⟨World.grownBy.but G6.out _, ?_⟩
          all_goals first | exact rfl | exact ⟨rfl, HF.out _ G6.out⟩ | (cases r <;> first | exact rfl | exact ⟨rfl, HF.out _ G6.out⟩)
    · rw [if_neg h5] at MT
      have hb5 : (K == 5) = false := by simpa using h5
      obtain ⟨K', hK'⟩ : ∃ K, y.kind = K := ⟨_, rfl⟩
      rw [hK'] at BX G4 MT c0 ⊢
      simp only [hK'] at b0 b1 b2 c1 c2 d0 d1
      clear hK'
      by_cases hk : K = K'
      · subst hk
        have MT2 := Lib.hid (show mt m x.er y.er fd = if x.sub.length = y.sub.length then mts m (ers x.sub) (ers y.sub) fd else none by
          rw [MT.out]
          by_cases h : x.sub.length = y.sub.length
          · rw [if_pos ⟨rfl, h⟩, if_pos h]
          · rw [if_neg (fun h' => h h'.2), if_neg h])
        have CL := Lib.hid (fun V (hV : MB m K U (.slice x.A x.sub.length x.c) K y.var (.slice y.A y.sub.length y.c) b w V) (hD : FD V b fd) => eqf89 ⟨w.heap.size, 0, none⟩ ⟨w.heap.size + 3, 0, none⟩ x.A y.A x.c y.c x.sub y.sub V hlen
          (fun k V => MB m K U (.slice x.A x.sub.length x.c) K y.var (.slice y.A y.sub.length y.c) b w V ∧ ∃ fd', mts m ((ers x.sub).take k) ((ers y.sub).take k) fd = some fd' ∧ FD V b fd')
          (fun V => w.grownBy V (some b) ∧ (x.sub.length = y.sub.length → mts m (ers x.sub) (ers y.sub) fd = none))
          (fun k V h => ⟨(HM.out V h.1.gr).1.hr, (HM.out V h.1.gr).2.hr⟩)
          (fun k V V' h g => ⟨h.1.grow HB.out (World.grownBy.but g _), by obtain ⟨-, fd', h1, h2⟩ := h; exact ⟨fd', h1, h2.gr g⟩⟩)
          ⟨hV, fd, by simp [mts], hD⟩
          (fun k h h' V hV => by
            obtain ⟨hB, fd', h1, h2⟩ := hV
            have hp := (HM.out V hB.gr).1.hs _ (List.getElem_mem h)
            have hq := (HM.out V hB.gr).2.hs _ (List.getElem_mem h')
            refine (match89 (r := mt m x.sub[k].er y.sub[k].er fd') (cell1 hB.hv) (cell1 hB.hm) fun V' g => IH.out _ (List.getElem_mem h) m _ b fd' V' (TRd.gr hp g) (TRd.gr hq g) (h2.gr g)).mono ?_
            have e1 : k < (ers x.sub).length := by simpa using h
            have e2 : k < (ers y.sub).length := by simpa using h'
            have e3 := mts_succ (m := m) (fd := fd) e1 e2
            have e4 : (ers x.sub)[k] = x.sub[k].er := by simp [ers_map]
            have e5 : (ers y.sub)[k] = y.sub[k].er := by simp [ers_map]
            rw [h1, Option.bind_some, e4, e5] at e3
            rintro e V' ⟨g, hr⟩
            cases hq : mt m x.sub[k].er y.sub[k].er fd' with
            | some f2 =>
              rw [hq] at hr e3
              exact .inl ⟨hr.1, hB.grow HB.out g, f2, e3, hr.2⟩
            | none =>
              rw [hq] at hr e3
              exact .inr ⟨hr, hB.gr.trans g, fun hl => mts_stop (by simpa using hl) e3⟩))
        have C4 := Lib.hid (CL.out _ BX.out (HF.out _ G4.out))
        clear CL MT IH HX HY HM hlen
        go_enter Try.func70, Try.ntmps70
        go_wp2_with (first | (go_at_call 88; refine C4.out.mono ?_; rintro e w6 (⟨h6, rfl, rfl⟩ | ⟨h6, ⟨rfl, g6⟩ | ⟨rfl, g6⟩⟩) <;> have H6 := Lib.hid h6 <;> first | (have G6 := Lib.hid g6; clear h6 g6) | clear h6))
        · go_ret
          rw [MT2.out, if_neg H6.out]
          exact ⟨BX.out.gr, rfl⟩
        · go_ret
          obtain ⟨hB, fd', h1, h2⟩ := G6.out
          have e1 : (ers y.sub).take x.sub.length = ers y.sub := List.take_of_length_le (by simp [H6.out])
          have e2 : (ers x.sub).take x.sub.length = ers x.sub := List.take_of_length_le (by simp)
          rw [e1, e2] at h1
          rw [MT2.out, if_pos H6.out, h1]
          exact ⟨hB.gr, rfl, h2⟩
        · go_ret
          rw [MT2.out, if_pos H6.out, G6.out.2 H6.out]
          exact ⟨G6.out.1, rfl⟩
      · have hbk : (K == K') = false := by simpa using hk
        have MT2 := Lib.hid (show mt m x.er y.er fd = none by rw [MT.out, if_neg (fun h => hk h.1)])
        rw [MT2.out]
        clear MT IH HX HM
        go_enter Try.func70, Try.ntmps70
        go_wp2
        go_ret
        exact ⟨World.grownBy.but G4.out _, rfl⟩
end Go.Proofs.Ytjlmhfdigoogfaa
namespace Go.Proofs.Ytjlmhfdigoogfaa
open Go.RowKit

theorem gr_own {w V V' : World} {b : Nat} (g : Gr w V) (hb : w.heap.size ≤ b) (h : V.grownBy V' (some b)) : Gr w V' :=
  ⟨h.os.trans g.os, h.tape.trans g.tape, h.output.trans g.output, Nat.le_trans g.size h.size, fun j hj _ => (h.block j (Nat.lt_of_lt_of_le hj g.size) (fun e => by cases e; omega)).trans (g.block j hj (by simp))⟩
set_option maxRecDepth 100000 in
theorem more1_any (n m : Int) (p0 : Nat) (w0 w : World) (h : w.cell? ⟨p0, 0, none⟩ = some (iv m)) : Calls Try.prog 72 #[iv n, .pointer (some ⟨p0, 0, none⟩)] w (FR w0 (.mk 5 (wr64 (n - m)) []) w) := by
  obtain ⟨z, hz⟩ : ∃ z, IntKind.i64.wrap (n - m) = z := ⟨_, rfl⟩
  have EZ := Lib.hid (show wr64 (n - m) = z from hz)
  rw [EZ.out]
  have VA := Lib.hid (fun V => variable_any z V)
  have HA := Lib.hid (show (w.alloc (.cells #[iv 0, iv 0, .slice none 0 0] 24)).heap[w.heap.size]? = some (.cells #[iv 0, iv 0, .slice none 0 0] 24 (0, 0)) from al_new _ _)
  have h' := gr_c (gr_al w (.cells #[iv 0, iv 0, .slice none 0 0] 24)) h
  go_enter Try.func72, Try.ntmps72
  go_wp2_with (first | (go_at_call 62; refine (VA.out _).mono ?_; rintro e w5 ⟨rfl, g5⟩; have G5 := Lib.hid g5; have H5 := Lib.hid (gr_h g5 HA.out); obtain ⟨⟨c0, c1, c2⟩, fz⟩ := cell3 H5.out; have z0 := fz 0; have z1 := fz 1; have z2 := fz 2; clear g5 fz))
  have H6 := Lib.hid (set3 (a' := iv 5) (b' := iv z) (c' := .slice none 0 0) H5.out)
  refine bodyPost_ret (results_cell_row (P := Try.prog) rfl _ _ (w.heap.size) _ _ _ _ rfl H6.out rfl rfl rfl) rfl ⟨⟨_, rfl, TyR.flat _ _ 5 z⟩, ?_⟩
  exact gr_cell (gr_cell (gr_cell ((gr_al _ _).trans G5.out) (Nat.le_refl _) _) (Nat.le_refl _) _) (Nat.le_refl _) _
/-- Two schemes in boxes behind a world. -/
structure BS (n k v : Int) (s : Value) (n' k' v' : Int) (s' : Value) (w V : World) : Prop where
  gr : Gr w V
  h : V.heap[w.heap.size]? = some (.cells #[iv n, iv k, iv v, s] 47 (0, 0))
  h' : V.heap[w.heap.size + 1]? = some (.cells #[iv n', iv k', iv v', s'] 47 (0, 0))
theorem BS.of (n k v : Int) (s : Value) (n' k' v' : Int) (s' : Value) (w : World) : BS n k v s n' k' v' s' w ((w.alloc (.cells #[iv n, iv k, iv v, s] 47)).alloc (.cells #[iv n', iv k', iv v', s'] 47)) :=
  ⟨(gr_al _ _).trans (gr_al _ _), (Below.heap_alloc _ _ _ (by simp)).trans (al_new _ _), al_at _ _ (by simp)⟩
theorem BS.grow {n k v : Int} {s : Value} {n' k' v' : Int} {s' : Value} {w V V' : World} (h : BS n k v s n' k' v' s' w V) (g : Gr V V') : BS n k v s n' k' v' s' w V' := ⟨h.gr.trans g, gr_h g h.h, gr_h g h.h'⟩
theorem cell4 {W : World} {k : Nat} {a b c d : Value} {t : TypeId} (h : W.heap[k]? = some (.cells #[a, b, c, d] t (0, 0))) : W.cell? ⟨k, 0, none⟩ = some a ∧ W.cell? ⟨k, 1, none⟩ = some b ∧ W.cell? ⟨k, 2, none⟩ = some c ∧ W.cell? ⟨k, 3, none⟩ = some d := by
  refine ⟨?_, ?_, ?_, ?_⟩ <;> · rw [Lib.cell_of_heap h]; rfl
/-- A scheme is at least as general as another one. -/
def moreP (n : Int) (t : PT) (m : Int) (u : PT) : Bool := sval n t && sval m u && (mt n t (u.rep fun i => .mk 5 (wr64 (i - m)) []) []).isSome
theorem sval_ck {n : Int} {t : PT} (h : sval n t = true) : ck t = 0 := by
  unfold sval at h
  simp only [Bool.and_eq_true, decide_eq_true_eq] at h
  exact h.1.1.1
attribute [local irreducible] Calls
set_option maxRecDepth 100000 in
set_option maxHeartbeats 800000 in
theorem more_any (s t : Sc) (w : World) (hs : s.ty.Rd w) (ht : t.ty.Rd w) : Calls Try.prog 34 #[s.v, t.v] w fun e w' => e = .returned (.bool (moreP s.vars s.ty.er t.vars t.ty.er)) ∧ Gr w w' := by
  obtain ⟨n, x⟩ := s
  obtain ⟨m, y⟩ := t
  simp only at hs ht ⊢
  have VX := Lib.hid (fun V (g : Gr w V) => valid_any ⟨n, x⟩ V (TRd.gr hs g))
  have VY := Lib.hid (fun V (g : Gr w V) => valid_any ⟨m, y⟩ V (TRd.gr ht g))
  have HX := Lib.hid (fun V (g : Gr w V) => TRd.gr hs g)
  have HY := Lib.hid (fun V (g : Gr w V) => TRd.gr ht g)
  have BX := Lib.hid (BS.of n x.kind x.var (.slice x.A x.sub.length x.c) m y.kind y.var (.slice y.A y.sub.length y.c) w)
  have MP0 := Lib.hid (show moreP n x.er m y.er = (sval n x.er && sval m y.er && (mt n x.er (y.er.rep fun i => .mk 5 (wr64 (i - m)) []) []).isSome) from rfl)
  obtain ⟨b0, b1, b2, b3⟩ := cell4 BX.out.h
  obtain ⟨c0, c1, c2, c3⟩ := cell4 BX.out.h'
  have SY := Lib.hid (fun h : sval m y.er = true => ck_size (sval_ck h))
  clear hs ht
  obtain ⟨p, hp⟩ : ∃ p, sval n x.er = p := ⟨_, rfl⟩
  obtain ⟨q, hq⟩ : ∃ q, sval m y.er = q := ⟨_, rfl⟩
  simp only [hp, hq] at VX VY MP0 SY
  clear hp hq
  simp only [Sc.v] at *
  cases p with
  | false =>
    rw [MP0.out]
    go_enter Try.func34, Try.ntmps34
    go_wp2_with (first | (go_at_call 66; refine (VX.out _ BX.out.gr).mono ?_; rintro e w1 ⟨rfl, g1⟩; have G1 := Lib.hid (BX.out.grow g1); clear g1))
    go_ret
    exact ⟨rfl, G1.out.gr⟩
  | true =>
    cases q with
    | false =>
      rw [MP0.out]
      go_enter Try.func34, Try.ntmps34
      go_wp2_with (first | (go_at_call 66; refine (VX.out _ BX.out.gr).mono ?_; rintro e w1 ⟨rfl, g1⟩; have G1 := Lib.hid (BX.out.grow g1); clear g1; obtain ⟨c0, c1, c2, c3⟩ := cell4 G1.out.h') | (go_at_call 66; refine (VY.out _ G1.out.gr).mono ?_; rintro e w2 ⟨rfl, g2⟩; have G2 := Lib.hid (G1.out.grow g2); clear g2))
      go_ret
      exact ⟨rfl, G2.out.gr⟩
    | true =>
      have SZ := Lib.hid (SY.out rfl)
      have RP := Lib.hid (fun V (h : BS n x.kind x.var (.slice x.A x.sub.length x.c) m y.kind y.var (.slice y.A y.sub.length y.c) w V) => replace72 ⟨w.heap.size + 1, 0, none⟩ (fun i => .mk 5 (wr64 (i - m)) []) V (fun i U g => more1_any i m (w.heap.size + 1) V U (cell4 (h.grow g).h').1) y V (gr_refl _) (HY.out V h.gr) (by have := SZ.out; omega))
      unfold Ty.v at RP
      obtain ⟨u, hu⟩ : ∃ u, y.er.rep (fun i => .mk 5 (wr64 (i - m)) []) = u := ⟨_, rfl⟩
      rw [hu] at MP0
      simp only [hu] at RP
      clear hu
      obtain ⟨r, hr⟩ : ∃ r, mt n x.er u [] = r := ⟨_, rfl⟩
      rw [hr] at MP0
      rw [MP0.out]
      have MC := Lib.hid (fun (q : Ty) (V : World) (g : Gr w V) (hq : q.Rd V) (he : q.er = u) (b : Nat) (hb : MP V b []) => show Calls Try.prog 70 #[iv n, x.v, q.v, .map (some b)] V (MR b V r) from by
        have h := match_any x n q b [] V (HX.out V g) hq ⟨[], hb, by simp, rfl⟩
        rw [he, hr] at h
        exact h)
      unfold Ty.v at MC
      clear hr
      have hmm := @run_makeMap Try.prog
      cases r with
      | some fd =>
        go_enter Try.func34, Try.ntmps34
        go_wp2_with (first | (go_at_call 66; refine (VX.out _ BX.out.gr).mono ?_; rintro e w1 ⟨rfl, g1⟩; have G1 := Lib.hid (BX.out.grow g1); clear g1; obtain ⟨c0, c1, c2, c3⟩ := cell4 G1.out.h') | (go_at_call 66; refine (VY.out _ G1.out.gr).mono ?_; rintro e w2 ⟨rfl, g2⟩; have G2 := Lib.hid (G1.out.grow g2); clear g2; clear c0 c1 c2 c3; obtain ⟨c0, c1, c2, c3⟩ := cell4 G2.out.h') | (go_at_call 58; refine (RP.out _ G2.out).mono ?_; rintro e w3 ⟨⟨r, rfl, q, rfl, tr⟩, g3⟩; unfold Ty.v; have G3 := Lib.hid (G2.out.grow g3); have MM := Lib.hid (fun V g h => MC.out q V g (TRd.gr tr.1 h) tr.2.2); clear tr g3; obtain ⟨a0, a1, a2, a3⟩ := cell4 (gr_h (gr_al w3 (.cells #[iv q.kind, iv q.var, .slice q.A q.sub.length q.c] 24)) G3.out.h)) | (go_at_call 70; refine (MM.out _ (G3.out.gr.trans ((gr_al _ _).trans (gr_al _ _))) ((gr_al _ _).trans (gr_al _ _)) (w3.heap.size + 1) (al_at _ _ (by simp))).mono ?_; rintro e w7 ⟨g7, rfl, -⟩; have G7 := Lib.hid (gr_own (G3.out.gr.trans ((gr_al _ _).trans (gr_al _ _))) (Nat.le_succ_of_le G3.out.gr.size) g7); clear g7))
        go_ret
        exact ⟨rfl, G7.out⟩
      | none =>
        go_enter Try.func34, Try.ntmps34
        go_wp2_with (first | (go_at_call 66; refine (VX.out _ BX.out.gr).mono ?_; rintro e w1 ⟨rfl, g1⟩; have G1 := Lib.hid (BX.out.grow g1); clear g1; obtain ⟨c0, c1, c2, c3⟩ := cell4 G1.out.h') | (go_at_call 66; refine (VY.out _ G1.out.gr).mono ?_; rintro e w2 ⟨rfl, g2⟩; have G2 := Lib.hid (G1.out.grow g2); clear g2; clear c0 c1 c2 c3; obtain ⟨c0, c1, c2, c3⟩ := cell4 G2.out.h') | (go_at_call 58; refine (RP.out _ G2.out).mono ?_; rintro e w3 ⟨⟨r, rfl, q, rfl, tr⟩, g3⟩; unfold Ty.v; have G3 := Lib.hid (G2.out.grow g3); have MM := Lib.hid (fun V g h => MC.out q V g (TRd.gr tr.1 h) tr.2.2); clear tr g3; obtain ⟨a0, a1, a2, a3⟩ := cell4 (gr_h (gr_al w3 (.cells #[iv q.kind, iv q.var, .slice q.A q.sub.length q.c] 24)) G3.out.h)) | (go_at_call 70; refine (MM.out _ (G3.out.gr.trans ((gr_al _ _).trans (gr_al _ _))) ((gr_al _ _).trans (gr_al _ _)) (w3.heap.size + 1) (al_at _ _ (by simp))).mono ?_; rintro e w7 ⟨g7, rfl⟩; have G7 := Lib.hid (gr_own (G3.out.gr.trans ((gr_al _ _).trans (gr_al _ _))) (Nat.le_succ_of_le G3.out.gr.size) g7); clear g7))
        go_ret
        exact ⟨rfl, G7.out⟩
end Go.Proofs.Ytjlmhfdigoogfaa
namespace Go.Proofs.Ytjlmhfdigoogfaa
open Go.RowKit Go.Shelf

/-- A class of types. -/
structure Cl where
  up : Int
  term : Int
  least : Int
def Cl.cs (x : Cl) : List Value := [iv x.up, iv x.term, iv x.least]
theorem Cl.cs_len (x : Cl) : x.cs.length = 3 := rfl
theorem Cl.cell1 (x : Cl) : ∀ u ∈ x.cs, u.oneCell' = true := by
  intro u hu
  simp only [Cl.cs, List.mem_cons, List.not_mem_nil, or_false] at hu
  rcases hu with rfl | rfl | rfl <;> rfl
/-- A term, with the place of its list. -/
structure Tm where
  kind : Int
  A : Option Addr
  c : Nat
  sub : List Int
def Tm.cs (x : Tm) : List Value := [iv x.kind, .slice x.A x.sub.length x.c]
theorem Tm.cs_len (x : Tm) : x.cs.length = 2 := rfl
theorem Tm.cell1 (x : Tm) : ∀ u ∈ x.cs, u.oneCell' = true := by
  intro u hu
  simp only [Tm.cs, List.mem_cons, List.not_mem_nil, or_false] at hu
  rcases hu with rfl | rfl <;> rfl
/-- A unifier in memory. -/
structure UMem (base ub vb : Nat) (vc vt : Value) (cl : List Cl) (tm : List Tm) (vs : List (Int × Int)) (w : World) : Prop where
  h : w.heap[ub]? = some (.cells #[vc, vt, .map (some vb)] 70 (0, 0))
  c : OR 77 3 Cl.cs w base vc cl
  t : OR 111 2 Tm.cs w base vt tm
  s : ∀ x ∈ tm, OR 3 1 NC w base (.slice x.A x.sub.length x.c) x.sub
  v : MP w vb (vs.map fun p => (p.1, iv p.2))
theorem UMem.gr {base ub vb : Nat} {vc vt : Value} {cl : List Cl} {tm : List Tm} {vs : List (Int × Int)} {w V : World} (h : UMem base ub vb vc vt cl tm vs w) (g : Gr w V) : UMem base ub vb vc vt cl tm vs V :=
  ⟨gr_h g h.h, h.c.gr g, h.t.gr g, fun x hx => (h.s x hx).gr g, h.v.gr g⟩
/-- A class among the classes. -/
theorem OR.cl {w : World} {base : Nat} {A : Option Addr} {n c : Nat} {cl : List Cl} (h : OR 77 3 Cl.cs w base (.slice A n c) cl) {k : Nat} {x : Cl} (hx : cl[k]? = some x) : n = cl.length ∧ k < n ∧ ∃ a a1 : Addr, A = some a ∧ a.add (k * 3) = a1 ∧ a1.block < w.heap.size ∧ w.cell? a1 = some (iv x.up) ∧ w.cell? ⟨a1.block, a1.off + 1, none⟩ = some (iv x.term) ∧ w.cell? ⟨a1.block, a1.off + 2, none⟩ = some (iv x.least) := by
  obtain ⟨A', c', e, hr⟩ := h.form Cl.cs_len
  obtain ⟨rfl, rfl, rfl⟩ := Value.slice.inj e
  have hk : k < cl.length := (List.getElem?_eq_some_iff.1 hx).1
  obtain ⟨a, e, hb, hc⟩ := hr.at hk
  have hx' : cl[k] = x := (List.getElem?_eq_some_iff.1 hx).2
  rw [hx'] at hc
  refine ⟨rfl, hk, a, _, e, rfl, by rw [add_block]; exact hb, by simpa using hc 0 _ rfl, ?_, ?_⟩
  · rw [← fld_add _ 1 (by omega), add_add']; exact hc 1 _ rfl
  · rw [← fld_add _ 2 (by omega), add_add']; exact hc 2 _ rfl
/-- The class to which a class has been joined. -/
def findP : Nat → List Cl → Nat → Option Nat
  | 0, _, _ => none
  | n + 1, cl, c => match cl[c]? with
    | some x => if x.up = c then some c else if 0 ≤ x.up then findP n cl x.up.toNat else none
    | none => none
set_option maxRecDepth 100000 in
set_option maxHeartbeats 2000000 in
theorem find_any {base ub vb : Nat} {vc vt : Value} {cl : List Cl} {tm : List Tm} {vs : List (Int × Int)} {w : World} (hu : UMem base ub vb vc vt cl tm vs w) {n c r : Nat} (hf : findP n cl c = some r) :
    Calls Try.prog 47 #[.pointer (some ⟨ub, 0, none⟩), .int .i64 c] w fun e w' => e = .returned (.int .i64 r) ∧ w' = w := by
  obtain ⟨mu, hmu⟩ := least_fun (fun n (_ : Unit) c => findP n cl c = some r)
  obtain ⟨A, cc, rfl, -⟩ := hu.c.form Cl.cs_len
  have MU := Lib.hid hmu
  have HU := Lib.hid hu
  have HF := Lib.hid hf
  obtain ⟨⟨b0, b1, b2⟩, -⟩ := cell3 hu.h
  clear hmu hu hf
  go_enter Try.func47, Try.ntmps47
  go_wp2
  go_loopw [1] (fun i V => ∃ c' : Nat, i = .int .i64 c' ∧ Hid (V = w ∧ ∃ n, findP n cl c' = some r)) (fun i _ => mu () (intOf i).toNat)
  case atStart => exact ⟨c, rfl, Lib.hid ⟨rfl, n, HF.out⟩⟩
  case round =>
    obtain ⟨c', rfl, HH⟩ := hrel
    obtain rfl := HH.out.1
    obtain ⟨m1, m2⟩ := MU.out () c' HH.out.2
    have hx : ∃ x, cl[c']? = some x ∧ ((x.up = c' ∧ r = c') ∨ ∃ k : Nat, x.up = k ∧ k ≠ c' ∧ (∃ n, findP n cl k = some r) ∧ mu () k < mu () c') := by
      cases hq : mu () c' with
      | zero => rw [hq] at m1; simp [findP] at m1
      | succ j =>
        rw [hq] at m1
        simp only [findP] at m1
        cases hx : cl[c']? with
        | none => rw [hx] at m1; simp at m1
        | some x =>
          rw [hx] at m1
          simp only at m1
          refine ⟨x, rfl, ?_⟩
          by_cases h1 : x.up = c'
          · rw [if_pos h1] at m1
            exact .inl ⟨h1, (Option.some.inj m1).symm⟩
          · rw [if_neg h1] at m1
            by_cases h2 : 0 ≤ x.up
            · rw [if_pos h2] at m1
              refine .inr ⟨x.up.toNat, by omega, by omega, ⟨j, m1⟩, ?_⟩
              have := (MU.out () x.up.toNat ⟨j, m1⟩).2 j m1
              omega
            · rw [if_neg h2] at m1; cases m1
    clear m1 m2
    obtain ⟨x, hx, hc⟩ := hx
    obtain ⟨-, hk, a, a1, rfl, ha, hab, d0, d1, d2⟩ := HU.out.c.cl hx
    rcases hc with ⟨h1, rfl⟩ | ⟨k, h1, h2, h3, h4⟩
    · rw [h1] at d0
      go_wp2
      go_ret
      exact ⟨rfl, rfl⟩
    · rw [h1] at d0
      have H3 := Lib.hid h3
      have hn : ¬ (k : Int) = (c' : Int) := by omega
      have hb : ((k : Int) != (c' : Int)) = true := by simpa using hn
      clear h3
      go_wp2
      exact ⟨⟨k, rfl, Lib.hid ⟨trivial, H3.out⟩⟩, by simpa [intOf] using h4⟩
end Go.Proofs.Ytjlmhfdigoogfaa
namespace Go.Proofs.Ytjlmhfdigoogfaa
open Go.RowKit

theorem info77 : (Try.prog.info? 77).map (fun i => (i.zero, i.size, i.bytes)) = some (some (.agg #[iv 0, iv 0, iv 0]), 3, 24) := by kernel_rfl
theorem info111 : (Try.prog.info? 111).map (fun i => (i.zero, i.size, i.bytes)) = some (some (.agg #[iv 0, .slice none 0 0]), 2, 32) := by kernel_rfl
/-- An append as a step of a region that draws. -/
theorem step_app {α : Type} {e : TypeId} {n : Nat} {cs : α → List Value} (t : TypeId) {z : Value} {bytes : Nat} (hn : ∀ x, (cs x).length = n) (h1 : ∀ x, ∀ u ∈ cs x, u.oneCell' = true) (ht : Try.prog.underlying t = some (.slice e)) (hinfo : (Try.prog.info? e).map (fun i => (i.zero, i.size, i.bytes)) = some (some z, n, bytes)) (hz : z.cells.size = n) (hn0 : 0 < n) (hby : bytes ≤ 1000)
    {ops : Array Oper} {o : Oper} {a : Act} {w : World} {K : Act → World → Prop} {Q : Exit → Act → World → Prop} {E : Prop} (hgd : o.guard = none) (s x : Operand)
    (ho : o.op = .call { callee := .builtin .append, args := #[s, x], argTypes := #[t, t] }) (base : Nat) {v : Value} {L : List α} (hs : a.eval s = v) (hown : OR e n cs w base v L)
    {A : Option Addr} {M : List α} {m c : Nat} (hm : M.length = m) (hx : a.eval x = .slice A m c) (hr : RD n cs w A M) (hA : A ≠ none) (hsz : L.length + M.length ≤ 1000000) (hb : base ≤ w.heap.size)
    (h : ∀ v' w', OR e n cs w' base v' (L ++ M) → w.grownBy w' v.ownBlock → (v'.ownBlock = v.ownBlock ∨ v'.ownBlock = some w.heap.size) → K (a.put o.dst v') w') : if Region.wanted o (yielded ops a.tmps) = true then Oper.wp Try.prog o a w K Q else E := by
  have hw : Region.wanted o (yielded ops a.tmps) = true := by simp [Region.wanted, hgd]
  rw [if_pos hw]
  subst hm
  obtain ⟨v', w', hrun, h2, h3, h4⟩ := run_appR (t := t) (ty := o.type) hn h1 ht hinfo hz hn0 hby hown c hr hA hsz hb
  unfold Oper.wp
  simp [execOp, ho, resolve, invoke, builtin, hs, hx, hrun, Result.andThen]
  exact h v' w' h2 h3 h4
/-- The block of the unifier's terms. -/
def Ow (ub : Nat) (w : World) (k : Nat) : Prop := ∃ vc vt m, w.heap[ub]? = some (Obj.cells #[vc, vt, m] 70 (0, 0)) ∧ vt.ownBlock = some k
/-- What the unifier's functions leave: what lies below base, and the cells that are not the unifier's, stay. -/
structure Fu (base ub : Nat) (w V : World) : Prop where
  os : V.os = w.os
  tape : V.tape = w.tape
  output : V.output = w.output
  size : w.heap.size ≤ V.heap.size
  lo : ∀ k, k < base → k < w.heap.size → V.heap[k]? = w.heap[k]?
  ty : ∀ (k : Nat) c (e : TypeId) fr, w.heap[k]? = some (Obj.cells c e fr) → e ≠ 70 → e ≠ 77 → (e = 111 → ¬ Ow ub w k) → V.heap[k]? = some (Obj.cells c e fr)
  nw : ∀ k, k < w.heap.size → Ow ub V k → Ow ub w k
theorem Fu.of {base ub : Nat} {w V : World} (hub : ub < w.heap.size) (g : Gr w V) : Fu base ub w V := ⟨g.os, g.tape, g.output, g.size, fun k _ h => g.block k h (by simp), fun _ _ _ _ h _ _ _ => gr_h g h, fun k _ ⟨vc, vt, m, h1, h2⟩ => ⟨vc, vt, m, (g.block ub hub (by simp)).symm.trans h1, h2⟩⟩
theorem Fu.refl (base ub : Nat) (w : World) : Fu base ub w w := ⟨rfl, rfl, rfl, Nat.le_refl _, fun _ _ _ => rfl, fun _ _ _ _ h _ _ _ => h, fun _ _ h => h⟩
theorem Fu.trans {base ub : Nat} {w V U : World} (h : Fu base ub w V) (k : Fu base ub V U) : Fu base ub w U :=
  ⟨k.os.trans h.os, k.tape.trans h.tape, k.output.trans h.output, Nat.le_trans h.size k.size, fun j h1 h2 => (k.lo j h1 (Nat.lt_of_lt_of_le h2 h.size)).trans (h.lo j h1 h2), fun j c e fr h1 h2 h3 h4 => k.ty j c e fr (h.ty j c e fr h1 h2 h3 h4) h2 h3 (fun h5 h6 => h4 h5 (h.nw j (heap_lt h1) h6)), fun j h1 h2 => h.nw j h1 (k.nw j (Nat.lt_of_lt_of_le h1 h.size) h2)⟩
/-- A change of one block of the unifier. -/
theorem Fu.row {base ub b : Nat} {w V : World} (g : w.grownBy V (some b)) (hb : base ≤ b) (hub : ub < w.heap.size) (hne : b ≠ ub) (ht : ∀ c (e : TypeId) fr, w.heap[b]? = some (Obj.cells c e fr) → e = 77 ∨ e = 111 ∧ Ow ub w b) : Fu base ub w V :=
  ⟨g.os, g.tape, g.output, g.size, fun k h1 h2 => g.block k h2 (fun e => by cases e; omega), fun k c e fr h _ h2 h3 => (g.block k (heap_lt h) (fun e' => by
    cases e'
    rcases ht _ _ _ h with h' | ⟨h', h''⟩
    · exact h2 h'
    · exact h3 h' h'')).trans h, fun k _ ⟨vc, vt, m, h1, h2⟩ => ⟨vc, vt, m, (g.block ub hub (fun e => by cases e; exact hne rfl)).symm.trans h1, h2⟩⟩
/-- The block of an owned row. -/
theorem OR.typ {α : Type} {e : TypeId} {n : Nat} {cs : α → List Value} {w : World} {base : Nat} {v : Value} {L : List α} (h : OR e n cs w base v L) {k : Nat} (hk : v.ownBlock = some k) : base ≤ k ∧ ∃ c, w.heap[k]? = some (Obj.cells c e (0, 0)) := by
  rcases h.2 with ⟨rfl, _⟩ | ⟨g, cap, cur, rfl, hg, hh, _⟩
  · simp [Value.ownBlock] at hk
  · simp [Value.ownBlock] at hk
    subst hk
    exact ⟨hg, _, hh⟩
theorem Fu.ownc {base ub : Nat} {w V : World} {v : Value} {L : List Cl} {c : Array Value} {fr : Nat × Nat} (h : OR 77 3 Cl.cs w base v L) (hu : w.heap[ub]? = some (Obj.cells c 70 fr)) (g : w.grownBy V v.ownBlock) : Fu base ub w V := by
  cases hb : v.ownBlock with
  | none => rw [hb] at g; exact Fu.of (heap_lt hu) g
  | some k =>
    rw [hb] at g
    obtain ⟨h1, c, h2⟩ := h.typ hb
    refine Fu.row g h1 (heap_lt hu) (fun e => ?_) fun c' e' fr' h3 => ?_
    · subst e; rw [h2] at hu; cases hu
    · rw [h2] at h3; cases h3; exact .inl rfl
/-- The rows of a unifier are apart, by their types. -/
theorem OR.apart {α β : Type} {e e' : TypeId} {n n' : Nat} {cs : α → List Value} {cs' : β → List Value} {w V : World} {base : Nat} {v v' : Value} {L : List α} {L' : List β} (h : OR e n cs w base v L) (h' : OR e' n' cs' w base v' L') (hne : e ≠ e') (g : w.grownBy V v'.ownBlock) : OR e n cs V base v L := by
  refine h.kept g ?_
  cases hb : v.ownBlock with
  | none => exact .inl rfl
  | some k =>
    right
    intro e1
    obtain ⟨-, c, h2⟩ := h.typ hb
    obtain ⟨-, c', h3⟩ := h'.typ e1.symm
    rw [h2] at h3
    cases h3
    exact hne rfl
/-- The unifier, plain. -/
structure US where
  cl : List Cl
  tm : List (Int × List Nat)
  vs : List (Int × Nat)
def vget (k : Int) (l : List (Int × Nat)) : Option Nat := (l.find? (fun p => decide (p.1 = k))).map (·.2)
mutual
def addU : PT → US → US × Nat
  | .mk k v s, S =>
    if k = 5 then
      match vget v S.vs with
      | some c => (S, c)
      | none => ({ S with cl := S.cl ++ [⟨S.cl.length, -1, v⟩], vs := S.vs ++ [(v, S.cl.length)] }, S.cl.length)
    else
      let r := addUs s S
      ({ r.1 with tm := r.1.tm ++ [(k, r.2)], cl := r.1.cl ++ [⟨r.1.cl.length, r.1.tm.length, -1⟩] }, r.1.cl.length)
def addUs : List PT → US → US × List Nat
  | [], S => (S, [])
  | x :: l, S =>
    let r := addU x S
    let q := addUs l r.1
    (q.1, r.2 :: q.2)
end
/-- A unifier in memory, and what it is. -/
def UT (base ub vb : Nat) (S : US) (tm : List Tm) (w : World) : Prop := ∃ vc vt, UMem base ub vb vc vt S.cl tm (S.vs.map fun p => (p.1, (p.2 : Int))) w ∧ base ≤ ub ∧ base ≤ vb ∧ tm.map (fun x => (x.kind, x.sub)) = S.tm.map fun p => (p.1, p.2.map Int.ofNat)
/-- The row of a term. -/
def Tm.row (x : Tm) : Value := .slice x.A x.sub.length x.c
/-- The terms are those that were, or their rows are new. -/
def NewT (n : Nat) (tm tm' : List Tm) : Prop := ∀ x ∈ tm', x ∈ tm ∨ ∀ k, x.row.ownBlock = some k → n ≤ k
theorem NewT.refl (n : Nat) (tm : List Tm) : NewT n tm tm := fun _ h => .inl h
theorem NewT.trans {n m : Nat} {t t' t'' : List Tm} (h : NewT n t t') (h' : NewT m t' t'') (hn : n ≤ m) : NewT n t t'' := fun x hx => by
  rcases h' x hx with h1 | h1
  · exact h x h1
  · exact .inr fun k hk => Nat.le_trans hn (h1 k hk)
/-- What add leaves. -/
def AddP (base ub vb : Nat) (tm : List Tm) (w : World) (R : US × Nat) (e : Ending) (w' : World) : Prop := e = .returned (.int .i64 R.2) ∧ ∃ tm', UT base ub vb R.1 tm' w' ∧ Fu base ub w w' ∧ NewT w.heap.size tm tm'
end Go.Proofs.Ytjlmhfdigoogfaa
namespace Go.Proofs.Ytjlmhfdigoogfaa
open Go.RowKit

theorem fnd_vget (k : Int) : ∀ (l : List (Int × Nat)) (i : Nat), (vget k l = none ∧ fnd k ((l.map fun p => (p.1, (p.2 : Int))).map fun p => (p.1, iv p.2)) i = none) ∨ ∃ c j, vget k l = some c ∧ fnd k ((l.map fun p => (p.1, (p.2 : Int))).map fun p => (p.1, iv p.2)) i = some (j, iv c)
  | [], _ => .inl ⟨rfl, rfl⟩
  | p :: l, i => by
    by_cases h : k = p.1
    · exact .inr ⟨p.2, i, by simp [vget, h], by simp [fnd, h]⟩
    · rcases fnd_vget k l (i + 1) with ⟨h1, h2⟩ | ⟨c, j, h1, h2⟩
      · exact .inl ⟨by simpa [vget, Ne.symm h] using h1, by simpa [fnd, h] using h2⟩
      · exact .inr ⟨c, j, by simpa [vget, Ne.symm h] using h1, by simpa [fnd, h] using h2⟩
theorem vlook {w : World} {b : Nat} {l : List (Int × Nat)} (k : Int) (h : MP w b ((l.map fun p => (p.1, (p.2 : Int))).map fun p => (p.1, iv p.2))) :
    (vget k l = none ∧ (Instr.lookup 66 (.map (some b)) (iv k) true).run Try.prog w = .ok (.tuple #[iv 0, .bool false]) w) ∨ ∃ c : Nat, vget k l = some c ∧ (Instr.lookup 66 (.map (some b)) (iv k) true).run Try.prog w = .ok (.tuple #[iv c, .bool true]) w := by
  have hl := (lookup_m h Try.underlying66 (z := iv 0) (by kernel_rfl) k).2
  rcases fnd_vget k l 0 with ⟨h1, h2⟩ | ⟨c, j, h1, h2⟩
  · left
    refine ⟨h1, ?_⟩
    rw [hl]; unfold mget; rw [h2]; rfl
  · right
    refine ⟨c, h1, ?_⟩
    rw [hl]; unfold mget; rw [h2]; rfl
set_option maxRecDepth 100000 in
set_option maxHeartbeats 4000000 in
theorem add_known {base ub vb : Nat} {A0 : Option Addr} {n0 c0 : Nat} {S : US} {tm : List Tm} {w : World} (hu : UT base ub vb S tm w) (v : Int) {c : Nat} (hc : vget v S.vs = some c) :
    Calls Try.prog 44 #[.pointer (some ⟨ub, 0, none⟩), .agg #[iv 5, iv v, .slice A0 n0 c0]] w fun e w' => e = .returned (.int .i64 c) ∧ Gr w w' := by
  obtain ⟨vc, vt, hm, -, -, -⟩ := hu
  have BX := Lib.hid (B1.of 5 v (.slice A0 n0 c0) w)
  obtain ⟨b0, b1, b2⟩ := BX.out.c
  have HM := Lib.hid (hm.gr BX.out.gr)
  have hl : ∀ V, Gr (w.alloc (.cells #[iv 5, iv v, .slice A0 n0 c0] 24)) V → (Instr.lookup 66 (.map (some vb)) (iv v) true).run Try.prog V = .ok (.tuple #[iv c, .bool true]) V := fun V g => by
    rcases vlook v (HM.out.gr g).v with ⟨h1, -⟩ | ⟨c', h1, h2⟩
    · rw [hc] at h1; cases h1
    · rw [hc] at h1; cases h1; exact h2
  have HL := Lib.hid hl
  clear hl
  obtain ⟨⟨d0, d1, d2⟩, -⟩ := cell3 HM.out.h
  clear hm hc
  go_enter Try.func44, Try.ntmps44
  go_upto_region 2 with (fail)
  generalize hW : World.alloc w _ = W4 at *
  clear hW
  have hl0 := HL.out _ (gr_refl W4)
  have hl1 := HL.out _ (gr_drew W4)
  have hl2 := fun n => HL.out _ (gr_drewN W4 n)
  go_quiet (fail)
  go_wp2
  go_ret
  exact ⟨rfl, BX.out.gr.trans (gr_drewN _ _)⟩
end Go.Proofs.Ytjlmhfdigoogfaa
namespace Go.Proofs.Ytjlmhfdigoogfaa
open Go.RowKit

theorem OR.ne {α : Type} {e : TypeId} {n : Nat} {cs : α → List Value} {w : World} {base b : Nat} {v : Value} {L : List α} (h : OR e n cs w base v L) {o : Obj} (hb : w.heap[b]? = some o) (ho : ∀ c fr, o ≠ Obj.cells c e fr) : v.ownBlock ≠ some b := by
  intro hk
  obtain ⟨-, c, h2⟩ := h.typ hk
  rw [hb] at h2
  exact ho _ _ (Option.some.inj h2)
theorem OR.but {α : Type} {e : TypeId} {n : Nat} {cs : α → List Value} {w V : World} {base b : Nat} {v : Value} {L : List α} (h : OR e n cs w base v L) {o : Obj} (hb : w.heap[b]? = some o) (ho : ∀ c fr, o ≠ Obj.cells c e fr) (g : w.grownBy V (some b)) : OR e n cs V base v L := h.kept g (.inr (h.ne hb ho))
section
variable {base ub vb : Nat} {vc vt : Value} {cl : List Cl} {tm : List Tm} {vs : List (Int × Int)} {w : World}
theorem UMem.ne (h : UMem base ub vb vc vt cl tm vs w) : ub ≠ vb := by
  rintro rfl
  have h1 := h.v
  unfold MP at h1
  rw [h.h] at h1
  cases h1
/-- A new variable in the map. -/
theorem UMem.putv (h : UMem base ub vb vc vt cl tm vs w) (k n : Int) (hn : fnd k (vs.map fun p => (p.1, iv p.2)) 0 = none) : UMem base ub vb vc vt cl tm (vs ++ [(k, n)]) (World.setM w vb (mput (vs.map fun p => (p.1, iv p.2)) k (iv n))) := by
  have hv := h.v
  have g := grown_setM w vb (mput (vs.map fun p => (p.1, iv p.2)) k (iv n))
  unfold MP at hv
  refine ⟨(setM_other h.ne).trans h.h, h.c.but hv (by simp) g, h.t.but hv (by simp) g, fun x hx => (h.s x hx).but hv (by simp) g, ?_⟩
  have hm : mput (vs.map fun p => (p.1, iv p.2)) k (iv n) = (vs ++ [(k, n)]).map fun p => (p.1, iv p.2) := by
    unfold mput
    rw [hn]
    simp
  rw [hm]
  exact MP.set h.v
theorem Fu.map (h : UMem base ub vb vc vt cl tm vs w) (hb : base ≤ vb) {m : ML} : Fu base ub w (World.setM w vb m) :=
  Fu.row (grown_setM _ _ _) hb (heap_lt h.h) (fun e => h.ne e.symm) fun c e fr h1 => by have hv := h.v; unfold MP at hv; rw [hv] at h1; cases h1
/-- A new class. -/
theorem UMem.addc (h : UMem base ub vb vc vt cl tm vs w) {W V : World} (g0 : Gr w W) (g : W.grownBy V vc.ownBlock) {x : Cl} {vc' : Value} (o : OR 77 3 Cl.cs V base vc' (cl ++ [x])) : UMem base ub vb vc' vt (cl ++ [x]) tm vs (V.setCell ⟨ub, 0, none⟩ vc') := by
  have h' := h.gr g0
  have hub : V.heap[ub]? = some (.cells #[vc, vt, .map (some vb)] 70 (0, 0)) := (g.block _ (heap_lt h'.h) (fun e => (h'.c.ne h'.h (by simp)) e.symm)).trans h'.h
  have gs := grown_set (w := V) ub 0 vc'
  have hv := h'.v
  unfold MP at hv
  refine ⟨by simp [World.setCell, Array.getElem?_modify, hub], o.but hub (by simp) gs, (h'.t.apart h'.c (by decide) g).but hub (by simp) gs, fun x hx => ((h'.s x hx).apart h'.c (by decide) g).but hub (by simp) gs, ?_⟩
  exact (Below.heap_setCell _ _ _ _ (by have := h.ne; show vb ≠ ub; omega)).trans ((g.block _ (heap_lt hv) (fun e => (h'.c.ne hv (by simp)) e.symm)).trans hv)
/-- A new term. -/
theorem UMem.addt (h : UMem base ub vb vc vt cl tm vs w) {W V : World} (g0 : Gr w W) (g : W.grownBy V vt.ownBlock) {x : Tm} {vt' : Value} (o : OR 111 2 Tm.cs V base vt' (tm ++ [x])) (hx : OR 3 1 NC w base (.slice x.A x.sub.length x.c) x.sub) : UMem base ub vb vc vt' cl (tm ++ [x]) vs (V.setCell ⟨ub, 1, none⟩ vt') := by
  have h' := h.gr g0
  have hub : V.heap[ub]? = some (.cells #[vc, vt, .map (some vb)] 70 (0, 0)) := (g.block _ (heap_lt h'.h) (fun e => (h'.t.ne h'.h (by simp)) e.symm)).trans h'.h
  have gs := grown_set (w := V) ub 1 vt'
  have hv := h'.v
  unfold MP at hv
  refine ⟨by simp [World.setCell, Array.getElem?_modify, hub], (h'.c.apart h'.t (by decide) g).but hub (by simp) gs, o.but hub (by simp) gs, fun y hy => ?_, ?_⟩
  · rcases List.mem_append.1 hy with hy | hy
    · exact ((h'.s y hy).apart h'.t (by decide) g).but hub (by simp) gs
    · simp only [List.mem_singleton] at hy
      subst hy
      exact ((hx.gr g0).apart h'.t (by decide) g).but hub (by simp) gs
  · exact (Below.heap_setCell _ _ _ _ (by have := h.ne; show vb ≠ ub; omega)).trans ((g.block _ (heap_lt hv) (fun e => (h'.t.ne hv (by simp)) e.symm)).trans hv)
theorem Fu.set0 (hb : base ≤ ub) {a b c : Value} (h : w.heap[ub]? = some (.cells #[a, b, c] 70 (0, 0))) (u : Value) : Fu base ub w (w.setCell ⟨ub, 0, none⟩ u) := by
  have g := grown_set (w := w) ub 0 u
  have h' : (w.setCell ⟨ub, 0, none⟩ u).heap[ub]? = some (.cells #[u, b, c] 70 (0, 0)) := by simp [World.setCell, Array.getElem?_modify, h]
  refine ⟨g.os, g.tape, g.output, g.size, fun k h1 h2 => g.block k h2 (fun e => by cases e; omega), fun k d e fr h1 h2 _ _ => (g.block k (heap_lt h1) (fun e' => ?_)).trans h1, fun k _ ⟨vc, vt, m, h1, h2⟩ => ?_⟩
  · cases e'; rw [h] at h1; cases h1; exact h2 rfl
  · rw [h'] at h1
    cases h1
    exact ⟨_, _, _, h, h2⟩
/-- A new term: append and store. -/
theorem Fu.addt (hb : base ≤ ub) (h : UMem base ub vb vc vt cl tm vs w) {W V : World} (g0 : Gr w W) (g : W.grownBy V vt.ownBlock) {vt' : Value} (b8 : vt'.ownBlock = vt.ownBlock ∨ vt'.ownBlock = some W.heap.size) : Fu base ub w (V.setCell ⟨ub, 1, none⟩ vt') := by
  have h' := h.gr g0
  have hub : V.heap[ub]? = some (.cells #[vc, vt, .map (some vb)] 70 (0, 0)) := (g.block _ (heap_lt h'.h) (fun e => (h'.t.ne h'.h (by simp)) e.symm)).trans h'.h
  have gs := grown_set (w := V) ub 1 vt'
  have hn : (V.setCell ⟨ub, 1, none⟩ vt').heap[ub]? = some (.cells #[vc, vt', .map (some vb)] 70 (0, 0)) := by simp [World.setCell, Array.getElem?_modify, hub]
  have st : ∀ k, k < w.heap.size → k ≠ ub → vt.ownBlock ≠ some k → (V.setCell ⟨ub, 1, none⟩ vt').heap[k]? = w.heap[k]? := fun k h1 h2 h3 =>
    (Below.heap_setCell _ _ _ _ h2).trans ((g.block k (Nat.lt_of_lt_of_le h1 g0.size) (fun e => h3 e.symm)).trans (g0.block k h1 (by simp)))
  refine ⟨gs.os.trans (g.os.trans g0.os), gs.tape.trans (g.tape.trans g0.tape), gs.output.trans (g.output.trans g0.output), Nat.le_trans g0.size (Nat.le_trans g.size gs.size), fun k h1 h2 => st k h2 (by omega) (fun e => by have := (h.t.typ e).1; omega), fun k d e fr h1 h2 _ h4 => (st k (heap_lt h1) (fun e' => ?_) (fun e' => ?_)).trans h1, fun k h1 ⟨a, b, m, h2, h3⟩ => ?_⟩
  · subst e'; rw [h.h] at h1; cases h1; exact h2 rfl
  · obtain ⟨-, c, h5⟩ := h.t.typ e'
    rw [h5] at h1
    cases h1
    exact h4 rfl ⟨_, _, _, h.h, e'⟩
  · rw [hn] at h2
    cases h2
    rcases b8 with h5 | h5
    · exact ⟨_, _, _, h.h, h5.symm.trans h3⟩
    · rw [h5] at h3
      have := g0.size
      cases h3
      omega
end
end Go.Proofs.Ytjlmhfdigoogfaa
namespace Go.Proofs.Ytjlmhfdigoogfaa
open Go.RowKit

set_option maxRecDepth 100000 in
set_option maxHeartbeats 4000000 in
theorem add_new {base ub vb : Nat} {A0 : Option Addr} {n0 c0 : Nat} {S : US} {tm : List Tm} {w : World} (hu : UT base ub vb S tm w) (hbw : base ≤ w.heap.size) (v : Int) (hc : vget v S.vs = none) (hl : S.cl.length ≤ 10000) :
    Calls Try.prog 44 #[.pointer (some ⟨ub, 0, none⟩), .agg #[iv 5, iv v, .slice A0 n0 c0]] w fun e w' => e = .returned (.int .i64 S.cl.length) ∧
      UT base ub vb { S with cl := S.cl ++ [⟨S.cl.length, -1, v⟩], vs := S.vs ++ [(v, S.cl.length)] } tm w' ∧ Fu base ub w w' := by
  obtain ⟨vc, vt, hm, hb1, hb2, hE⟩ := hu
  obtain ⟨A, cc, rfl, -⟩ := hm.c.form Cl.cs_len
  obtain ⟨N, hN⟩ : ∃ N, S.cl.length = N := ⟨_, rfl⟩
  rw [hN] at hm hl ⊢
  have BX := Lib.hid (B1.of 5 v (.slice A0 n0 c0) w)
  obtain ⟨b0, b1, b2⟩ := BX.out.c
  have HM := Lib.hid (hm.gr BX.out.gr)
  have HN := Lib.hid hN
  have HUB := Lib.hid (heap_lt hm.h)
  have HE := Lib.hid hE
  have HB1 := Lib.hid hb1
  have HB2 := Lib.hid hb2
  have HBW := Lib.hid hbw
  have HF := Lib.hid (show fnd v ((S.vs.map fun p => (p.1, (p.2 : Int))).map fun p => (p.1, iv p.2)) 0 = none from by
    rcases fnd_vget v S.vs 0 with ⟨-, h2⟩ | ⟨c, j, h1, -⟩
    · exact h2
    · rw [hc] at h1; cases h1)
  have HL := Lib.hid (show ∀ V, Gr (w.alloc (.cells #[iv 5, iv v, .slice A0 n0 c0] 24)) V → (Instr.lookup 66 (.map (some vb)) (iv v) true).run Try.prog V = .ok (.tuple #[iv 0, .bool false]) V from fun V g => by
    rcases vlook v (HM.out.gr g).v with ⟨-, h2⟩ | ⟨c', h1, h2⟩
    · exact h2
    · rw [hc] at h1; cases h1)
  obtain ⟨⟨d0, d1, d2⟩, -⟩ := cell3 HM.out.h
  clear hm hc hN hE hb1 hb2 hbw
  go_enter Try.func44, Try.ntmps44
  go_upto_region 2 with (fail)
  generalize hW : World.alloc w _ = W4 at *
  clear hW
  have hl0 := HL.out _ (gr_refl W4)
  have hl1 := HL.out _ (gr_drew W4)
  have hl2 := fun n => HL.out _ (gr_drewN W4 n)
  go_quiet (fail)
  go_upto_region 5 with (fail)
  clear hl0 hl1 hl2 HL
  have B5 := Lib.hid (BX.out.grow (gr_drewN W4 nq))
  have M5 := Lib.hid (HM.out.gr (gr_drewN W4 nq))
  clear b0 b1 b2 d0 d1 d2 BX HM
  generalize World.drewN _ nq = W5 at *
  obtain ⟨b0, b1, b2⟩ := B5.out.c
  obtain ⟨⟨d0, d1, d2⟩, -⟩ := cell3 M5.out.h
  go_still_tail 11, (by kernel_rfl)
  change wpList _ _ _ _ _ (World.drew _)
  have B6 := Lib.hid (B5.out.grow (gr_drew W5))
  have M6 := Lib.hid (M5.out.gr (gr_drew W5))
  clear B5 M5 b0 b1 b2 d0 d1 d2
  generalize World.drew _ = W6 at *
  have hup := update_m M6.out.v Try.underlying66 v (iv N)
  have M7 := Lib.hid (M6.out.putv v N HF.out)
  have F7 := Lib.hid ((Fu.of (base := base) HUB.out B6.out.gr).trans (Fu.map M6.out HB2.out (m := mput (List.map (fun p => (p.1, iv p.2)) (List.map (fun p => (p.1, (p.2 : Int))) S.vs)) v (iv N))))
  have H7 := Lib.hid ((Fu.map M6.out HB2.out (m := mput (List.map (fun p => (p.1, iv p.2)) (List.map (fun p => (p.1, (p.2 : Int))) S.vs)) v (iv N))).ty _ _ _ _ B6.out.h (by decide) (by decide) (fun h => by cases h))
  obtain ⟨ml, hml⟩ : ∃ ml, mput (List.map (fun p => (p.1, iv p.2)) (List.map (fun p => (p.1, (p.2 : Int))) S.vs)) v (iv N) = ml := ⟨_, rfl⟩
  rw [hml] at hup M7 F7 H7
  clear hml
  go_upto_region 6 with (fail)
  clear hup B6 M6
  generalize World.setM W6 vb ml = W7 at *
  obtain ⟨⟨b0, b1, b2⟩, -⟩ := cell3 H7.out
  obtain ⟨⟨d0, d1, d2⟩, -⟩ := cell3 M7.out.h
  have G80 := Lib.hid (gr_al W7 (.cells #[iv N, iv (-1), iv v] 77))
  have G8 := Lib.hid (G80.out.trans (gr_drew (W7.alloc (.cells #[iv N, iv (-1), iv v] 77))))
  obtain ⟨⟨e0, e1, e2⟩, -⟩ := cell3 (gr_h G80.out H7.out)
  obtain ⟨⟨f0, f1, f2⟩, -⟩ := cell3 (gr_h G80.out M7.out.h)
  have HS := Lib.hid (show S.cl.length + [(⟨N, -1, v⟩ : Cl)].length ≤ 1000000 by have := HN.out; simp; omega)
  have HS7 := Lib.hid (show base ≤ (W7.alloc (.cells #[iv N, iv (-1), iv v] 77)).drew.heap.size from Nat.le_trans HBW.out (Nat.le_trans F7.out.size G8.out.size))
  go_region_law (first | (refine step_app (α := Cl) (cs := Cl.cs) 67 Cl.cs_len Cl.cell1 Try.underlying67 info77 rfl (by decide) (by decide) rfl (.tmp 40) (.tmp 49) rfl base (v := .slice A N cc) (L := S.cl) (by simp [Act.eval]) (M7.out.c.gr G8.out) (A := some ⟨W7.heap.size, 0, none⟩) (M := [⟨N, -1, v⟩]) (m := 1) (c := 1) rfl (by simp [Act.eval]) (rd_cells (t := 77) Cl.cs_len (al_at _ _ rfl)) (by simp) HS.out HS7.out ?_; intro v8 w8 o8 g8 b8; obtain ⟨A8, c8, rfl, -⟩ := o8.form Cl.cs_len; have l8 : (S.cl ++ [(⟨N, -1, v⟩ : Cl)]).length = N + 1 := (by simp [HN.out]); rw [l8] at o8 ⊢; have O8 := Lib.hid o8; have G9 := Lib.hid g8; have U8 := Lib.hid (show w8.heap[ub]? = some (.cells #[.slice A N cc, vt, .map (some vb)] 70 (0, 0)) from (g8.block _ (heap_lt (M7.out.gr G8.out).h) (fun e => ((M7.out.gr G8.out).c.ne (M7.out.gr G8.out).h (by simp)) e.symm)).trans (M7.out.gr G8.out).h); obtain ⟨⟨m0, m1, m2⟩, fz⟩ := cell3 U8.out; have z0 := fz 0; clear fz o8 g8 b8 l8))
  all_goals have M9 := Lib.hid (M7.out.addc G8.out G9.out O8.out)
  all_goals have F9 := Lib.hid (((F7.out.trans (Fu.of (heap_lt M7.out.h) G8.out)).trans (Fu.ownc (M7.out.c.gr G8.out) (M7.out.gr G8.out).h G9.out)).trans (Fu.set0 HB1.out U8.out (.slice A8 (N + 1) c8)))
  all_goals obtain ⟨⟨p0, -, -⟩, -⟩ := cell3 M9.out.h
  all_goals clear b0 b1 b2 d0 d1 d2 e0 e1 e2 f0 f1 f2 m0 m1 m2 z0
  all_goals go_wp2
  all_goals go_ret
  all_goals refine ⟨by simp, ⟨.slice A8 (N + 1) c8, vt, ?_, HB1.out, HB2.out, HE.out⟩, F9.out⟩
  all_goals rw [List.map_append]
  all_goals exact M9.out
end Go.Proofs.Ytjlmhfdigoogfaa
namespace Go.Proofs.Ytjlmhfdigoogfaa

theorem addU_eq (t : PT) (S : US) : addU t S = if t.kind = 5 then
      match vget t.var S.vs with
      | some c => (S, c)
      | none => ({ S with cl := S.cl ++ [⟨S.cl.length, -1, t.var⟩], vs := S.vs ++ [(t.var, S.cl.length)] }, S.cl.length)
    else ({ (addUs t.sub S).1 with tm := (addUs t.sub S).1.tm ++ [(t.kind, (addUs t.sub S).2)], cl := (addUs t.sub S).1.cl ++ [⟨(addUs t.sub S).1.cl.length, (addUs t.sub S).1.tm.length, -1⟩] }, (addUs t.sub S).1.cl.length) := by
  cases t with
  | mk k v s => rw [addU]; rfl
theorem addUs_snoc (x : PT) : ∀ (l : List PT) (S : US), addUs (l ++ [x]) S = ((addU x (addUs l S).1).1, (addUs l S).2 ++ [(addU x (addUs l S).1).2])
  | [], S => by simp [addUs]
  | y :: l, S => by
    have ih := addUs_snoc x l (addU y S).1
    simp only [List.cons_append, addUs, ih]
mutual
theorem addU_len : ∀ (t : PT) (S : US), (addU t S).1.cl.length ≤ S.cl.length + t.size ∧ (addU t S).1.tm.length ≤ S.tm.length + t.size
  | .mk k v s, S => by
    have h := addUs_len s S
    rw [size_eq, show (PT.mk k v s).sub = s from rfl]
    by_cases hk : k = 5
    · rw [addU_eq, if_pos (show (PT.mk k v s).kind = 5 from hk)]
      cases vget (PT.mk k v s).var S.vs with
      | none => exact ⟨by simp, by simp⟩
      | some c => exact ⟨by simp, by simp⟩
    · rw [addU_eq, if_neg (show ¬ (PT.mk k v s).kind = 5 from hk), show (PT.mk k v s).sub = s from rfl]
      exact ⟨by simp; omega, by simp; omega⟩
theorem addUs_len : ∀ (l : List PT) (S : US), (addUs l S).1.cl.length ≤ S.cl.length + psz l ∧ (addUs l S).1.tm.length ≤ S.tm.length + psz l
  | [], S => by simp [addUs]
  | x :: l, S => by
    have h1 := addU_len x S
    have h2 := addUs_len l (addU x S).1
    simp only [addUs, psz_cons]
    omega
end
theorem addUs_ids : ∀ (l : List PT) (S : US), (addUs l S).2.length = l.length
  | [], S => by simp [addUs]
  | x :: l, S => by simp [addUs, addUs_ids l]
end Go.Proofs.Ytjlmhfdigoogfaa
namespace Go.Proofs.Ytjlmhfdigoogfaa

theorem OR.fu {base ub b : Nat} {w V : World} {v : Value} {L : List Int} (h : OR 3 1 NC w b v L) (f : Fu base ub w V) : OR 3 1 NC V b v L := by
  refine h.keepAt fun k hk => ?_
  obtain ⟨-, c, h2⟩ := h.typ hk
  rw [h2]
  exact f.ty _ _ _ _ h2 (by decide) (by decide) (fun h => by cases h)
theorem Ow.lt {base ub vb k : Nat} {vc vt : Value} {cl : List Cl} {tm : List Tm} {vs : List (Int × Int)} {w : World} (h : UMem base ub vb vc vt cl tm vs w) (ho : Ow ub w k) : k < w.heap.size := by
  obtain ⟨a, b, m, h1, h2⟩ := ho
  rw [h.h] at h1
  cases h1
  obtain ⟨-, c, h3⟩ := h.t.typ h2
  exact heap_lt h3
/-- The frame, but for one block. -/
structure Fx (base ub k7 : Nat) (w V : World) : Prop where
  os : V.os = w.os
  tape : V.tape = w.tape
  output : V.output = w.output
  size : w.heap.size ≤ V.heap.size
  lo : ∀ k, k < base → k < w.heap.size → V.heap[k]? = w.heap[k]?
  ty : ∀ (k : Nat) c (e : TypeId) fr, k ≠ k7 → w.heap[k]? = some (Obj.cells c e fr) → e ≠ 70 → e ≠ 77 → (e = 111 → ¬ Ow ub w k) → V.heap[k]? = some (Obj.cells c e fr)
  nw : ∀ k, k < w.heap.size → Ow ub V k → Ow ub w k
theorem Fx.of {base ub k7 : Nat} {w V : World} (h : Fu base ub w V) : Fx base ub k7 w V := ⟨h.os, h.tape, h.output, h.size, h.lo, fun k c e fr _ => h.ty k c e fr, h.nw⟩
theorem Fx.trans {base ub k7 : Nat} {w V U : World} (h : Fx base ub k7 w V) (k : Fx base ub k7 V U) : Fx base ub k7 w U :=
  ⟨k.os.trans h.os, k.tape.trans h.tape, k.output.trans h.output, Nat.le_trans h.size k.size, fun j h1 h2 => (k.lo j h1 (Nat.lt_of_lt_of_le h2 h.size)).trans (h.lo j h1 h2), fun j c e fr h0 h1 h2 h3 h4 => k.ty j c e fr h0 (h.ty j c e fr h0 h1 h2 h3 h4) h2 h3 (fun h5 h6 => h4 h5 (h.nw j (heap_lt h1) h6)), fun j h1 h2 => h.nw j h1 (k.nw j (Nat.lt_of_lt_of_le h1 h.size) h2)⟩
/-- A block that the world did not have. -/
theorem Fx.fu {base ub k7 : Nat} {w W3 V : World} (g : Fu base ub w W3) (h : Fx base ub k7 W3 V) (hk : w.heap.size ≤ k7) : Fu base ub w V :=
  ⟨h.os.trans g.os, h.tape.trans g.tape, h.output.trans g.output, Nat.le_trans g.size h.size, fun j h1 h2 => (h.lo j h1 (Nat.lt_of_lt_of_le h2 g.size)).trans (g.lo j h1 h2), fun j c e fr h1 h2 h3 h4 => h.ty j c e fr (by have := heap_lt h1; omega) (g.ty j c e fr h1 h2 h3 h4) h2 h3 (fun h5 h6 => h4 h5 (g.nw j (heap_lt h1) h6)), fun j h1 h2 => g.nw j h1 (h.nw j (Nat.lt_of_lt_of_le h1 g.size) h2)⟩
/-- Between the rounds: W3 is the world behind the boxes, k3, k7 the boxes of the type and of the term. -/
structure AI (base ub vb : Nat) (S : US) (tm0 : List Tm) (x : Ty) (K : Int) (k3 k7 : Nat) (W3 : World) (k : Nat) (v : Value) (V : World) : Prop where
  t3 : V.heap[k3]? = some (.cells #[iv K, iv x.var, .slice x.A x.sub.length x.c] 24 (0, 0))
  t7 : V.heap[k7]? = some (.cells #[iv K, v] 111 (0, 0))
  fx : Fx base ub k7 W3 V
  um : ∃ tm, UT base ub vb (addUs ((ers x.sub).take k) S).1 tm V ∧ NewT W3.heap.size tm0 tm ∧ ∀ y ∈ tm, ∀ j, y.row.ownBlock = some j → v.ownBlock ≠ some j
  row : OR 3 1 NC V (k7 + 1) v ((addUs ((ers x.sub).take k) S).2.map Int.ofNat)
  no : ¬ Ow ub V k7
end Go.Proofs.Ytjlmhfdigoogfaa
namespace Go.Proofs.Ytjlmhfdigoogfaa
open Go.RowKit

theorem UT.gr {base ub vb : Nat} {S : US} {tm : List Tm} {w V : World} (h : UT base ub vb S tm w) (g : Gr w V) : UT base ub vb S tm V := by
  obtain ⟨vc, vt, h1, h2⟩ := h
  exact ⟨vc, vt, h1.gr g, h2⟩
theorem UT.hub {base ub vb : Nat} {S : US} {tm : List Tm} {w : World} (h : UT base ub vb S tm w) : ub < w.heap.size := by
  obtain ⟨vc, vt, h1, -⟩ := h
  exact heap_lt h1.h
theorem UT.row {base ub vb : Nat} {S : US} {tm : List Tm} {w : World} (h : UT base ub vb S tm w) {x : Tm} (hx : x ∈ tm) {k : Nat} (hk : x.row.ownBlock = some k) : k < w.heap.size := by
  obtain ⟨vc, vt, h1, -⟩ := h
  obtain ⟨-, c, h2⟩ := (h1.s x hx).typ hk
  exact heap_lt h2
/-- A row of numbers may change without the unifier's turning. -/
theorem UMem.own3 {base ub vb b : Nat} {vc vt v : Value} {cl : List Cl} {tm : List Tm} {vs : List (Int × Int)} {w V : World} {L : List Int} (h : UMem base ub vb vc vt cl tm vs w) (o : OR 3 1 NC w b v L) (hs : ∀ x ∈ tm, ∀ k, x.row.ownBlock = some k → v.ownBlock ≠ some k) (g : w.grownBy V v.ownBlock) : UMem base ub vb vc vt cl tm vs V := by
  have hv := h.v
  unfold MP at hv
  refine ⟨(g.block _ (heap_lt h.h) (fun e => (o.ne h.h (by simp)) e.symm)).trans h.h, ?_, ?_, fun x hx => (h.s x hx).keepAt fun k hk => ?_, (g.block _ (heap_lt hv) (fun e => (o.ne hv (by simp)) e.symm)).trans hv⟩
  · exact h.c.keepAt fun k hk => by
      obtain ⟨-, c, h2⟩ := h.c.typ hk
      exact g.block _ (heap_lt h2) (fun e => (o.ne h2 (by simp)) e.symm)
  · exact h.t.keepAt fun k hk => by
      obtain ⟨-, c, h2⟩ := h.t.typ hk
      exact g.block _ (heap_lt h2) (fun e => (o.ne h2 (by simp)) e.symm)
  · obtain ⟨-, c, h2⟩ := (h.s x hx).typ hk
    exact g.block _ (heap_lt h2) (fun e => hs x hx k hk e.symm)
/-- A store into a box of a term that is none of the unifier's. -/
theorem UMem.set7 {base ub vb k7 : Nat} {vc vt : Value} {cl : List Cl} {tm : List Tm} {vs : List (Int × Int)} {w : World} (h : UMem base ub vb vc vt cl tm vs w) {c : Array Value} (h7 : w.heap[k7]? = some (.cells c 111 (0, 0))) (no : ¬ Ow ub w k7) (j : Nat) (u : Value) : UMem base ub vb vc vt cl tm vs (w.setCell ⟨k7, j, none⟩ u) := by
  have g := grown_set (w := w) k7 j u
  have hv := h.v
  unfold MP at hv
  have n7 : ub ≠ k7 := by rintro rfl; have := h.h; rw [h7] at this; cases this
  refine ⟨(Below.heap_setCell _ _ _ _ n7).trans h.h, h.c.but h7 (by simp) g, h.t.kept g ?_, fun x hx => (h.s x hx).but h7 (by simp) g, ?_⟩
  · cases hb : vt.ownBlock with
    | none => exact .inl rfl
    | some k => right; intro e; cases e; exact no ⟨_, _, _, h.h, hb⟩
  · exact (Below.heap_setCell _ _ _ _ (by rintro rfl; rw [h7] at hv; cases hv)).trans hv
theorem UT.alter {base ub vb : Nat} {S : US} {tm : List Tm} {w V : World} (h : UT base ub vb S tm w) (f : ∀ vc vt, UMem base ub vb vc vt S.cl tm (S.vs.map fun p => (p.1, (p.2 : Int))) w → UMem base ub vb vc vt S.cl tm (S.vs.map fun p => (p.1, (p.2 : Int))) V) : UT base ub vb S tm V := by
  obtain ⟨vc, vt, h1, h2⟩ := h
  exact ⟨vc, vt, f _ _ h1, h2⟩
/-- A change of one block that the world did not have. -/
theorem Fx.own {base ub k7 : Nat} {w V U : World} {r : Option Nat} (h : Fx base ub k7 w V) (g : V.grownBy U r) (hr : ∀ b, r = some b → b = k7 ∨ w.heap.size ≤ b) (hub : ub < w.heap.size) (h7 : base ≤ k7) (hn : ub ≠ k7) : Fx base ub k7 w U := by
  have st : ∀ j, j < w.heap.size → j ≠ k7 → U.heap[j]? = V.heap[j]? := fun j h1 h2 => g.block j (Nat.lt_of_lt_of_le h1 h.size) fun e => by
    rcases hr j e.symm with h3 | h3
    · exact h2 h3
    · omega
  refine ⟨g.os.trans h.os, g.tape.trans h.tape, g.output.trans h.output, Nat.le_trans h.size g.size, fun j h1 h2 => (st j h2 (by omega)).trans (h.lo j h1 h2), fun j c e fr h0 h1 h2 h3 h4 => (st j (heap_lt h1) h0).trans (h.ty j c e fr h0 h1 h2 h3 h4), fun j h1 ⟨a, b, m, h2, h3⟩ => h.nw j h1 ⟨a, b, m, (st ub hub hn).symm.trans h2, h3⟩⟩
/-- What a call within the loop finds. -/
theorem ai_call {base ub vb k3 k7 k : Nat} {S : US} {tm0 tm : List Tm} {x : Ty} {K : Int} {W3 wr V1 w6 : World} {v : Value} {R : US × Nat} {e : Ending}
    (HR : AI base ub vb S tm0 x K k3 k7 W3 k v wr) (hk : W3.heap.size = k7 + 1) (hub : ub < k7) (g : Gr wr V1) (hA : AddP base ub vb tm V1 R e w6) : w6.heap[k7]? = some (.cells #[iv K, v] 111 (0, 0)) ∧ OR 3 1 NC w6 (k7 + 1) v ((addUs ((ers x.sub).take k) S).2.map Int.ofNat) ∧ k7 + 1 ≤ w6.heap.size := by
  obtain ⟨-, tm', hU, hF, hT⟩ := hA
  have hsz := HR.fx.size
  have hs1 := g.size
  have hs6 := hF.size
  have noV : ¬ Ow ub V1 k7 := fun h => HR.no ((Fu.of (base := base) (by omega) g).nw k7 (by omega) h)
  exact ⟨hF.ty _ _ _ _ (gr_h g HR.t7) (by decide) (by decide) (fun _ => noV), (HR.row.gr g).fu hF, by omega⟩
theorem UT.ow_lt {base ub vb k : Nat} {S : US} {tm : List Tm} {w V : World} (h : UT base ub vb S tm w) (g : Gr w V) (ho : Ow ub V k) : k < w.heap.size := by
  obtain ⟨vc, vt, h1, -⟩ := h
  obtain ⟨a, b, m, h2, h3⟩ := ho
  rw [gr_h g h1.h] at h2
  cases h2
  obtain ⟨-, c, h4⟩ := h1.t.typ h3
  exact heap_lt h4
set_option maxHeartbeats 1000000 in
theorem ai_step {base ub vb k3 k7 k : Nat} {S : US} {tm0 tm : List Tm} {x : Ty} {K : Int} {W3 wr V1 w6 w7 : World} {v v' : Value} {y : Ty} {o : Obj} {e : Ending}
    (HR : AI base ub vb S tm0 x K k3 k7 W3 k v wr) (hk : W3.heap.size = k7 + 1) (hb : base ≤ k7) (hub : ub < k7) (h3 : k3 < k7)
    (hN : NewT W3.heap.size tm0 tm) (hD : ∀ y ∈ tm, ∀ j, y.row.ownBlock = some j → v.ownBlock ≠ some j)
    (g : Gr wr V1) (hy : (ers x.sub)[k]? = some y.er) {R : US × Nat} (hR : addU y.er (addUs ((ers x.sub).take k) S).1 = R) {L : List Int} (hL : (addUs ((ers x.sub).take k) S).2.map Int.ofNat = L) (hA : AddP base ub vb tm V1 R e w6)
    (o7 : OR 3 1 NC w7 (k7 + 1) v' (L ++ [(R.2 : Int)])) (g7 : (w6.alloc o).grownBy w7 v.ownBlock) (b7 : v'.ownBlock = v.ownBlock ∨ v'.ownBlock = some (w6.alloc o).heap.size) :
    AI base ub vb S tm0 x K k3 k7 W3 (k + 1) v' (w7.setCell ⟨k7, 1, none⟩ v') := by
  subst hR hL
  obtain ⟨-, tm', hU, hF, hT⟩ := hA
  have hsz := HR.fx.size
  have hs1 := g.size
  have hs6 := hF.size
  have hs7 := g7.size
  have ha : (w6.alloc o).heap.size = w6.heap.size + 1 := by simp
  have htk : (ers x.sub).take (k + 1) = (ers x.sub).take k ++ [y.er] := by rw [List.take_add_one, hy]; rfl
  have hubw : ub < wr.heap.size := by omega
  have noV : ¬ Ow ub V1 k7 := fun h => HR.no ((Fu.of (base := base) hubw g).nw k7 (by omega) h)
  have no6 : ¬ Ow ub w6 k7 := fun h => noV (hF.nw k7 (by omega) h)
  have tyv : ∀ j, v.ownBlock = some j → k7 + 1 ≤ j ∧ j < V1.heap.size ∧ ∃ c, w6.heap[j]? = some (Obj.cells c 3 (0, 0)) := fun j hj => by
    obtain ⟨h1, c, h2⟩ := (HR.row.gr g).typ hj
    exact ⟨h1, heap_lt h2, c, hF.ty _ _ _ _ h2 (by decide) (by decide) (fun h => by cases h)⟩
  have st : ∀ j, j ≠ k7 → j < w6.heap.size → v.ownBlock ≠ some j → (w7.setCell ⟨k7, 1, none⟩ v').heap[j]? = w6.heap[j]? := fun j h1 h2 h3 =>
    (Below.heap_setCell _ _ _ _ h1).trans ((g7.block j (by omega) (fun e => h3 e.symm)).trans (Below.heap_alloc _ _ _ h2))
  have ow : ∀ j, j < k7 + 1 → v.ownBlock ≠ some j := fun j hj e => by have := (tyv _ e).1; omega
  have h76 : w6.heap[k7]? = some (.cells #[iv K, v] 111 (0, 0)) := hF.ty _ _ _ _ (gr_h g HR.t7) (by decide) (by decide) (fun _ => noV)
  have h77 : w7.heap[k7]? = some (.cells #[iv K, v] 111 (0, 0)) := (g7.block k7 (by omega) (fun e => ow k7 (by omega) e.symm)).trans ((Below.heap_alloc _ _ _ (by omega)).trans h76)
  have hu6 : (w7.setCell ⟨k7, 1, none⟩ v').heap[ub]? = w6.heap[ub]? := st ub (by omega) (by omega) (ow ub (by omega))
  have no7 : ¬ Ow ub w7 k7 := fun ⟨a, b, m, h1, h2⟩ => no6 ⟨a, b, m, by
    rw [← hu6]
    exact (Below.heap_setCell _ _ _ _ (show ub ≠ k7 by omega)).trans h1, h2⟩
  have gs := grown_set (w := w7) k7 1 v'
  have hD6 : ∀ y ∈ tm', ∀ j, y.row.ownBlock = some j → v.ownBlock ≠ some j := fun z hz j hj e => by
    rcases hT z hz with h1 | h1
    · exact hD z h1 j hj e
    · have := h1 j hj
      have := (tyv _ e).2.1
      omega
  have row6 : OR 3 1 NC (w6.alloc o) (k7 + 1) v ((addUs ((ers x.sub).take k) S).2.map Int.ofNat) := ((HR.row.gr g).fu hF).gr (gr_al _ _)
  refine ⟨?_, ?_, ?_, ⟨tm', ?_, hN.trans hT (by omega), fun z hz j hj e => ?_⟩, ?_, ?_⟩
  · exact (st k3 (by omega) (by omega) (ow k3 (by omega))).trans (hF.ty _ _ _ _ (gr_h g HR.t3) (by decide) (by decide) (fun h => by cases h))
  · simp [World.setCell, Array.getElem?_modify, h77]
  · have f1 : Fx base ub k7 W3 w6 := (HR.fx.trans (Fx.of (Fu.of hubw g))).trans (Fx.of hF)
    refine ((f1.own (gr_al w6 o) (fun b h => by cases h) (by omega) hb (by omega)).own g7 (fun b h => .inr ?_) (by omega) hb (by omega)).own gs (fun b h => .inl ?_) (by omega) hb (by omega)
    · have := (tyv _ h).1; omega
    · cases h; rfl
  · rw [htk, addUs_snoc]
    refine ((hU.gr (gr_al w6 o)).alter fun vc vt h => h.own3 row6 hD6 g7).alter fun vc vt h => h.set7 h77 no7 1 v'
  · rcases b7 with h | h
    · rw [h] at e; exact hD6 z hz j hj e
    · rw [h] at e
      have := hU.row hz hj
      cases e
      omega
  · rw [htk, addUs_snoc, List.map_append]
    refine o7.kept gs ?_
    cases hb : v'.ownBlock with
    | none => exact .inl rfl
    | some j => right; intro e; have := o7.lt j hb; cases e; omega
  · rintro ⟨a, b, m, h1, h2⟩
    exact no7 ⟨a, b, m, (Below.heap_setCell _ _ _ _ (show ub ≠ k7 by omega)).symm.trans h1, h2⟩
end Go.Proofs.Ytjlmhfdigoogfaa
namespace Go.Proofs.Ytjlmhfdigoogfaa
open Go.RowKit Go.Shelf

theorem cell2 {W : World} {k : Nat} {a b : Value} {t : TypeId} (h : W.heap[k]? = some (.cells #[a, b] t (0, 0))) : (W.cell? ⟨k, 0, none⟩ = some a ∧ W.cell? ⟨k, 1, none⟩ = some b) ∧ ∀ j, W.frozen? ⟨k, j, none⟩ = false := by
  refine ⟨⟨?_, ?_⟩, fun j => by simp [World.frozen?, h]⟩ <;> · rw [Lib.cell_of_heap h]; rfl
/-- What add promises of a type. -/
def AddOk (base ub vb : Nat) (x : Ty) : Prop := ∀ (S : US) (tm : List Tm) (w : World), UT base ub vb S tm w → base ≤ w.heap.size → x.Rd w → TIn (· < base) x.A x.sub → S.cl.length + x.er.size ≤ 10000 → S.tm.length + x.er.size ≤ 10000 →
  Calls Try.prog 44 #[.pointer (some ⟨ub, 0, none⟩), x.v] w (AddP base ub vb tm w (addU x.er S))
theorem adds_le {x : Ty} {S : US} {k : Nat} (hk : k < x.sub.length) (h1 : S.cl.length + x.er.size ≤ 10000) (h2 : S.tm.length + x.er.size ≤ 10000) : (addUs ((ers x.sub).take k) S).1.cl.length + x.sub[k].er.size ≤ 10000 ∧ (addUs ((ers x.sub).take k) S).1.tm.length + x.sub[k].er.size ≤ 10000 := by
  obtain ⟨a, b⟩ := addUs_len ((ers x.sub).take k) S
  have hk' : k < (ers x.sub).length := by simpa using hk
  have e1 := psz_take_succ hk'
  have e2 := psz_take_le (ers x.sub) (k + 1)
  have e3 := size_eq x.er
  rw [er_sub] at e3
  have e4 : (ers x.sub)[k] = x.sub[k].er := by
    have := ers_get hk
    rw [List.getElem?_eq_getElem hk'] at this
    exact Option.some.inj this
  rw [e4] at e1
  omega
theorem ai_zero {base ub vb : Nat} {S : US} {tm : List Tm} {x : Ty} {K : Int} {w : World} (hu : UT base ub vb S tm w) :
    AI base ub vb S tm x K w.heap.size (w.heap.size + 1) ((w.alloc (.cells #[iv K, iv x.var, .slice x.A x.sub.length x.c] 24)).alloc (.cells #[iv K, .slice none 0 0] 111)) 0 (.slice none 0 0) ((w.alloc (.cells #[iv K, iv x.var, .slice x.A x.sub.length x.c] 24)).alloc (.cells #[iv K, .slice none 0 0] 111)) := by
  have G : Gr w ((w.alloc (.cells #[iv K, iv x.var, .slice x.A x.sub.length x.c] 24)).alloc (.cells #[iv K, .slice none 0 0] 111)) := (gr_al _ _).trans (gr_al _ _)
  refine ⟨(Below.heap_alloc _ _ _ (by simp)).trans (al_new w _), al_at _ _ (by simp), Fx.of (Fu.refl _ _ _), ⟨tm, by simpa [addUs] using hu.gr G, NewT.refl _ _, fun _ _ _ _ => by simp [Value.ownBlock]⟩, by simpa [addUs] using OR.nil, fun h => ?_⟩
  have := hu.ow_lt G h
  omega
set_option maxRecDepth 100000 in
set_option maxHeartbeats 8000000 in
theorem add_term {base ub vb : Nat} (x : Ty) (hK : x.kind ≠ 5) (ih : ∀ y ∈ x.sub, AddOk base ub vb y) : AddOk base ub vb x := by
  intro S tm w hu hbw hx hin hz1 hz2
  have IH := Lib.hid ih
  have hlen : x.sub.length ≤ 10000 := by
    have := size_eq x.er
    have h2 := psz_len x.er.sub
    rw [er_sub] at this h2
    simp at h2
    omega
  have HU := Lib.hid hu
  have BW := Lib.hid hbw
  have HI := Lib.hid hin
  have HZ := Lib.hid (And.intro hz1 hz2)
  have XR := Lib.hid (fun (V : World) (hs : w.heap.size ≤ V.heap.size) (f : ∀ k, k < base → k < w.heap.size → V.heap[k]? = w.heap[k]?) => TRd.keepAt hx hin hs f)
  have ER := Lib.hid (addU_eq x.er S)
  rw [er_kind, er_sub, if_neg hK] at ER
  have hub := hu.hub
  have HUB := Lib.hid hub
  obtain ⟨K, hK'⟩ : ∃ K, x.kind = K := ⟨_, rfl⟩
  have I0 := Lib.hid (ai_zero (x := x) (K := K) hu)
  have BX := Lib.hid (B1.of K x.var (.slice x.A x.sub.length x.c) w)
  unfold Ty.v
  rw [hK'] at hK ER ⊢
  clear hK'
  have hb5 : (K == 5) = false := by simpa using hK
  obtain ⟨b0, b1, b2⟩ := BX.out.c
  clear hu hbw hx hin hz1 hz2 hub ih
  go_enter Try.func44, Try.ntmps44
  go_wp2
  generalize hW3 : World.alloc (World.alloc w _) _ = W3 at *
  have H3 := Lib.hid (show W3.heap.size = w.heap.size + 1 + 1 from by rw [← hW3]; simp)
  have G3 := Lib.hid (show Gr w W3 from by rw [← hW3]; exact (gr_al _ _).trans (gr_al _ _))
  clear hW3 b0 b1 b2
  go_loopw [65] (fun i V => ∃ k A c, k ≤ x.sub.length ∧ i = .int .i64 (k : Nat) ∧ Hid (AI base ub vb S tm x K w.heap.size (w.heap.size + 1) W3 k (.slice A k c) V)) (fun i _ => x.sub.length - (intOf i).toNat)
  case atStart => exact ⟨0, none, 0, Nat.zero_le _, rfl, I0⟩
  case round =>
    clear I0 BX
    obtain ⟨k, A, c, hk, rfl, HR⟩ := hrel
    obtain ⟨⟨b0, b1, b2⟩, -⟩ := cell3 HR.out.t3
    obtain ⟨⟨c0, c1⟩, fz⟩ := cell2 HR.out.t7
    have z1 := fz 1
    clear fz
    have LO := Lib.hid (show w.heap.size ≤ wr.heap.size ∧ ∀ k, k < base → k < w.heap.size → wr.heap[k]? = w.heap[k]? from ⟨Nat.le_trans G3.out.size HR.out.fx.size, fun k h1 h2 => (HR.out.fx.lo k h1 (Nat.lt_of_lt_of_le h2 G3.out.size)).trans (G3.out.block k h2 (by simp))⟩)
    obtain ⟨tm1, hU, hN, hD⟩ := HR.out.um
    have HU1 := Lib.hid hU
    have HN1 := Lib.hid hN
    have HD1 := Lib.hid hD
    clear hU hN hD
    by_cases hlt : k < x.sub.length
    · obtain ⟨a, a1, hA, ha, hab, e0, e1, e2, hsub⟩ := (XR.out _ LO.out.1 LO.out.2).at hlt
      have IM := List.getElem_mem hlt
      have PS := Lib.hid (show (ers x.sub)[k]? = some x.sub[k].er from ers_get hlt)
      have CL := Lib.hid (fun V (g : Gr wr V) => IH.out _ IM _ tm1 V (HU1.out.gr g) (Nat.le_trans BW.out (Nat.le_trans LO.out.1 g.size)) (hsub.gr g) (HI.out.hs _ IM) (adds_le hlt HZ.out.1 HZ.out.2).1 (adds_le hlt HZ.out.1 HZ.out.2).2)
      obtain ⟨RR, hRR⟩ : ∃ RR, addU x.sub[k].er (addUs ((ers x.sub).take k) S).1 = RR := ⟨_, rfl⟩
      obtain ⟨L, hL⟩ : ∃ L, (addUs ((ers x.sub).take k) S).2.map Int.ofNat = L := ⟨_, rfl⟩
      have HK := Lib.hid (show L.length = k from by rw [← hL, List.length_map, addUs_ids, List.length_take]; simp; omega)
      rw [hRR] at CL
      have HRR := Lib.hid hRR
      have HL := Lib.hid hL
      clear hRR hL
      generalize x.sub[k] = y at *
      rw [hA] at b2 ⊢
      unfold Ty.v at CL
      clear hA hsub IM
      go_upto_region 12 with (fail)
      have J2 := Lib.hid (gr_al wr (.cells #[iv y.kind, iv y.var, .slice y.A y.sub.length y.c] 24))
      have J1 := Lib.hid (show (wr.alloc (.cells #[iv y.kind, iv y.var, .slice y.A y.sub.length y.c] 24)).heap[wr.heap.size]? = some (.cells #[iv y.kind, iv y.var, .slice y.A y.sub.length y.c] 24 (0, 0)) from al_new _ _)
      have J3 := Lib.hid (gr_h J2.out HR.out.t7)
      generalize hW1 : wr.alloc (.cells #[.int .i64 y.kind, .int .i64 y.var, .slice y.A y.sub.length y.c] 24) = W1 at *
      clear hW1 b0 b1 b2 c0 c1 z1 e0 e1 e2
      have CL2 := Lib.hid (fun V (g : Gr W1 V) => CL.out V (J2.out.trans g))
      obtain ⟨⟨b0, b1, b2⟩, -⟩ := cell3 J1.out
      obtain ⟨⟨d0, d1⟩, -⟩ := cell2 J3.out
      clear CL
      have HS1 := Lib.hid (show L.length + [(RR.2 : Int)].length ≤ 1000000 from by have := HK.out; simp; omega)
      have HL1 := Lib.hid (show (L ++ [(RR.2 : Int)]).length = k + 1 from by have := HK.out; simp; omega)
      have HB7 := Lib.hid (show ub < w.heap.size + 1 ∧ base ≤ w.heap.size + 1 from ⟨Nat.lt_succ_of_lt HUB.out, Nat.le_succ_of_le BW.out⟩)
      go_region_law (first | (go_simp; go_at_call 44; refine (CL2.out _ (gr_drew _)).mono ?_; intro e w6 hA; have HA := Lib.hid hA; have HC := Lib.hid (ai_call HR.out H3.out HB7.out.1 (J2.out.trans (gr_drew _)) hA); obtain ⟨rfl, -⟩ := hA; obtain ⟨⟨f0, f1⟩, -⟩ := cell2 HC.out.1; obtain ⟨⟨k0, k1⟩, -⟩ := cell2 (gr_h (gr_al w6 (.cells #[iv RR.2] 3)) HC.out.1); have R6 := Lib.hid (show OR 3 1 NC w6 (w.heap.size + 1 + 1) (.slice A k c) L from by rw [← HL.out]; exact HC.out.2.1); have S7 := Lib.hid (show ∀ o : Obj, w.heap.size + 1 + 1 ≤ (w6.alloc o).heap.size from fun o => by have := HC.out.2.2; simp; omega)) | (refine step_app (α := Int) (cs := NC) 35 NC_len NC_cell1 Try.underlying35 info3 rfl (by decide) (by decide) rfl (.tmp 70) (.tmp 74) rfl (w.heap.size + 1 + 1) (v := .slice A k c) (L := L) (by simp [Act.eval]) (R6.out.gr (gr_al _ _)) (A := some ⟨w6.heap.size, 0, none⟩) (M := [(RR.2 : Int)]) (m := 1) (c := 1) rfl (by simp [Act.eval]) (rd_cells (t := 3) NC_len (al_new _ _)) (by simp) HS1.out (S7.out _) ?_; intro v7 w7 o7 g7 b7; obtain ⟨A7, c7, rfl, -⟩ := o7.form NC_len; rw [HL1.out] at o7 b7 ⊢; have O7 := Lib.hid o7; have G7 := Lib.hid g7; have B7 := Lib.hid b7; have K7 := Lib.hid (show w7.heap[w.heap.size + 1]? = some (.cells #[iv K, .slice A k c] 111 (0, 0)) from (g7.block _ (Nat.lt_of_lt_of_le (by omega) (S7.out _)) (fun e => by have := (R6.out.lt _ e.symm).1; omega)).trans (gr_h (gr_al _ _) HC.out.1)); obtain ⟨⟨m0, m1⟩, fz7⟩ := cell2 K7.out; have z7 := fz7 1; clear fz7 o7 g7 b7))
      all_goals go_wp2
      all_goals exact ⟨⟨k + 1, A7, c7, by omega, by simp, Lib.hid (ai_step HR.out H3.out HB7.out.2 HB7.out.1 (by omega) HN1.out HD1.out (J2.out.trans (gr_drew _)) PS.out HRR.out HL.out HA.out O7.out G7.out B7.out)⟩, by simp [intOf]; omega⟩
    · obtain rfl : x.sub.length = k := by omega
      have htk : (ers x.sub).take x.sub.length = ers x.sub := List.take_of_length_le (by simp)
      obtain ⟨P, hP⟩ : ∃ P, addUs (ers x.sub) S = P := ⟨_, rfl⟩
      have hrow := HR.out.row
      have hlen2 := addUs_len (ers x.sub) S
      have hid : P.2.length = x.sub.length := by rw [← hP, addUs_ids]; simp
      rw [htk, hP] at HU1 hrow
      rw [hP] at ER hlen2
      obtain ⟨vc, vt, hm, hb1, hb2, hE⟩ := HU1.out
      obtain ⟨AC, cc, rfl, -⟩ := hm.c.form Cl.cs_len
      obtain ⟨AT, ct, rfl, -⟩ := hm.t.form Tm.cs_len
      have hMT : tm1.length = P.1.tm.length := by simpa using congrArg List.length hE
      have hsz := size_eq x.er
      rw [er_sub] at hsz
      have hz := HZ.out
      have HBD := Lib.hid (show P.1.cl.length ≤ 10000 ∧ tm1.length ≤ 10000 from by omega)
      have HMT := Lib.hid hMT
      have HFX := Lib.hid (Fx.fu (Fu.of HUB.out G3.out) HR.out.fx (Nat.le_succ _))
      have HNT := Lib.hid (show NewT w.heap.size tm tm1 from fun y hy => (HN1.out y hy).imp id fun h k hk => Nat.le_trans G3.out.size (h k hk))
      have HT7 := Lib.hid HR.out.t7
      obtain ⟨X, hX⟩ : ∃ X : Tm, (⟨K, A, c, P.2.map Int.ofNat⟩ : Tm) = X := ⟨_, rfl⟩
      have hXcs : X.cs = [iv K, .slice A x.sub.length c] := by rw [← hX]; simp [Tm.cs, hid]
      have HXR := Lib.hid (show X.row = .slice A x.sub.length c from by rw [← hX]; simp [Tm.row, hid])
      have HXO := Lib.hid (show OR 3 1 NC wr base (.slice X.A X.sub.length X.c) X.sub from by rw [← hX]; simpa [hid] using hrow.low (Nat.le_succ_of_le (Nat.le_succ_of_le BW.out)))
      have HXW := Lib.hid (show ∀ k, X.row.ownBlock = some k → w.heap.size ≤ k from fun k hk => by rw [HXR.out] at hk; have := (hrow.lt k hk).1; omega)
      have HXE := Lib.hid (show (tm1 ++ [X]).map (fun x => (x.kind, x.sub)) = (P.1.tm ++ [(K, P.2)]).map fun p => (p.1, p.2.map Int.ofNat) from by rw [List.map_append, hE, ← hX]; simp)
      have HXC := Lib.hid (show ([X].flatMap Tm.cs).toArray = #[iv K, .slice A x.sub.length c] from by simp [hXcs])
      clear hrow hlen2 hid hMT hsz hz hX hXcs hE htk hP HR HU1 HN1 HD1 b0 b1 b2 c0 c1 z1 hk hlt XR IH HI HZ
      obtain ⟨n, hn⟩ : ∃ n, x.sub.length = n := ⟨_, rfl⟩
      obtain ⟨N, hN⟩ : ∃ N, P.1.cl.length = N := ⟨_, rfl⟩
      obtain ⟨MT, hT⟩ : ∃ MT, tm1.length = MT := ⟨_, rfl⟩
      rw [hn] at HT7 HXC ⊢
      rw [hN] at hm HBD ER
      rw [hT] at hm HBD HMT
      rw [← HMT.out] at ER
      have HM := Lib.hid hm
      have HTT := Lib.hid hT
      have HNN := Lib.hid hN
      clear hm hT hN hn HXR
      obtain ⟨⟨b0, b1⟩, -⟩ := cell2 HT7.out
      obtain ⟨⟨d0, d1, d2⟩, -⟩ := cell3 HM.out.h
      go_upto_region 14 with (fail)
      have G80 := Lib.hid (gr_al wr (.cells #[iv K, .slice A n c] 111))
      have G8 := Lib.hid (G80.out.trans (gr_drew (wr.alloc (.cells #[iv K, .slice A n c] 111))))
      obtain ⟨⟨e0, e1⟩, -⟩ := cell2 (gr_h G80.out HT7.out)
      obtain ⟨⟨f0, f1, f2⟩, -⟩ := cell3 (gr_h G80.out HM.out.h)
      have HS := Lib.hid (show tm1.length + [X].length ≤ 1000000 by have := HTT.out; have := HBD.out; simp; omega)
      have HS7 := Lib.hid (show base ≤ (wr.alloc (.cells #[iv K, .slice A n c] 111)).drew.heap.size from Nat.le_trans BW.out (Nat.le_trans LO.out.1 G8.out.size))
      have HCL := Lib.hid (show (wr.alloc (.cells #[iv K, .slice A n c] 111)).drew.heap[wr.heap.size]? = some (.cells ([X].flatMap Tm.cs).toArray 111 (0, 0)) from by rw [HXC.out]; exact al_new _ _)
      go_region_law (first | (refine step_app (α := Tm) (cs := Tm.cs) 68 Tm.cs_len Tm.cell1 Try.underlying68 info111 rfl (by decide) (by decide) rfl (.tmp 82) (.tmp 84) rfl base (v := .slice AT MT ct) (L := tm1) (by simp [Act.eval]) (HM.out.t.gr G8.out) (A := some ⟨wr.heap.size, 0, none⟩) (M := [X]) (m := 1) (c := 1) rfl (by simp [Act.eval]) (rd_cells (t := 111) Tm.cs_len HCL.out) (by simp) HS.out HS7.out ?_; intro v8 w8 o8 g8 b8; obtain ⟨A8, c8, rfl, -⟩ := o8.form Tm.cs_len; have l8 : (tm1 ++ [X]).length = MT + 1 := (by simp [HTT.out]); rw [l8] at o8 b8 ⊢; have O8 := Lib.hid o8; have G9 := Lib.hid g8; have B8 := Lib.hid b8; have U8 := Lib.hid (show w8.heap[ub]? = some (.cells #[.slice AC N cc, .slice AT MT ct, .map (some vb)] 70 (0, 0)) from (g8.block _ (heap_lt (HM.out.gr G8.out).h) (fun e => ((HM.out.gr G8.out).t.ne (HM.out.gr G8.out).h (by simp)) e.symm)).trans (HM.out.gr G8.out).h); obtain ⟨⟨m0, m1, m2⟩, fz⟩ := cell3 U8.out; have z0 := fz 1; clear fz o8 g8 b8 l8))
      all_goals have M9 := Lib.hid (HM.out.addt G8.out G9.out O8.out HXO.out)
      all_goals have F9 := Lib.hid (HFX.out.trans (Fu.addt hb1 HM.out G8.out G9.out B8.out))
      all_goals clear b0 b1 d0 d1 d2 e0 e1 f0 f1 f2 m0 m1 m2 z0 U8 O8 G9 B8 HCL HS HS7 G8 G80 HXO HT7 HXC HFX
      all_goals generalize World.setCell w8 _ _ = W9 at *
      all_goals obtain ⟨⟨d0, d1, d2⟩, -⟩ := cell3 M9.out.h
      all_goals go_upto_region 15 with (fail)
      all_goals have G80 := Lib.hid (gr_al W9 (.cells #[iv N, iv MT, iv (-1)] 77))
      all_goals have G8 := Lib.hid (G80.out.trans (gr_drew (W9.alloc (.cells #[iv N, iv MT, iv (-1)] 77))))
      all_goals obtain ⟨⟨f0, f1, f2⟩, -⟩ := cell3 (gr_h G80.out M9.out.h)
      all_goals have HS := Lib.hid (show P.1.cl.length + [(⟨N, MT, -1⟩ : Cl)].length ≤ 1000000 by have := HNN.out; have := HBD.out; simp; omega)
      all_goals have HS7 := Lib.hid (show base ≤ (W9.alloc (.cells #[iv N, iv MT, iv (-1)] 77)).drew.heap.size from Nat.le_trans BW.out (Nat.le_trans F9.out.size G8.out.size))
      all_goals have hwr : IntKind.i64.wrap (MT : Int) = (MT : Int) := by have := HBD.out; rw [IntKind.wrap_i64]; omega
      all_goals go_region_law (first | (refine step_app (α := Cl) (cs := Cl.cs) 67 Cl.cs_len Cl.cell1 Try.underlying67 info77 rfl (by decide) (by decide) rfl (.tmp 92) (.tmp 105) rfl base (v := .slice AC N cc) (L := P.1.cl) (by simp [Act.eval]) (M9.out.c.gr G8.out) (A := some ⟨W9.heap.size, 0, none⟩) (M := [⟨N, MT, -1⟩]) (m := 1) (c := 1) rfl (by simp [Act.eval]) (rd_cells (t := 77) Cl.cs_len (al_at _ _ rfl)) (by simp) HS.out HS7.out ?_; intro v9 w9 o9 g9 b9; obtain ⟨A9, c9, rfl, -⟩ := o9.form Cl.cs_len; have l9 : (P.1.cl ++ [(⟨N, MT, -1⟩ : Cl)]).length = N + 1 := (by simp [HNN.out]); rw [l9] at o9 ⊢; have O9 := Lib.hid o9; have G9 := Lib.hid g9; have U9 := Lib.hid (show w9.heap[ub]? = some (.cells #[.slice AC N cc, .slice A8 (MT + 1) c8, .map (some vb)] 70 (0, 0)) from (g9.block _ (heap_lt (M9.out.gr G8.out).h) (fun e => ((M9.out.gr G8.out).c.ne (M9.out.gr G8.out).h (by simp)) e.symm)).trans (M9.out.gr G8.out).h); obtain ⟨⟨m0, m1, m2⟩, fz⟩ := cell3 U9.out; have z0 := fz 0; clear fz o9 g9 b9 l9))
      all_goals have MA := Lib.hid (M9.out.addc G8.out G9.out O9.out)
      all_goals have FA := Lib.hid (((F9.out.trans (Fu.of (heap_lt M9.out.h) G8.out)).trans (Fu.ownc (M9.out.c.gr G8.out) (M9.out.gr G8.out).h G9.out)).trans (Fu.set0 hb1 U9.out (.slice A9 (N + 1) c9)))
      all_goals obtain ⟨⟨p0, -, -⟩, -⟩ := cell3 MA.out.h
      all_goals clear d0 d1 d2 f0 f1 f2 m0 m1 m2 z0
      all_goals have hN1 : N ≤ 10000 := HBD.out.1
      all_goals go_wp2
      all_goals go_ret
      all_goals refine ⟨by rw [ER.out]; simp, tm1 ++ [X], ?_, FA.out, fun y hy => ?_⟩
      all_goals first | (rw [ER.out]; exact ⟨_, _, MA.out, hb1, hb2, HXE.out⟩) | (rcases List.mem_append.1 hy with hy | hy; exact HNT.out y hy; simp only [List.mem_singleton] at hy; subst hy; exact .inr HXW.out)
end Go.Proofs.Ytjlmhfdigoogfaa
namespace Go.Proofs.Ytjlmhfdigoogfaa
open Go.RowKit Go.Shelf

theorem add_any {base ub vb : Nat} (x : Ty) : AddOk base ub vb x := by
  induction x using Ty.ind with
  | h x ih =>
    by_cases hk : x.kind = 5
    · intro S tm w hu hbw hx hin hz1 hz2
      have e := addU_eq x.er S
      rw [er_kind, er_var, if_pos hk] at e
      have hsz := size_pos x.er
      unfold Ty.v
      rw [hk, e]
      cases hc : vget x.var S.vs with
      | some c =>
        refine (add_known hu x.var hc).mono ?_
        rintro e w' ⟨rfl, g⟩
        exact ⟨rfl, tm, hu.gr g, Fu.of hu.hub g, NewT.refl _ _⟩
      | none =>
        refine (add_new hu hbw x.var hc (by omega)).mono ?_
        rintro e w' ⟨rfl, g1, g2⟩
        exact ⟨rfl, tm, g1, g2, NewT.refl _ _⟩
    · exact add_term x hk ih
end Go.Proofs.Ytjlmhfdigoogfaa
namespace Go.Proofs.Ytjlmhfdigoogfaa

/-- A variable. -/
def vr (n : Int) : PT := .mk 5 n []
/-- A variable occurs in a type. -/
def Vin (u : Int) (t : PT) : Prop := ∃ x ∈ t.pre, x.kind = 5 ∧ x.var = u
theorem mem_pres {x : PT} : ∀ {l : List PT}, x ∈ pres l ↔ ∃ y ∈ l, x ∈ y.pre
  | [] => by simp
  | y :: l => by simp [mem_pres (l := l)]
theorem vin_iff {u : Int} {t : PT} : Vin u t ↔ (t.kind = 5 ∧ t.var = u) ∨ ∃ y ∈ t.sub, Vin u y := by
  unfold Vin
  rw [pre_eq]
  constructor
  · rintro ⟨x, hx, h⟩
    rcases List.mem_cons.1 hx with rfl | hx
    · exact .inl h
    · obtain ⟨y, hy, hx⟩ := mem_pres.1 hx
      exact .inr ⟨y, hy, x, hx, h⟩
  · rintro (h | ⟨y, hy, x, hx, h⟩)
    · exact ⟨t, by simp, h⟩
    · exact ⟨x, List.mem_cons.2 (.inr (mem_pres.2 ⟨y, hy, hx⟩)), h⟩
theorem cke_mk {t : PT} (h : VT t) (hs : ∀ x ∈ t.sub, cke x = 0) : cke t = 0 := by
  have h1 : ck1 t = 0 := by
    unfold ck1
    have := h.k
    have := h.r
    rw [if_neg (by omega), if_neg (fun h' => ?_), if_neg (by omega)]
    rcases h' with ⟨a, b⟩ | a
    · exact b (h.v a)
    · exact a h.n
  rw [cke_eq, if_pos h1]
  unfold ckes
  refine fe_all fun y hy => ?_
  obtain ⟨z, hz, rfl⟩ := List.mem_map.1 hy
  obtain ⟨x, hx, hz⟩ := mem_pres.1 hz
  have h2 := hs x hx
  unfold cke at h2
  exact fe_zero h2 _ (List.mem_map.2 ⟨z, hz, rfl⟩)
theorem good_sub {t x : PT} (h : cke t = 0) (hx : x ∈ t.sub) : cke x = 0 := (cke_ok h).2 x hx
theorem good_var {t : PT} (h : cke t = 0) (hk : t.kind = 5) : t = vr t.var := by
  have h1 := (cke_ok h).1.n
  rw [hk] at h1
  have h2 : t.sub = [] := List.eq_nil_of_length_eq_zero h1
  rw [← PT.eta t, h2, hk]
  rfl
theorem good_vr {n : Int} (h : 0 ≤ n ∧ n ≤ 999999) : cke (vr n) = 0 := cke_mk ⟨by simp [vr, PT.kind], fun h => absurd rfl h, h, rfl⟩ (by simp [vr, PT.sub])
theorem vin_vr {u n : Int} : Vin u (vr n) ↔ u = n := by
  rw [vin_iff]
  simp only [vr, PT.kind, PT.var, PT.sub, List.not_mem_nil, false_and, exists_false, or_false, true_and]
  exact eq_comm
theorem vin_range {u : Int} {t : PT} (h : cke t = 0) (hu : Vin u t) : 0 ≤ u ∧ u ≤ 999999 := by
  induction t using PT.ind with
  | h k v s ih =>
    rcases vin_iff.1 hu with ⟨-, rfl⟩ | ⟨y, hy, h1⟩
    · exact (cke_ok h).1.r
    · exact ih y hy (good_sub h hy) h1
theorem rep_vr (f : Int → PT) (n : Int) : (vr n).rep f = f n := by rw [rep_eq]; rfl
theorem rep_congr {f g : Int → PT} {t : PT} (h : ∀ u, Vin u t → f u = g u) : t.rep f = t.rep g := by
  induction t using PT.ind with
  | h k v s ih =>
    rw [rep_eq, rep_eq]
    by_cases hk : (PT.mk k v s).kind = 5
    · rw [if_pos hk, if_pos hk]
      exact h _ (vin_iff.2 (.inl ⟨hk, rfl⟩))
    · rw [if_neg hk, if_neg hk]
      congr 1
      exact List.map_congr_left fun x hx => ih x hx fun u hu => h u (vin_iff.2 (.inr ⟨x, hx, hu⟩))
theorem rep_comp (f g : Int → PT) (t : PT) : (t.rep f).rep g = t.rep fun u => (f u).rep g := by
  induction t using PT.ind with
  | h k v s ih =>
    rw [rep_eq f, rep_eq (fun u => (f u).rep g)]
    by_cases hk : (PT.mk k v s).kind = 5
    · rw [if_pos hk, if_pos hk]
    · rw [if_neg hk, if_neg hk, rep_eq, if_neg (show ¬ (PT.mk (PT.mk k v s).kind 0 _).kind = 5 from hk)]
      simp only [PT.sub, List.map_map, PT.kind]
      congr 1
      exact List.map_congr_left fun x hx => ih x hx
theorem rep_id {t : PT} (h : cke t = 0) : t.rep vr = t := by
  induction t using PT.ind with
  | h k v s ih =>
    rw [rep_eq]
    by_cases hk : (PT.mk k v s).kind = 5
    · rw [if_pos hk]; exact (good_var h hk).symm
    · rw [if_neg hk]
      have hv := (cke_ok h).1.v hk
      simp only [PT.var] at hv
      subst hv
      simp only [PT.kind, PT.sub]
      congr 1
      conv => rhs; rw [← List.map_id s]
      exact List.map_congr_left fun x hx => ih x hx (good_sub h hx)
theorem rep_fix {f : Int → PT} {t : PT} (h : cke t = 0) (e : t.rep f = t) {u : Int} (hu : Vin u t) : f u = vr u := by
  induction t using PT.ind with
  | h k v s ih =>
    rw [rep_eq] at e
    by_cases hk : (PT.mk k v s).kind = 5
    · rw [if_pos hk] at e
      have h1 := good_var h hk
      rcases vin_iff.1 hu with ⟨-, rfl⟩ | ⟨y, hy, -⟩
      · rw [e]; exact h1
      · rw [h1] at hy; simp [vr, PT.sub] at hy
    · rw [if_neg hk] at e
      rcases vin_iff.1 hu with ⟨h1, -⟩ | ⟨y, hy, h1⟩
      · exact absurd h1 hk
      · simp only [PT.sub, PT.kind] at e hy
        have e2 := (PT.mk.inj e).2.2
        refine ih y hy (good_sub h hy) ?_ h1
        clear ih h hu h1 hk e
        induction s with
        | nil => cases hy
        | cons z s ih2 =>
          simp only [List.map_cons, List.cons.injEq] at e2
          rcases List.mem_cons.1 hy with rfl | hy
          · exact e2.1
          · exact ih2 hy e2.2
theorem rep_is_vr {f : Int → PT} {t : PT} {u : Int} (e : t.rep f = vr u) : t.kind = 5 ∧ f t.var = vr u := by
  rw [rep_eq] at e
  by_cases hk : t.kind = 5
  · rw [if_pos hk] at e; exact ⟨hk, e⟩
  · rw [if_neg hk] at e; exact absurd (PT.mk.inj e).1 hk
theorem vin_rep {f : Int → PT} {u : Int} {t : PT} (h : Vin u (t.rep f)) : ∃ v, Vin v t ∧ Vin u (f v) := by
  induction t using PT.ind with
  | h k v s ih =>
    rw [rep_eq] at h
    by_cases hk : (PT.mk k v s).kind = 5
    · rw [if_pos hk] at h; exact ⟨_, vin_iff.2 (.inl ⟨hk, rfl⟩), h⟩
    · rw [if_neg hk] at h
      rcases vin_iff.1 h with ⟨h1, -⟩ | ⟨y, hy, h1⟩
      · exact absurd h1 hk
      · obtain ⟨x, hx, rfl⟩ := List.mem_map.1 hy
        obtain ⟨v', h2, h3⟩ := ih x hx h1
        exact ⟨v', vin_iff.2 (.inr ⟨x, hx, h2⟩), h3⟩
theorem vin_rep' {f : Int → PT} {u v : Int} {t : PT} (h : Vin v t) (hg : cke t = 0) (hu : Vin u (f v)) : Vin u (t.rep f) := by
  induction t using PT.ind with
  | h k w s ih =>
    rw [rep_eq]
    rcases vin_iff.1 h with ⟨hk, rfl⟩ | ⟨y, hy, h1⟩
    · rw [if_pos hk]; exact hu
    · by_cases hk : (PT.mk k w s).kind = 5
      · have := good_var hg hk
        rw [this] at hy
        simp [vr, PT.sub] at hy
      · rw [if_neg hk]
        exact vin_iff.2 (.inr ⟨_, List.mem_map.2 ⟨y, hy, rfl⟩, ih y hy h1 (good_sub hg hy)⟩)
theorem psz_map_le {f g : PT → PT} : ∀ {l : List PT}, (∀ x ∈ l, (f x).size ≤ (g x).size) → psz (l.map f) ≤ psz (l.map g)
  | [], _ => by simp
  | x :: l, h => by
    have h1 := h x (by simp)
    have h2 := psz_map_le (l := l) fun y hy => h y (by simp [hy])
    simp only [List.map_cons, psz_cons]
    omega
/-- What stands for a variable is within the whole. -/
theorem vin_size {f : Int → PT} {u : Int} {t : PT} (h : Vin u t) (hg : cke t = 0) : (f u).size ≤ (t.rep f).size ∧ (t.kind ≠ 5 → (f u).size < (t.rep f).size) := by
  induction t using PT.ind with
  | h k w s ih =>
    rw [rep_eq]
    rcases vin_iff.1 h with ⟨hk, rfl⟩ | ⟨y, hy, h1⟩
    · rw [if_pos hk]; exact ⟨Nat.le_refl _, fun h => absurd hk h⟩
    · by_cases hk : (PT.mk k w s).kind = 5
      · have := good_var hg hk
        rw [this] at hy
        simp [vr, PT.sub] at hy
      · rw [if_neg hk, size_eq (PT.mk _ _ _)]
        have h2 := (ih y hy h1 (good_sub hg hy)).1
        have h3 : (y.rep f).size ≤ psz ((PT.mk k w s).sub.map (PT.rep f)) := psz_mem (List.mem_map.2 ⟨y, hy, rfl⟩)
        simp only [PT.sub] at h3 ⊢
        exact ⟨by omega, fun _ => by omega⟩
theorem good_rep {f : Int → PT} {t : PT} (h : cke t = 0) (hf : ∀ u, Vin u t → cke (f u) = 0) : cke (t.rep f) = 0 := by
  induction t using PT.ind with
  | h k v s ih =>
    rw [rep_eq]
    by_cases hk : (PT.mk k v s).kind = 5
    · rw [if_pos hk]; exact hf _ (vin_iff.2 (.inl ⟨hk, rfl⟩))
    · rw [if_neg hk]
      have hv := (cke_ok h).1
      refine cke_mk ⟨hv.k, fun _ => rfl, by simp [PT.var], by have := hv.n; simp only [PT.sub, PT.kind, List.length_map] at this ⊢; exact this⟩ fun x hx => ?_
      obtain ⟨y, hy, rfl⟩ := List.mem_map.1 hx
      exact ih y hy (good_sub h hy) fun u hu => hf u (vin_iff.2 (.inr ⟨y, hy, hu⟩))
/-- The variables of two types. -/
def Vab (a b : PT) (n : Int) : Prop := Vin n a ∨ Vin n b
/-- A most general unifier that keeps the least variables. -/
structure Mgu (a b : PT) (m : Int → PT) : Prop where
  un : a.rep m = b.rep m
  gen : ∀ s : Int → PT, a.rep s = b.rep s → ∀ v, s v = (m v).rep s
  lo : ∀ n k, m n = vr k → k ≤ n
  ok : ∀ n, Vab a b n → cke (m n) = 0
  out : ∀ n, ¬ Vab a b n → m n = vr n
theorem Mgu.fix {a b : PT} {m : Int → PT} (h : Mgu a b m) {n u : Int} (hn : Vab a b n) (hu : Vin u (m n)) : m u = vr u := rep_fix (h.ok n hn) (h.gen m h.un n).symm hu
theorem Mgu.same_fix {a b : PT} {m m' : Int → PT} (h : Mgu a b m) (h' : Mgu a b m') {u : Int} (hu : m u = vr u) : m' u = vr u := by
  by_cases hV : Vab a b u
  · have h1 := h'.gen m h.un u
    rw [hu] at h1
    obtain ⟨h2, h3⟩ := rep_is_vr h1.symm
    have h4 := good_var (h'.ok u hV) h2
    have h5 := h.lo _ _ h3
    have h6 := h'.lo _ _ h4
    rw [h4, Int.le_antisymm h6 h5]
  · exact h'.out u hV
theorem Mgu.uniq {a b : PT} {m m' : Int → PT} (h : Mgu a b m) (h' : Mgu a b m') (n : Int) : m n = m' n := by
  by_cases hV : Vab a b n
  · rw [h.gen m' h'.un n, rep_congr (g := vr) fun u hu => h.same_fix h' (h.fix hV hu), rep_id (h.ok n hV)]
  · rw [h.out n hV, h'.out n hV]
theorem Mgu.symm {a b : PT} {m : Int → PT} (h : Mgu a b m) : Mgu b a m := ⟨h.un.symm, fun s hs => h.gen s hs.symm, h.lo, fun n hn => h.ok n hn.symm, fun n hn => h.out n fun h' => hn h'.symm⟩
end Go.Proofs.Ytjlmhfdigoogfaa
namespace Go.Proofs.Ytjlmhfdigoogfaa

/-- Two lists of classes are joined. -/
def joinL (f : List Cl → Nat → Nat → Option (Bool × List Cl)) : List Cl → List Nat → List Nat → Option (Bool × List Cl)
  | cl, [], _ => some (true, cl)
  | cl, i :: s, j :: t => match f cl i j with
    | some (true, cl') => joinL f cl' s t
    | r => r
  | _, _ :: _, [] => none
def lst (x y : Cl) : Int := if x.least < 0 ∨ (0 ≤ y.least ∧ y.least < x.least) then y.least else x.least
/-- Class b becomes one of class a. -/
def uni (cl : List Cl) (a b : Nat) (x y : Cl) (t : Int) : List Cl := (cl.set b ⟨a, y.term, y.least⟩).set a ⟨x.up, t, lst x y⟩
def joinP : Nat → List (Int × List Nat) → List Cl → Nat → Nat → Option (Bool × List Cl)
  | 0, _, _, _, _ => none
  | n + 1, tm, cl, a0, b0 =>
    match findP (cl.length + 1) cl a0, findP (cl.length + 1) cl b0 with
    | some a, some b =>
      if a = b then some (true, cl) else
      match cl[a]?, cl[b]? with
      | some x, some y =>
        if y.term < 0 then some (true, uni cl a b x y x.term)
        else if x.term < 0 then some (true, uni cl a b x y y.term)
        else match tm[x.term.toNat]?, tm[y.term.toNat]? with
          | some s, some t => if s.1 = t.1 then joinL (joinP n tm) (uni cl a b x y x.term) s.2 t.2 else some (false, uni cl a b x y x.term)
          | _, _ => none
      | _, _ => none
    | _, _ => none
theorem findP_mono : ∀ {n m : Nat} {cl : List Cl} {c r : Nat}, findP n cl c = some r → n ≤ m → findP m cl c = some r
  | 0, _, _, _, _, h, _ => by simp [findP] at h
  | n + 1, 0, _, _, _, _, hm => by omega
  | n + 1, m + 1, cl, c, r, h, hm => by
    simp only [findP] at h ⊢
    cases hx : cl[c]? with
    | none => rw [hx] at h; cases h
    | some x =>
      rw [hx] at h
      simp only at h ⊢
      by_cases h1 : x.up = c
      · rw [if_pos h1] at h ⊢; exact h
      · rw [if_neg h1] at h ⊢
        by_cases h2 : 0 ≤ x.up
        · rw [if_pos h2] at h ⊢; exact findP_mono h (by omega)
        · rw [if_neg h2] at h; cases h
theorem findP_root : ∀ {n : Nat} {cl : List Cl} {c r : Nat}, findP n cl c = some r → ∃ x, cl[r]? = some x ∧ x.up = r
  | 0, _, _, _, h => by simp [findP] at h
  | n + 1, cl, c, r, h => by
    simp only [findP] at h
    cases hx : cl[c]? with
    | none => rw [hx] at h; cases h
    | some x =>
      rw [hx] at h
      simp only at h
      by_cases h1 : x.up = c
      · rw [if_pos h1] at h; cases h; exact ⟨x, hx, h1⟩
      · rw [if_neg h1] at h
        by_cases h2 : 0 ≤ x.up
        · rw [if_pos h2] at h; exact findP_root h
        · rw [if_neg h2] at h; cases h
theorem findP_uniq {n m : Nat} {cl : List Cl} {c r r' : Nat} (h : findP n cl c = some r) (h' : findP m cl c = some r') : r = r' := by
  rcases Nat.le_total n m with hl | hl
  · have := findP_mono h hl; rw [h'] at this; exact (Option.some.inj this).symm
  · have := findP_mono h' hl; rw [h] at this; exact Option.some.inj this
theorem findP_of_root {cl : List Cl} {r : Nat} {x : Cl} (hx : cl[r]? = some x) (h : x.up = r) (n : Nat) : findP (n + 1) cl r = some r := by
  simp only [findP, hx]
  rw [if_pos h]
theorem uni_len (cl : List Cl) (a b : Nat) (x y : Cl) (t : Int) : (uni cl a b x y t).length = cl.length := by simp [uni]
theorem uni_get {cl : List Cl} {a b : Nat} {x y : Cl} {t : Int} (ha : a < cl.length) (hb : b < cl.length) (c : Nat) : (uni cl a b x y t)[c]? = if c = a then some ⟨x.up, t, lst x y⟩ else if c = b then some ⟨a, y.term, y.least⟩ else cl[c]? := by
  unfold uni
  rw [List.getElem?_set, List.getElem?_set]
  by_cases h1 : c = a
  · subst h1; rw [if_pos rfl, if_pos rfl, if_pos (by simpa using ha)]
  · rw [if_neg (Ne.symm h1), if_neg h1]
    by_cases h2 : c = b
    · subst h2; rw [if_pos rfl, if_pos rfl, if_pos hb]
    · rw [if_neg (Ne.symm h2), if_neg h2]
/-- Find behind a join. -/
theorem findP_uni {cl : List Cl} {a b : Nat} {x y : Cl} {t : Int} (hx : cl[a]? = some x) (hy : cl[b]? = some y) (hxu : x.up = a) (hyu : y.up = b) (hne : a ≠ b) : ∀ {n c r : Nat}, findP n cl c = some r → findP (n + 1) (uni cl a b x y t) c = some (if r = b then a else r)
  | 0, _, _, h => by simp [findP] at h
  | n + 1, c, r, h => by
    have ha := (List.getElem?_eq_some_iff.1 hx).1
    have hb := (List.getElem?_eq_some_iff.1 hy).1
    have hra : ∀ m, findP (m + 1) (uni cl a b x y t) a = some a := fun m => findP_of_root (x := ⟨x.up, t, lst x y⟩) (by rw [uni_get ha hb, if_pos rfl]) hxu m
    simp only [findP] at h
    by_cases h1 : c = a
    · subst h1
      rw [hx] at h
      simp only at h
      rw [if_pos hxu] at h
      cases h
      rw [if_neg hne]
      exact hra _
    · by_cases h2 : c = b
      · subst h2
        rw [hy] at h
        simp only at h
        rw [if_pos hyu] at h
        cases h
        rw [if_pos rfl, findP, uni_get ha hb, if_neg h1, if_pos rfl]
        simp only
        rw [if_neg (by omega), if_pos (by omega)]
        exact hra _
      · cases hz : cl[c]? with
        | none => rw [hz] at h; cases h
        | some z =>
          rw [hz] at h
          simp only at h
          rw [findP, uni_get ha hb, if_neg h1, if_neg h2, hz]
          simp only
          by_cases h3 : z.up = c
          · rw [if_pos h3] at h ⊢
            cases h
            rw [if_neg h2]
          · rw [if_neg h3] at h ⊢
            by_cases h4 : 0 ≤ z.up
            · rw [if_pos h4] at h ⊢; exact findP_uni hx hy hxu hyu hne h
            · rw [if_neg h4] at h; cases h
/-- How many classes are joined with none. -/
def roots (cl : List Cl) : Nat := (List.range cl.length).countP fun (c : Nat) => decide (cl[c]?.map Cl.up = some (c : Int))
theorem countP_but {p q : Nat → Bool} {b : Nat} : ∀ {l : List Nat}, l.Nodup → b ∈ l → p b = true → q b = false → (∀ c, c ≠ b → q c = p c) → l.countP q + 1 = l.countP p
  | [], _, h, _, _, _ => by cases h
  | x :: l, hn, hm, hp, hq, he => by
    rw [List.nodup_cons] at hn
    by_cases hx : x = b
    · subst hx
      rw [List.countP_cons_of_pos hp, List.countP_cons_of_neg (by simp [hq])]
      congr 1
      exact List.countP_congr fun c hc => by rw [he c (by rintro rfl; exact hn.1 hc)]
    · have ih := countP_but hn.2 (by rcases List.mem_cons.1 hm with h | h; exact absurd h.symm hx; exact h) hp hq he
      by_cases hpx : p x = true
      · rw [List.countP_cons_of_pos hpx, List.countP_cons_of_pos (by rw [he x hx]; exact hpx)]
        omega
      · rw [List.countP_cons_of_neg hpx, List.countP_cons_of_neg (by rw [he x hx]; exact hpx)]
        exact ih
theorem roots_uni {cl : List Cl} {a b : Nat} {x y : Cl} {t : Int} (hx : cl[a]? = some x) (hy : cl[b]? = some y) (hxu : x.up = a) (hyu : y.up = b) (hne : a ≠ b) : roots (uni cl a b x y t) + 1 = roots cl := by
  have ha := (List.getElem?_eq_some_iff.1 hx).1
  have hb := (List.getElem?_eq_some_iff.1 hy).1
  unfold roots
  rw [uni_len]
  refine countP_but (b := b) List.nodup_range (List.mem_range.2 hb) ?_ ?_ fun c hc => ?_
  · simp [hy, hyu]
  · rw [uni_get ha hb, if_neg (Ne.symm hne), if_pos rfl]
    simp only [Option.map_some, Option.some.injEq, decide_eq_false_iff_not]
    omega
  · rw [uni_get ha hb]
    by_cases h1 : c = a
    · subst h1; rw [if_pos rfl]; simp [hx, hxu]
    · rw [if_neg h1, if_neg hc]
/-- What the classes keep. -/
structure CI (tm : List (Int × List Nat)) (cl : List Cl) : Prop where
  fd : ∀ c, c < cl.length → ∃ r, findP (cl.length + 1 - roots cl) cl c = some r
  up : ∀ (c : Nat) x, cl[c]? = some x → 0 ≤ x.up ∧ x.up.toNat < cl.length
  tr : ∀ (c : Nat) x, cl[c]? = some x → -1 ≤ x.term ∧ x.term < tm.length
  tl : ∀ (j : Nat) k s, tm[j]? = some (k, s) → s.length = prt k ∧ ∀ i ∈ s, i < cl.length
theorem CI.find {tm : List (Int × List Nat)} {cl : List Cl} (h : CI tm cl) {c : Nat} (hc : c < cl.length) : ∃ r x, findP (cl.length + 1) cl c = some r ∧ cl[r]? = some x ∧ x.up = r ∧ r < cl.length := by
  obtain ⟨r, hr⟩ := h.fd c hc
  have h1 := findP_mono hr (Nat.sub_le _ _)
  obtain ⟨x, h2, h3⟩ := findP_root h1
  exact ⟨r, x, h1, h2, h3, (List.getElem?_eq_some_iff.1 h2).1⟩
theorem roots_le (cl : List Cl) : roots cl ≤ cl.length := by
  unfold roots
  exact Nat.le_trans List.countP_le_length (by simp)
theorem CI.uni {tm : List (Int × List Nat)} {cl : List Cl} (h : CI tm cl) {a b : Nat} {x y : Cl} {t : Int} (hx : cl[a]? = some x) (hy : cl[b]? = some y) (hxu : x.up = a) (hyu : y.up = b) (hne : a ≠ b) (ht : -1 ≤ t ∧ t < tm.length) : CI tm (uni cl a b x y t) := by
  have ha := (List.getElem?_eq_some_iff.1 hx).1
  have hb := (List.getElem?_eq_some_iff.1 hy).1
  have hr := roots_uni (t := t) hx hy hxu hyu hne
  have hl := roots_le cl
  refine ⟨fun c hc => ?_, fun c z hz => ?_, fun c z hz => ?_, fun j k s hj => ?_⟩
  · rw [uni_len] at hc ⊢
    obtain ⟨r, h1⟩ := h.fd c hc
    have h2 := findP_uni (t := t) hx hy hxu hyu hne h1
    rw [show cl.length + 1 - roots (Ytjlmhfdigoogfaa.uni cl a b x y t) = cl.length + 1 - roots cl + 1 by omega]
    exact ⟨_, h2⟩
  · rw [uni_get ha hb] at hz
    rw [uni_len]
    split at hz
    · cases hz; simp only; omega
    · split at hz
      · cases hz; simp only; omega
      · exact h.up c z hz
  · rw [uni_get ha hb] at hz
    split at hz
    · cases hz; exact ht
    · split at hz
      · cases hz; exact h.tr b y hy
      · exact h.tr c z hz
  · rw [uni_len]; exact h.tl j k s hj
/-- A tree for each class. -/
def Mod (tm : List (Int × List Nat)) (cl : List Cl) (m : Nat → PT) : Prop := ∀ (c : Nat) x, cl[c]? = some x → m c = m x.up.toNat ∧ (x.up = c → ∀ k s, 0 ≤ x.term → tm[x.term.toNat]? = some (k, s) → m c = .mk k 0 (s.map m))
theorem Mod.find {tm : List (Int × List Nat)} {cl : List Cl} {m : Nat → PT} (h : Mod tm cl m) : ∀ {n c r : Nat}, findP n cl c = some r → m c = m r
  | 0, _, _, e => by simp [findP] at e
  | n + 1, c, r, e => by
    simp only [findP] at e
    cases hx : cl[c]? with
    | none => rw [hx] at e; cases e
    | some x =>
      rw [hx] at e
      simp only at e
      by_cases h1 : x.up = c
      · rw [if_pos h1] at e; cases e; rfl
      · rw [if_neg h1] at e
        by_cases h2 : 0 ≤ x.up
        · rw [if_pos h2] at e; exact (h c x hx).1.trans (h.find e)
        · rw [if_neg h2] at e; cases e
/-- The term of a class is t, if there is one. -/
def Tis (tm : List (Int × List Nat)) (m : Nat → PT) (c : Nat) (t : Int) : Prop := ∀ k s, 0 ≤ t → tm[t.toNat]? = some (k, s) → m c = .mk k 0 (s.map m)
theorem mod_uni {tm : List (Int × List Nat)} {cl : List Cl} {m : Nat → PT} {a b : Nat} {x y : Cl} {t : Int} (hx : cl[a]? = some x) (hy : cl[b]? = some y) (hxu : x.up = a) (hyu : y.up = b) (hne : a ≠ b) :
    Mod tm (uni cl a b x y t) m ∧ Tis tm m a x.term ∧ Tis tm m b y.term ↔ Mod tm cl m ∧ m a = m b ∧ Tis tm m a t := by
  have ha := (List.getElem?_eq_some_iff.1 hx).1
  have hb := (List.getElem?_eq_some_iff.1 hy).1
  constructor
  · rintro ⟨h, h1, h2⟩
    have hA := h a ⟨x.up, t, lst x y⟩ (by rw [uni_get ha hb, if_pos rfl])
    have hB := h b ⟨a, y.term, y.least⟩ (by rw [uni_get ha hb, if_neg (Ne.symm hne), if_pos rfl])
    have e : m b = m a := by have := hB.1; simpa using this
    refine ⟨fun c z hz => ?_, e.symm, hA.2 hxu⟩
    by_cases c1 : c = a
    · subst c1
      rw [hx] at hz; cases hz
      exact ⟨by rw [hxu]; rfl, fun _ => h1⟩
    · by_cases c2 : c = b
      · subst c2
        rw [hy] at hz; cases hz
        exact ⟨by rw [hyu]; rfl, fun _ => h2⟩
      · exact h c z (by rw [uni_get ha hb, if_neg c1, if_neg c2]; exact hz)
  · rintro ⟨h, e, h1⟩
    refine ⟨fun c z hz => ?_, (h a x hx).2 hxu, (h b y hy).2 hyu⟩
    rw [uni_get ha hb] at hz
    by_cases c1 : c = a
    · subst c1
      rw [if_pos rfl] at hz
      cases hz
      exact ⟨by simp only; rw [hxu]; rfl, fun _ => h1⟩
    · rw [if_neg c1] at hz
      by_cases c2 : c = b
      · subst c2
        rw [if_pos rfl] at hz
        cases hz
        exact ⟨by simpa using e.symm, fun h3 => absurd (Int.ofNat.inj h3) (Ne.symm c1)⟩
      · rw [if_neg c2] at hz
        exact h c z hz
/-- What a join says. -/
def JR (tm : List (Int × List Nat)) (cl : List Cl) (q : (Nat → PT) → Prop) (r : Bool) (cl' : List Cl) : Prop := CI tm cl' ∧ cl'.length = cl.length ∧ roots cl' ≤ roots cl ∧ (r = true → ∀ m, Mod tm cl' m ↔ Mod tm cl m ∧ q m) ∧ (r = false → ∀ m, Mod tm cl m → ¬ q m)
theorem joinL_ok {tm : List (Int × List Nat)} {f : List Cl → Nat → Nat → Option (Bool × List Cl)} {N R : Nat} (hf : ∀ cl, CI tm cl → cl.length = N → roots cl ≤ R → ∀ i j, i < N → j < N → ∃ r cl', f cl i j = some (r, cl') ∧ JR tm cl (fun m => m i = m j) r cl') :
    ∀ (s t : List Nat) (cl : List Cl), s.length = t.length → CI tm cl → cl.length = N → roots cl ≤ R → (∀ i ∈ s, i < N) → (∀ i ∈ t, i < N) → ∃ r cl', joinL f cl s t = some (r, cl') ∧ JR tm cl (fun m => s.map m = t.map m) r cl'
  | [], [], cl, _, hc, _, _, _, _ => ⟨true, cl, rfl, hc, rfl, Nat.le_refl _, fun _ m => by simp, fun h => by cases h⟩
  | [], _ :: _, _, h, _, _, _, _, _ => by simp at h
  | _ :: _, [], _, h, _, _, _, _, _ => by simp at h
  | i :: s, j :: t, cl, hl, hc, hn, hR, hs, ht => by
    obtain ⟨r, cl1, e, h1, h2, h3, h4, h5⟩ := hf cl hc hn hR i j (hs i (by simp)) (ht j (by simp))
    simp only [joinL, e]
    cases r with
    | false => exact ⟨false, cl1, rfl, h1, h2, h3, fun h => (by cases h), fun _ m hm hq => h5 rfl m hm (by simpa using (List.cons.inj (by simpa using hq : m i :: s.map m = m j :: t.map m)).1)⟩
    | true =>
      obtain ⟨r, cl2, e2, g1, g2, g3, g4, g5⟩ := joinL_ok hf s t cl1 (by simpa using hl) h1 (h2.trans hn) (by omega) (fun x hx => hs x (by simp [hx])) (fun x hx => ht x (by simp [hx]))
      refine ⟨r, cl2, e2, g1, g2.trans h2, by omega, fun h m => ?_, fun h m hm hq => ?_⟩
      · rw [g4 h m, h4 rfl m]; simp [and_assoc]
      · simp only [List.map_cons, List.cons.injEq] at hq
        exact g5 h m ((h4 rfl m).2 ⟨hm, hq.1⟩) hq.2
theorem joinP_ok {tm : List (Int × List Nat)} : ∀ (n : Nat) (cl : List Cl), CI tm cl → roots cl ≤ n → ∀ a b, a < cl.length → b < cl.length → ∃ r cl', joinP (n + 1) tm cl a b = some (r, cl') ∧ JR tm cl (fun m => m a = m b) r cl' := by
  intro n
  induction n with
  | zero =>
    intro cl hc hr a b ha hb
    exfalso
    obtain ⟨r, x, -, h2, h3, h4⟩ := hc.find ha
    have : 0 < roots cl := by
      unfold roots
      exact List.countP_pos_iff.2 ⟨r, List.mem_range.2 h4, by simp [h2, h3]⟩
    omega
  | succ n ih =>
    intro cl hc hr a0 b0 ha0 hb0
    obtain ⟨a, x, fa, hx, hxu, ha⟩ := hc.find ha0
    obtain ⟨b, y, fb, hy, hyu, hb⟩ := hc.find hb0
    have hab : ∀ m, Mod tm cl m → (m a0 = m b0 ↔ m a = m b) := fun m hm => by rw [hm.find fa, hm.find fb]
    rw [joinP]
    simp only [fa, fb]
    by_cases hne : a = b
    · rw [if_pos hne]
      exact ⟨true, cl, rfl, hc, rfl, Nat.le_refl _, fun _ m => ⟨fun hm => ⟨hm, (hab m hm).2 (by rw [hne])⟩, fun h => h.1⟩, fun h => by cases h⟩
    · rw [if_neg hne]
      simp only [hx, hy]
      have tx := hc.tr a x hx
      have ty := hc.tr b y hy
      have ru := fun t => roots_uni (t := t) hx hy hxu hyu hne
      have mu := fun m t => mod_uni (tm := tm) (m := m) (t := t) hx hy hxu hyu hne
      by_cases hy0 : y.term < 0
      · rw [if_pos hy0]
        refine ⟨true, _, rfl, hc.uni hx hy hxu hyu hne tx, uni_len _ _ _ _ _ _, by have := ru x.term; omega, fun _ m => ⟨fun hm => ?_, fun ⟨hm, he⟩ => ?_⟩, fun h => by cases h⟩
        · have h1 : Tis tm m a x.term := by
            have := (hm a ⟨x.up, x.term, lst x y⟩ (by rw [uni_get ha hb, if_pos rfl])).2 hxu
            exact this
          have h2 := (mu m x.term).1 ⟨hm, h1, fun k s h => by omega⟩
          exact ⟨h2.1, (hab m h2.1).2 h2.2.1⟩
        · exact ((mu m x.term).2 ⟨hm, (hab m hm).1 he, (hm a x hx).2 hxu⟩).1
      · rw [if_neg hy0]
        by_cases hx0 : x.term < 0
        · rw [if_pos hx0]
          refine ⟨true, _, rfl, hc.uni hx hy hxu hyu hne ty, uni_len _ _ _ _ _ _, by have := ru y.term; omega, fun _ m => ⟨fun hm => ?_, fun ⟨hm, he⟩ => ?_⟩, fun h => by cases h⟩
          · have h1 : Tis tm m a y.term := (hm a ⟨x.up, y.term, lst x y⟩ (by rw [uni_get ha hb, if_pos rfl])).2 hxu
            have e : m b = m a := by have := (hm b ⟨a, y.term, y.least⟩ (by rw [uni_get ha hb, if_neg (Ne.symm hne), if_pos rfl])).1; simpa using this
            have h2 := (mu m y.term).1 ⟨hm, fun k s h => by omega, fun k s h hk => e.trans (h1 k s h hk)⟩
            exact ⟨h2.1, (hab m h2.1).2 h2.2.1⟩
          · have e := (hab m hm).1 he
            exact ((mu m y.term).2 ⟨hm, e, fun k s h hk => e.trans ((hm b y hy).2 hyu k s h hk)⟩).1
        · rw [if_neg hx0]
          obtain ⟨⟨k, s⟩, hs⟩ : ∃ s, tm[x.term.toNat]? = some s := ⟨_, List.getElem?_eq_getElem (by omega)⟩
          obtain ⟨⟨k', t⟩, ht⟩ : ∃ t, tm[y.term.toNat]? = some t := ⟨_, List.getElem?_eq_getElem (by omega)⟩
          simp only [hs, ht]
          have hc1 := hc.uni hx hy hxu hyu hne tx
          have hr1 := ru x.term
          have two : ∀ m, Mod tm cl m → m a0 = m b0 → Mod tm (uni cl a b x y x.term) m ∧ k = k' ∧ s.map m = t.map m := fun m hm he => by
            have e := (hab m hm).1 he
            have h1 := (hm a x hx).2 hxu k s (by omega) hs
            have h2 := (hm b y hy).2 hyu k' t (by omega) ht
            have h3 := (h1.symm.trans e).trans h2
            exact ⟨((mu m x.term).2 ⟨hm, e, (hm a x hx).2 hxu⟩).1, (PT.mk.inj h3).1, (PT.mk.inj h3).2.2⟩
          by_cases hk : k = k'
          · subst hk
            rw [if_pos rfl]
            obtain ⟨r, cl', e, g1, g2, g3, g4, g5⟩ := joinL_ok (tm := tm) (f := joinP (n + 1) tm) (N := cl.length) (R := n) (fun cl2 h1 h2 h3 i j hi hj => ih cl2 h1 h3 i j (by rw [h2]; exact hi) (by rw [h2]; exact hj)) s t (uni cl a b x y x.term) ((hc.tl _ _ _ hs).1.trans (hc.tl _ _ _ ht).1.symm) hc1 (uni_len _ _ _ _ _ _) (by omega) (hc.tl _ _ _ hs).2 (hc.tl _ _ _ ht).2
            refine ⟨r, cl', e, g1, g2.trans (uni_len _ _ _ _ _ _), by omega, fun h m => ?_, fun h m hm he => ?_⟩
            · rw [g4 h m]
              constructor
              · rintro ⟨hm, he⟩
                have h1 : Tis tm m a x.term := (hm a ⟨x.up, x.term, lst x y⟩ (by rw [uni_get ha hb, if_pos rfl])).2 hxu
                have e2 : m b = m a := by have := (hm b ⟨a, y.term, y.least⟩ (by rw [uni_get ha hb, if_neg (Ne.symm hne), if_pos rfl])).1; simpa using this
                have h2 := (mu m x.term).1 ⟨hm, h1, fun k2 s2 h3 h4 => by rw [ht] at h4; cases h4; rw [e2, h1 k s (by omega) hs, he]⟩
                exact ⟨h2.1, (hab m h2.1).2 h2.2.1⟩
              · rintro ⟨hm, he⟩
                exact ⟨(two m hm he).1, (two m hm he).2.2⟩
            · exact g5 h m (two m hm he).1 (two m hm he).2.2
          · rw [if_neg (by simpa using hk)]
            exact ⟨false, _, rfl, hc1, uni_len _ _ _ _ _ _, by omega, fun h => (by cases h), fun _ m hm he => hk (two m hm he).2.1⟩
end Go.Proofs.Ytjlmhfdigoogfaa

/- Maps in the order in which they were filled, whatever the type of their keys. -/
import Derived.Test.YtiaenhlflgobfaaGreatDoorMis
import Derived.MapKept
import Derived.Maps.Keyed
namespace Go.Proofs.YtiaenhlflgobfaaGreatDoor
open Go.RowKit Go.Maps
structure KT {κ : Type} (kt : TypeId) (kv : κ → Value) (ok : κ → Prop) : Prop where
  K : Keyed Tryz.prog kt
  lit : ∀ k, ok k → ∃ l, keyOf Tryz.prog kt (kv k) = some l
  inj : ∀ a b, kv a = kv b → a = b
abbrev MK (κ : Type) := List (κ × Value)
section
variable {κ : Type} {kt : TypeId} {kv : κ → Value} {ok : κ → Prop}
def ensK (kv : κ → Value) : Nat → MK κ → List MapEntry
  | _, [] => []
  | j, p :: l => { key := kv p.1, val := p.2, born := j } :: ensK kv (j + 1) l
def fndK [DecidableEq κ] (k : κ) : MK κ → Nat → Option (Nat × Value)
  | [], _ => none
  | p :: l, i => if k = p.1 then some (i, p.2) else fndK k l (i + 1)
def kget [DecidableEq κ] (l : MK κ) (k : κ) : Option Value := (fndK k l 0).map (·.2)
theorem ensK_app (k : κ) (v : Value) : ∀ (l : MK κ) (j : Nat), ensK kv j (l ++ [(k, v)]) = ensK kv j l ++ [{ key := kv k, val := v, born := j + l.length }]
  | [], _ => rfl
  | _ :: l, j => by simp [ensK, ensK_app k v l]; omega
theorem ensK_at : ∀ (l : MK κ) (j i : Nat), (ensK kv j l)[i]? = l[i]?.map fun p => { key := kv p.1, val := p.2, born := j + i }
  | [], _, _ => by simp [ensK]
  | p :: l, j, 0 => by simp [ensK]
  | p :: l, j, i + 1 => by simp [ensK, ensK_at l]; congr 1; funext q; congr 1; omega
theorem fndK_none [DecidableEq κ] {k : κ} : ∀ {l : MK κ} {i : Nat}, (∀ p ∈ l, p.1 ≠ k) → fndK k l i = none
  | [], _, _ => rfl
  | p :: l, i, h => by
    rw [fndK, if_neg (fun e => h p (by simp) e.symm)]
    exact fndK_none fun q hq => h q (by simp [hq])
theorem fndK_of [DecidableEq κ] {k : κ} {v : Value} : ∀ {l : MK κ} {i j : Nat}, (l.map (·.1)).Nodup → l[j]? = some (k, v) → fndK k l i = some (i + j, v)
  | [], _, _, _, e => by simp at e
  | p :: l, i, 0, _, e => by
    simp only [List.getElem?_cons_zero, Option.some.injEq] at e
    subst e
    simp [fndK]
  | p :: l, i, j + 1, h, e => by
    rw [List.map_cons, List.nodup_cons] at h
    have e' : l[j]? = some (k, v) := by simpa using e
    have hne : k ≠ p.1 := fun e2 => h.1 (by rw [← e2]; exact List.mem_map.2 ⟨(k, v), List.mem_of_getElem? e', rfl⟩)
    rw [fndK, if_neg hne, fndK_of h.2 e']
    congr 2
    omega
structure LK (ok : κ → Prop) (l : MK κ) : Prop where
  ok : ∀ p ∈ l, ok p.1
  nd : (l.map (·.1)).Nodup
theorem findKey_k [DecidableEq κ] (h : KT kt kv ok) {l : MK κ} (hl : LK ok l) {k : κ} (hk : ok k) (j : Nat) (w : World) : (Instr.findKey kt (kv k) (ensK kv j l)).run Tryz.prog w = .ok (fndK k l 0) w := by
  obtain ⟨lx, hx⟩ := h.lit k hk
  rcases h.K.find w hx (ensK kv j l) (fun e he => by
    obtain ⟨i, hi⟩ := List.getElem?_of_mem he
    rw [ensK_at] at hi
    obtain ⟨p, hp, rfl⟩ := Option.map_eq_some_iff.1 hi
    exact h.lit p.1 (hl.ok p (List.mem_of_getElem? hp))) with ⟨h1, h2⟩ | ⟨i, e, h1, h2, h3⟩
  · rw [h1, fndK_none fun p hp e => ?_]
    obtain ⟨i, hi⟩ := List.getElem?_of_mem hp
    have h3 : (ensK kv j l)[i]? = some { key := kv p.1, val := p.2, born := j + i } := by rw [ensK_at, hi]; rfl
    exact h2 _ (List.mem_of_getElem? h3) (by rw [e])
  · rw [ensK_at] at h2
    obtain ⟨p, hp, rfl⟩ := Option.map_eq_some_iff.1 h2
    have hpk : p.1 = k := h.inj _ _ h3
    rw [h1, fndK_of (v := p.2) hl.nd (by rw [hp, ← hpk]), Nat.zero_add]
def MP (kv : κ → Value) (w : World) (b : Nat) (l : MK κ) : Prop := w.heap[b]? = some (.map (ensK kv 0 l).toArray l.length)
def setM (kv : κ → Value) (w : World) (b : Nat) (l : MK κ) : World := { w with heap := w.heap.setIfInBounds b (.map (ensK kv 0 l).toArray l.length) }
theorem MP.lt {w : World} {b : Nat} {l : MK κ} (h : MP kv w b l) : b < w.heap.size := heap_lt h
theorem MP.keep {w V : World} {b : Nat} {l : MK κ} (h : MP kv w b l) (hk : V.heap[b]? = w.heap[b]?) : MP kv V b l := hk.trans h
theorem MP.made (kv : κ → Value) (w : World) : MP kv (w.alloc (.map #[] 0)) w.heap.size [] := World.alloc_heap_new w _
theorem MP.set {w : World} {b : Nat} {l m : MK κ} (h : MP kv w b l) : MP kv (setM kv w b m) b m := by
  unfold MP setM
  simp [h.lt]
theorem setM_other {w : World} {b j : Nat} {m : MK κ} (h : j ≠ b) : (setM kv w b m).heap[j]? = w.heap[j]? := by
  unfold setM
  simp [Ne.symm h]
theorem grown_setM (w : World) (b : Nat) (m : MK κ) : w.grownBy (setM kv w b m) (some b) := ⟨rfl, rfl, rfl, by simp [setM], fun i _ hne => setM_other (by rintro rfl; exact hne rfl)⟩
theorem lookup_k [DecidableEq κ] (h : KT kt kv ok) {w : World} {b : Nat} {l : MK κ} (hm : MP kv w b l) (hl : LK ok l) {t e : TypeId} {z : Value} (ht : Tryz.prog.underlying t = some (.map kt e)) (hz : (zeroValue e).run Tryz.prog w = .ok z w) {k : κ} (hk : ok k) :
    (Instr.lookup t (.map (some b)) (kv k) false).run Tryz.prog w = .ok ((kget l k).getD z) w ∧ (Instr.lookup t (.map (some b)) (kv k) true).run Tryz.prog w = .ok (.tuple #[(kget l k).getD z, .bool (kget l k).isSome]) w := by
  have hf := findKey_k h hl hk 0 w
  obtain ⟨lx, hx⟩ := h.lit k hk
  have hc := fun em => h.K.check w em hx
  have hg := Go.MapKept.run_getObj_map (P := Tryz.prog) hm
  unfold Instr.lookup
  unfold kget
  cases hq : fndK k l 0 with
  | none =>
    rw [hq] at hf
    simp [run_underlying ht, hg, hc, hf, hz, Result.andThen]
  | some p =>
    obtain ⟨i, v⟩ := p
    rw [hq] at hf
    simp [run_underlying ht, hg, hc, hf, Result.andThen]
theorem update_k [DecidableEq κ] (h : KT kt kv ok) {w : World} {b : Nat} {l : MK κ} (hm : MP kv w b l) (hl : LK ok l) {t e : TypeId} (ht : Tryz.prog.underlying t = some (.map kt e)) {k : κ} (hk : ok k) (hn : fndK k l 0 = none) (v : Value) :
    (Instr.mapUpdate t (.map (some b)) (kv k) v).run Tryz.prog w = .ok () (setM kv w b (l ++ [(k, v)])) := by
  have hf := findKey_k h hl hk 0 w
  obtain ⟨lx, hx⟩ := h.lit k hk
  have hc := fun em => h.K.check w em hx
  have hg := Go.MapKept.run_getObj_map (P := Tryz.prog) hm
  have hs := fun o => Go.MapKept.run_setObj_map (P := Tryz.prog) o hm
  unfold Instr.mapUpdate
  unfold setM
  rw [hn] at hf
  simp [run_underlying ht, hg, hc, hf, hs, Result.andThen, ensK_app]
theorem fndK_mem [DecidableEq κ] {k : κ} : ∀ {l : MK κ} {i : Nat}, fndK k l i = none ↔ ∀ p ∈ l, p.1 ≠ k
  | [], _ => by simp [fndK]
  | p :: l, i => by
    by_cases hk : k = p.1
    · simp [fndK, hk]
    · simp [fndK, hk, fndK_mem (l := l), Ne.symm hk]
theorem LK.nil : LK ok ([] : MK κ) := ⟨by simp, by simp⟩
theorem LK.snoc [DecidableEq κ] {l : MK κ} (h : LK ok l) {k : κ} (hk : ok k) (hn : fndK k l 0 = none) (v : Value) : LK ok (l ++ [(k, v)]) := by
  refine ⟨fun p hp => ?_, ?_⟩
  · rcases List.mem_append.1 hp with hp | hp
    · exact h.ok p hp
    · simp at hp; subst hp; exact hk
  · rw [List.map_append, List.nodup_append]
    refine ⟨h.nd, by simp, fun a ha b hb => ?_⟩
    simp at hb
    subst hb
    obtain ⟨p, hp, rfl⟩ := List.mem_map.1 ha
    exact fndK_mem.1 hn p hp
end
end Go.Proofs.YtiaenhlflgobfaaGreatDoor

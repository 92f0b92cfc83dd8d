/- Maps whose keys are texts; a key that is there is filled again with the same. -/
import Derived.Test.YtiaenhlflgobfaaGreatDoorMpk
namespace Go.Proofs.YtiaenhlflgobfaaGreatDoor
open Go.RowKit Go.Maps
theorem ktT : KT (κ := T) 9 tv sOk where
  K := string_keyed Tryz.underlying9
  lit k hk := by
    have hk' : k.length ≤ 9223372036854775807 := hk
    refine ⟨.string k, ?_⟩
    unfold keyOf
    rw [Tryz.underlying9]
    simp [mapKey, ByteArray.size, maxLen, hk']
  inj a b h := by simpa using h
section
variable {κ : Type} {kt : TypeId} {kv : κ → Value} {ok : κ → Prop}
theorem fndK_some [DecidableEq κ] {k : κ} {v : Value} {q : Nat} : ∀ {l : MK κ} {i : Nat}, fndK k l i = some (q, v) → ∃ j, q = i + j ∧ l[j]? = some (k, v)
  | [], _, h => by cases h
  | p :: l, i, h => by
    rw [fndK] at h
    split at h
    · rename_i hk
      simp only [Option.some.injEq, Prod.mk.injEq] at h
      obtain ⟨rfl, rfl⟩ := h
      exact ⟨0, by omega, by rw [hk]; rfl⟩
    · obtain ⟨j, h1, h2⟩ := fndK_some h
      exact ⟨j + 1, by omega, by simpa using h2⟩
theorem update_same [DecidableEq κ] (h : KT kt kv ok) {w : World} {b : Nat} {l : MK κ} (hm : MP kv w b l) (hl : LK ok l) {t e : TypeId} (ht : Tryz.prog.underlying t = some (.map kt e)) {k : κ} (hk : ok k) {q : Nat} {v : Value} (hn : fndK k l 0 = some (q, v)) (hs2 : ∀ w, (Instr.keyThatStays (kv k) (kv k)).run Tryz.prog w = .ok (kv k) w) :
    (Instr.mapUpdate t (.map (some b)) (kv k) v).run Tryz.prog w = .ok () (setM kv w b l) := by
  have hf := findKey_k h hl hk 0 w
  obtain ⟨lx, hx⟩ := h.lit k hk
  have hc := fun em => h.K.check w em hx
  have hg := Go.MapKept.run_getObj_map (P := Tryz.prog) hm
  have hs := fun o => Go.MapKept.run_setObj_map (P := Tryz.prog) o hm
  obtain ⟨j, rfl, hj⟩ := fndK_some hn
  have h6 : (ensK kv 0 l)[j]? = some { key := kv k, val := v, born := j } := by rw [ensK_at, hj, Nat.zero_add]; rfl
  have h7 : ((Option.map (fun x : MapEntry => x.key) (ensK kv 0 l)[j]?).getD (kv k)) = kv k := by rw [h6]; rfl
  have h8 : ((ensK kv 0 l).modify j fun e => { key := kv k, val := v, born := e.born }) = ensK kv 0 l := by
    refine List.ext_getElem? (fun i => ?_)
    rw [List.getElem?_modify]
    by_cases hi : j = i
    · subst hi; rw [h6]; simp
    · simp [hi]
  unfold Instr.mapUpdate
  unfold setM
  rw [hn] at hf
  simp [run_underlying ht, hg, hc, hf, hs, h7, h8, hs2, Result.andThen]
theorem text_stays (s : T) (w : World) : (Instr.keyThatStays (tv s) (tv s)).run Tryz.prog w = .ok (tv s) w := by
  have h : ((⟨s.toArray⟩ : ByteArray) == ⟨s.toArray⟩) = true := by
    first | exact beq_self_eq_true _ | (show (s.toArray == s.toArray) = true; simp) | (simp [BEq.beq])
  simp [Instr.keyThatStays, Instr.sameBits, h]
end
end Go.Proofs.YtiaenhlflgobfaaGreatDoor

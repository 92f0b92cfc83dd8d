/- maps.Keys and slices.Sorted at this program, by the contracts of the shelf. -/
import Derived.Test.YtgenloemohcpcaaLays
import Derived.Test.YtgenloemohcpcaaClone
namespace Go.Proofs.Ytgenloemohcpcaa
open Go.RowKit Go.Maps Go.Sort Go.Shelf Go.Proofs

/-- slices.Sort's two contracts at this dump, at the fence that asks nothing. -/
theorem It.sorts31 (m : Nat) : AnyZ.SortsIn Try.prog Try.sorted31_ren Fence.wide m :=
  ⟨fun blk off cap ss W hH hblk hsz => callsIn_wide.2 (AnyM.slices_Sort_string Try.sort44 blk off cap ss W hH hblk hsz),
   fun p cap W => callsIn_wide.2 (AnyM.slices_Sort_string_none Try.sort44 p cap W)⟩

/-- **maps.Keys[map[string]int,string,int], at whatever map, the nil one too:** a function value over ONE NEW BLOCK, which holds the map. -/
theorem It.maps_Keys_32 (mb : Option Nat) (W : World) : CallsIn Fence.wide 5 Try.prog 32 #[.map mb] W fun e w' => e = .returned (.func (.func 45) #[] #[.pointer (some ⟨W.heap.size, 0, none⟩)]) ∧ w' = W.alloc (.cells #[.map mb] 48) :=
  AnyZ.keys_in Try.keys32 Fence.wide 5 trivial rfl mb W

set_option maxHeartbeats 1000000 in
/-- **slices.Sorted[string] AT WHAT maps.Keys[map[string]int,string,int] HANDED BACK FOR A MAP THAT IS NOT nil** ('w': the world AHEAD of maps.Keys' call): A NEW SLICE THAT HOLDS THE MAP's KEYS, SORTED; nil just where it has none; nothing that lay before has turned. -/
theorem It.slices_Sorted_keys_31_32 {H : Type} (b nn : Nat) (D0 : DataW H) (R : Value → Option (DataW H × List MemPlace)) (w : World) (hown : w.ownsMap Try.prog 9 R b nn D0) (hmax : Maps.size D0 ≤ maxLen) (hbytes : Maps.size D0 * 16 ≤ 140737488355328) :
    CallsIn Fence.wide 5 Try.prog 31 #[.func (.func 45) #[] #[.pointer (some ⟨w.heap.size, 0, none⟩)]] (w.alloc (.cells #[.map (some b)] 48)) fun e w' => ∃ (v : Value) (ss : List (List UInt8)), e = .returned v ∧ ss.Perm (strKeys D0) ∧
      w'.ownsRow (w.alloc (.cells #[.map (some b)] 48)).heap.size 9 1 v ss.length ((ss.mergeSort (fun x y => decide (x ≤ y))).map encStr) ∧ (v = .slice none 0 0 ↔ ss = []) ∧ Below (w.alloc (.cells #[.map (some b)] 48)).heap.size (w.alloc (.cells #[.map (some b)] 48)) w' := by
  have hbl := hown.lt
  have hseq : SeqGives Fence.wide 2 Try.prog 45 #[.pointer (some ⟨w.heap.size, 0, none⟩)] encStr (fun ss => ss.Perm (strKeys D0)) (Maps.size D0) (w.alloc (.cells #[.map (some b)] 48)) :=
    AnyZ.keys_gives (ρ := Try.keys32_ren) { Try.keys32 with } Fence.wide _ trivial rfl (by omega) w.heap.size b nn D0 _ (by simp) (by simp) (by
      obtain ⟨es, clock, hb, Ft, hs, hD⟩ := hown
      exact ⟨es, clock, (Below.heap_alloc _ _ b hbl).trans hb, Ft, hs, hD⟩)
  exact AnyZ.sorted_in Try.sorted31 Fence.wide 5 trivial trivial trivial trivial rfl (by omega) (It.sorts31 _) (enters_of Try.func44 (by kernel_rfl) rfl) 45 #[.pointer (some ⟨w.heap.size, 0, none⟩)] trivial (enters_of Try.func45 (by kernel_rfl) rfl) _ _ hmax hbytes _ hseq


theorem keys_any (mb : Option Nat) (W : World) : Calls Try.prog 32 #[.map mb] W fun e w' => e = .returned (.func (.func 45) #[] #[.pointer (some ⟨W.heap.size, 0, none⟩)]) ∧ W.alloc (.cells #[.map mb] 48) = w' :=
  (callsIn_wide.1 (It.maps_Keys_32 mb W)).mono fun _ _ h => ⟨h.1, h.2.symm⟩

theorem own_keys {w : World} {bm n : Nat} {D : DataW Unit} (h : w.ownsMap Try.prog 9 (plainElem Try.prog 3) bm n D) : (strKeys D).Nodup ∧ (∀ x, has D (.string x) = true → x ∈ strKeys D) ∧ ∀ x ∈ strKeys D, keyOf Try.prog 9 (tv x) = some (.string x) := by
  obtain ⟨es, e, hk⟩ := h.keysOf
  obtain ⟨es', e', hp, _⟩ := h.entries law9
  subst e
  have ee : es = es' := by injection e'
  subst ee
  have hs : ∀ p ∈ es, ∃ x, p.1 = .string x := by
    intro p hp'
    obtain ⟨v, hv⟩ := hk p hp'
    obtain ⟨x, _, hx, _⟩ := Maps.keyOf_str (P := Try.prog) Try.underlying9 hv
    exact ⟨x, hx⟩
  refine ⟨?_, ?_, ?_⟩
  · show (es.map fun p => strOf p.1).Nodup
    refine List.pairwise_map.2 (List.Pairwise.imp_of_mem (fun {p q} hp' hq' hne e => hne ?_) hp)
    obtain ⟨a, ha⟩ := hs p hp'
    obtain ⟨b, hb⟩ := hs q hq'
    rw [ha, hb] at e ⊢
    exact congrArg _ e
  · intro x hx
    rw [has_eq, List.any_eq_true] at hx
    obtain ⟨p, hp', hq⟩ := hx
    obtain ⟨a, ha⟩ := hs p hp'
    show x ∈ es.map fun p => strOf p.1
    refine List.mem_map.2 ⟨p, hp', ?_⟩
    rw [ha] at hq ⊢
    simpa [Lit.sameKey, strOf] using hq
  · intro x hx
    obtain ⟨p, hp', rfl⟩ := List.mem_map.1 hx
    obtain ⟨v, hv⟩ := hk p hp'
    obtain ⟨y, e1, e2, _⟩ := Maps.keyOf_str (P := Try.prog) Try.underlying9 hv
    rw [e2] at hv ⊢
    rw [e1] at hv
    exact hv

/-- What slices.Sorted hands back: the keys of a map that counts, sorted. -/
def KeysPost (w : World) (n : Nat) (cnt : T → Int) (e : Ending) (w' : World) : Prop :=
  ∃ v ks, e = .returned v ∧ OT w' w.heap.size v ks ∧ Srt ks ∧ ks.Nodup ∧ (∀ x, x ∉ ks → cnt x = 0) ∧ (∀ x ∈ ks, keyOf Try.prog 9 (tv x) = some (.string x)) ∧ ks.length ≤ n ∧ Below w.heap.size w w'

theorem sorted_any (bm n : Nat) (cnt : T → Int) (w : World) (h : MapSt w bm n cnt) (hn : n ≤ 1000000) :
    Calls Try.prog 31 #[.func (.func 45) #[] #[.pointer (some ⟨w.heap.size, 0, none⟩)]] (w.alloc (.cells #[.map (some bm)] 48)) (KeysPost (w.alloc (.cells #[.map (some bm)] 48)) n cnt) := by
  obtain ⟨D, hown, hD⟩ := h
  have hsz := hown.size_le
  refine (callsIn_wide.1 (It.slices_Sorted_keys_31_32 bm n D _ w hown (by unfold maxLen; omega) (by omega))).mono ?_
  rintro e w' ⟨v, ss, rfl, hp, hrow, _, hb⟩
  have ho := own_keys hown
  have tr : ∀ a b c : List UInt8, leB a b = true → leB b c = true → leB a c = true := fun a b c h1 h2 => by simp only [leB, decide_eq_true_eq] at *; exact List.le_trans h1 h2
  have to : ∀ a b : List UInt8, (leB a b || leB b a) = true := fun a b => by simp only [leB, Bool.or_eq_true, decide_eq_true_eq]; exact List.le_total a b
  have pm := (List.mergeSort_perm ss leB).trans hp
  refine ⟨v, ss.mergeSort leB, rfl, ?_, ?_, ?_, ?_, ?_, ?_, hb⟩
  · show w'.ownsRow _ 9 1 v (ss.mergeSort leB).length ((ss.mergeSort leB).map encStr)
    rw [List.length_mergeSort]
    exact hrow
  · have := List.pairwise_mergeSort tr to ss
    exact this.imp fun h => by simpa [leB] using h
  · exact (pm.nodup_iff).2 ho.1
  · intro x hx
    refine hD.out ?_
    rw [← Bool.not_eq_true]
    exact fun h => hx (pm.mem_iff.2 (ho.2.1 x h))
  · exact fun x hx => ho.2.2 x (pm.mem_iff.1 hx)
  · rw [pm.length_eq]
    have : (strKeys D).length = Maps.size D := by
      obtain ⟨es, rfl⟩ := hown.isMap
      simp [strKeys, Maps.size]
    omega
end Go.Proofs.Ytgenloemohcpcaa

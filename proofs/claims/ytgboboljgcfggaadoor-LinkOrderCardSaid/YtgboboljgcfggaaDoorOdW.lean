/- Words: rows of codes that a call owns: copied, turned, with one left out; walks: slices.Clone and slices.Reverse of codes. -/
import Derived.Test.YtgboboljgcfggaaDoorM7
import Derived.Test.YtgboboljgcfggaaDoorReL
namespace Go.Proofs.YtgboboljgcfggaaDoor
open Go.RowKit Go.Sort

instance : Inhabited Cod := ⟨⟨[], none, 0, [], none, 0, []⟩⟩
theorem elC : EL 22 49 3 Cod.cs where
  hn _ := rfl
  h1 x u hu := by
    simp only [Cod.cs, List.mem_cons, List.not_mem_nil, or_false] at hu
    rcases hu with rfl | rfl | rfl <;> rfl
  ht := Tryd.underlying22
  hi := ⟨.agg #[.string ⟨#[]⟩, .slice none 0 0, .slice none 0 0], 64, by kernel_rfl, rfl, by decide⟩
  h0 := by decide
theorem flatK_of {α : Type} [Inhabited α] {cs : α → List Value} {k : Nat} (hk : ∀ x, (cs x).length = k) (k0 : 0 < k) (L : List α) : (flatK cs k L.toArray).toList = L.flatMap cs := by
  apply List.ext_getElem?
  intro t
  have hs : (flatK cs k L.toArray).toList.length = L.length * k := by simp
  by_cases ht : t < L.length * k
  · have e0 : t / k < L.length := Nat.div_lt_of_lt_mul (by rw [Nat.mul_comm]; exact ht)
    have e1 : t % k < k := Nat.mod_lt _ k0
    have e2 : t / k * k + t % k = t := by rw [Nat.mul_comm]; exact Nat.div_add_mod t k
    have h1 := get_flatK cs k L.toArray t (by simpa using ht)
    have h2 := flat_at cs k hk e1 L (t / k) (List.getElem?_eq_getElem e0)
    rw [e2] at h2
    rw [h2, Array.getElem?_toList, Array.getElem?_eq_getElem (by simpa using ht)]
    rw [getElem!_pos (flatK cs k L.toArray) t (by simpa using ht)] at h1
    rw [h1, getElem!_pos L.toArray (t / k) (by simpa using e0)]
    have e3 : t % k < (cs L[t / k]).length := by rw [hk]; exact e1
    rw [List.getElem?_eq_getElem e3, List.getElem_toArray]
    exact congrArg some (getElem!_pos (cs L[t / k]) (t % k) e3)
  · rw [List.getElem?_eq_none (by rw [hs]; omega), List.getElem?_eq_none (by rw [flat_len cs k hk]; omega)]
theorem put_rowK {α : Type} [Inhabited α] {e : TypeId} {k : Nat} {cs : α → List Value} (hk : ∀ x, (cs x).length = k) (k0 : 0 < k) {B g cap n : Nat} {L M : List α} {w : World} (o : OR e k cs w B (.slice (some ⟨g, 0, none⟩) n cap) L) (hn : L.length = n) (hm : M.length = n) (q : Nat) :
    OR e k cs (putRowK cs k (Sort.ahead w q) g 0 M.toArray) B (.slice (some ⟨g, 0, none⟩) n cap) M ∧ w.grownBy (putRowK cs k (Sort.ahead w q) g 0 M.toArray) (some g) := by
  have hlt := (o.lt g rfl).2
  have gr : w.grownBy (putRowK cs k (Sort.ahead w q) g 0 M.toArray) (some g) := by
    refine ⟨rfl, rfl, rfl, ?_, fun j hj hne => ?_⟩
    · simp [putRowK, Sort.putRow, Sort.mapBlock, Sort.ahead]
    · simp only [putRowK, Sort.putRow, Sort.mapBlock, Sort.ahead, Array.getElem?_modify]
      rw [if_neg (fun e => hne (by rw [e]))]
  refine ⟨?_, gr⟩
  have h2 := o
  unfold OR at h2 ⊢
  rw [hn] at h2
  rw [hm]
  obtain ⟨e0, e1⟩ := h2
  refine ⟨by rw [flat_len cs k hk, hm], ?_⟩
  rcases e1 with ⟨e1, -⟩ | ⟨g', cap', cur, e1, hb, hh, hnc, hmx, hs, hx⟩
  · cases e1
  · simp only [Value.slice.injEq, Option.some.injEq, Addr.mk.injEq, and_true, true_and] at e1
    obtain ⟨rfl, rfl⟩ := e1
    refine .inr ⟨g, cap, Sort.putCells id 0 (flatK cs k M.toArray) cur, rfl, hb, ?_, hnc, hmx, by simpa [Sort.putCells] using hs, ?_⟩
    · simp only [putRowK, Sort.putRow, Sort.mapBlock, Sort.ahead, Array.getElem?_modify, if_true, hh, Option.map_some, Sort.onCells]
    · rw [← flatK_of hk k0]
      apply List.ext_getElem?
      intro t
      have hsz : (flatK cs k M.toArray).size = n * k := by simp [hm]
      have hmul := Nat.mul_le_mul_right k hnc
      rw [List.getElem?_take]
      by_cases ht : t < n * k
      · rw [if_pos ht]
        have hc : t < cur.size := by omega
        rw [Array.getElem?_toList, Array.getElem?_toList, Array.getElem?_eq_getElem (by simpa [Sort.putCells] using hc), Array.getElem?_eq_getElem (by omega)]
        simp only [Sort.putCells, Array.getElem_mapIdx]
        rw [if_pos (by omega), Nat.sub_zero, getElem!_pos _ _ (by omega)]
        rfl
      · rw [if_neg ht, List.getElem?_eq_none (by simp [hm]; omega)]
/-- Reverse of a row of codes of the call's own. -/
theorem reverse_own (B : Nat) (v : Value) (L : List Cod) (w : World) (o : OR 49 3 Cod.cs w B v L) (hl : L.length ≤ 1000000) :
    Calls Tryd.prog 18 #[v] w fun e w' => e = .returned (.tuple #[]) ∧ OR 49 3 Cod.cs w' B v L.reverse ∧ w.grownBy w' v.ownBlock := by
  rcases o.2 with ⟨rfl, h⟩ | ⟨b, cap, cur, rfl, hg, hh, hnc, hm, hs, hx⟩
  · obtain rfl := List.eq_nil_of_length_eq_zero h
    refine (show Calls Tryd.prog 18 #[.slice none 0 0] w _ from AnyQ.slices_Reverse_empty Tryd.reverseC none 0 w).mono ?_
    rintro e w' ⟨rfl, rfl⟩
    exact ⟨rfl, OR.nil, World.grownBy.refl _ _⟩
  · have hH : HoldsK Cod.cs 3 w b 0 L.toArray := by
      intro t ht
      have ho : w.ownsRow B 49 3 (.slice (some ⟨b, 0, none⟩) L.length cap) L.length (L.flatMap Cod.cs) := o
      have ht' : t < L.length * 3 := by simpa using ht
      refine ⟨?_, by rw [Nat.zero_add]; exact ho.frozenAt t⟩
      rw [Nat.zero_add, ho.cellAt t ht', ← flatK_of (cs := Cod.cs) (k := 3) (fun _ => rfl) (by decide), Array.getElem?_toList, Array.getElem?_eq_getElem ht, getElem!_pos (flatK Cod.cs 3 L.toArray) t ht]
      rfl
    have hcon := AnyQ.slices_Reverse Tryd.reverseC 3 Tryd.isAgg49 Tryd.sizeOf49 Cod.cs (fun _ => rfl) elC.h1 b 0 cap L.toArray w hH (by simp; omega)
    refine (show Calls Tryd.prog 18 #[.slice (some ⟨b, 0, none⟩) L.toArray.size cap] w _ from hcon).mono ?_
    rintro e w' ⟨rfl, q, rfl⟩
    have h := put_rowK (cs := Cod.cs) (k := 3) (fun _ => rfl) (by decide) o rfl (M := L.reverse) (by simp) q
    rw [List.reverse_toArray]
    exact ⟨rfl, h.1, h.2⟩
attribute [local irreducible] Calls in
set_option maxRecDepth 100000 in
set_option maxHeartbeats 4000000 in
theorem cloneC_any (Ad : Option Addr) (cp : Nat) (L : List Cod) (w : World) (hL : RD 3 Cod.cs w Ad L) (hl : L.length ≤ 100000) :
    Calls Tryd.prog 17 #[.slice Ad L.length cp] w fun e w' => ∃ v', e = .returned v' ∧ OR 49 3 Cod.cs w' w.heap.size v' L ∧ Gr w w' := by
  obtain ⟨n, hn⟩ : ∃ n, L.length = n := ⟨_, rfl⟩
  have HN := Lib.hid hn
  have q22 : ∀ (w : World) (a : Option Addr) (n c n' c' : Nat), (binOp .eql 22 (.slice a n c) (.slice none n' c')).run Tryd.prog w = .ok (.bool a.isNone) w := fun w a n c n' c' => Lib.run_eql_slice_nil w _ _ a n c n' c' Tryd.underlying22
  cases Ad with
  | none =>
    have hnil : L = [] := by
      rcases hL with h | ⟨a, e, _⟩
      · exact h
      · cases e
    subst hnil
    clear HN hn
    go_enter Tryd.func17, Tryd.ntmps17
    go_wp2
    go_ret
    exact ⟨_, rfl, OR.nil, gr_refl _⟩
  | some a =>
    rw [hn] at hl ⊢
    have HL := Lib.hid (hL.gr (gr_al w (.cells #[] 49)))
    have HO := Lib.hid (show OR 49 3 Cod.cs (w.alloc (.cells #[] 49)) w.heap.size (.slice (some ⟨w.heap.size, 0, none⟩) 0 0) ([] : List Cod) from or_made (al_new w _) (Nat.le_refl _))
    have G1 := Lib.hid (gr_al w (.cells #[] 49))
    clear hL hn
    go_enter Tryd.func17, Tryd.ntmps17
    go_wp2_with (first | (at_builtin; refine wpList_app elC rfl (.tmp 5) (.tmp 6) rfl w.heap.size rfl HO.out (A := some a) (M := L) (m := n) (c := cp) HN.out rfl HL.out (by have := HN.out; simp; omega) (by simp) ?_; intro v7 w7 o7 g7 b7; have O7 := Lib.hid o7; have G7 := Lib.hid g7; clear o7 g7 b7))
    go_wp2
    go_ret
    exact ⟨_, rfl, O7.out, gr_own G1.out (Nat.le_refl _) G7.out⟩
/-- A run of stores into a list. -/
def setL : List Value → Nat → List Value → List Value
  | xs, _, [] => xs
  | xs, o, v :: vs => setL (xs.set o v) (o + 1) vs
theorem setL_eq : ∀ (vs xs : List Value) (o : Nat), o + vs.length ≤ xs.length → setL xs o vs = xs.take o ++ vs ++ xs.drop (o + vs.length)
  | [], xs, o, _ => by simp [setL]
  | v :: vs, xs, o, h => by
    simp only [List.length_cons] at h ⊢
    rw [setL, setL_eq vs (xs.set o v) (o + 1) (by rw [List.length_set]; omega)]
    rw [List.drop_set_of_lt (by omega), List.take_add_one, List.getElem?_set_self (by omega), List.take_set_of_le (Nat.le_refl _), show o + 1 + vs.length = o + (vs.length + 1) from by omega]
    simp
theorem setCells_own {e : TypeId} {k B g cap n : Nat} : ∀ (vs xs : List Value) (o : Nat) (V : World), V.ownsRow B e k (.slice (some ⟨g, 0, none⟩) n cap) n xs → (V.setCells g o vs).ownsRow B e k (.slice (some ⟨g, 0, none⟩) n cap) n (setL xs o vs) ∧ V.grownBy (V.setCells g o vs) (some g)
  | [], xs, o, V, h => ⟨h, World.grownBy.refl _ _⟩
  | u :: vs, xs, o, V, h => by
    have s1 := h.stored o u
    have s2 := setCells_own vs _ (o + 1) _ s1.1
    rw [World.setCells, setL]
    exact ⟨s2.1, s1.2.trans s2.2⟩
theorem own_cut {e : TypeId} {k B g cap n m : Nat} {xs : List Value} {V : World} (h : V.ownsRow B e k (.slice (some ⟨g, 0, none⟩) n cap) n xs) (hm : m ≤ n) : V.ownsRow B e k (.slice (some ⟨g, 0, none⟩) m cap) m (xs.take (m * k)) := by
  obtain ⟨e0, e1⟩ := h
  have hmul := Nat.mul_le_mul_right k hm
  refine ⟨by rw [List.length_take]; omega, ?_⟩
  rcases e1 with ⟨e1, -⟩ | ⟨g', cap', cur, e1, hb, hh, hnc, hmx, hs, hx⟩
  · cases e1
  · simp only [Value.slice.injEq, Option.some.injEq, Addr.mk.injEq, and_true, true_and] at e1
    obtain ⟨rfl, rfl⟩ := e1
    refine .inr ⟨g, cap, cur, rfl, hb, hh, by omega, hmx, hs, ?_⟩
    rw [← hx, List.take_take, Nat.min_eq_left (by omega)]
theorem flat_erase {α : Type} (f : α → List Value) (m : Nat) (h : ∀ x, (f x).length = m) (L : List α) (i : Nat) (hi : i < L.length) : (L.eraseIdx i).flatMap f = (L.flatMap f).take (i * m) ++ (L.drop (i + 1)).flatMap f := by
  have e : L.flatMap f = (L.take i).flatMap f ++ (L.drop i).flatMap f := by rw [← List.flatMap_append, List.take_append_drop]
  rw [e, List.take_append_of_le_length (by rw [flat_len f m h, List.length_take]; rw [Nat.min_eq_left (by omega)]; exact Nat.le_refl _), List.take_of_length_le (by rw [flat_len f m h, List.length_take, Nat.min_eq_left (by omega)]; exact Nat.le_refl _), ← List.flatMap_append, List.eraseIdx_eq_take_drop_succ]
/-- What is left of a row behind a deletion. -/
theorem del_own {e : TypeId} {k : Nat} {α : Type} {cs : α → List Value} (hk : ∀ x, (cs x).length = k) {B g cap n i : Nat} {L : List α} {V : World} (o : OR e k cs V B (.slice (some ⟨g, 0, none⟩) n cap) L) (hn : L.length = n) (hi : i < n) (zs : List Value) :
    OR e k cs ((V.setCells g (i * k) ((L.drop (i + 1)).flatMap cs)).setCells g ((n - 1) * k) zs) B (.slice (some ⟨g, 0, none⟩) (n - 1) cap) (L.eraseIdx i) ∧ V.grownBy ((V.setCells g (i * k) ((L.drop (i + 1)).flatMap cs)).setCells g ((n - 1) * k) zs) (some g) := by
  have h2 := o
  unfold OR at h2 ⊢
  rw [hn] at h2
  have hd : ((L.drop (i + 1)).flatMap cs).length = (n - (i + 1)) * k := by rw [flat_len cs k hk, List.length_drop, hn]
  have hf : (L.flatMap cs).length = n * k := by rw [flat_len cs k hk, hn]
  have e1 : i * k + (n - (i + 1)) * k = (n - 1) * k := by rw [← Nat.add_mul]; congr 1; omega
  have e2 : (n - 1) * k ≤ n * k := Nat.mul_le_mul_right k (by omega)
  have s1 := setCells_own ((L.drop (i + 1)).flatMap cs) _ (i * k) _ h2
  have s2 := setCells_own zs _ ((n - 1) * k) _ s1.1
  refine ⟨?_, s1.2.trans s2.2⟩
  have hl : (L.eraseIdx i).length = n - 1 := by rw [List.length_eraseIdx, hn, if_pos hi]
  have h3 := own_cut s2.1 (m := n - 1) (by omega)
  rw [hl]
  have e3 : (setL (setL (L.flatMap cs) (i * k) ((L.drop (i + 1)).flatMap cs)) ((n - 1) * k) zs).take ((n - 1) * k) = (L.eraseIdx i).flatMap cs := by
    have q : ∀ (zs xs : List Value) (o m : Nat), m ≤ o → (setL xs o zs).take m = xs.take m := by
      intro zs
      induction zs with
      | nil => intro xs o m _; rfl
      | cons z zs ih =>
        intro xs o m hm
        rw [setL, ih _ _ _ (by omega), List.take_set_of_le hm]
    rw [q _ _ _ _ (Nat.le_refl _), setL_eq _ _ _ (by rw [hd, hf]; omega), List.take_append_of_le_length (by rw [List.length_append, List.length_take, hd, hf]; omega), List.take_of_length_le (by rw [List.length_append, List.length_take, hd, hf]; omega), flat_erase cs k hk L i (by omega)]
  rw [e3] at h3
  exact h3
end Go.Proofs.YtgboboljgcfggaaDoor

/- Walk: codec.PutTexts at texts that fit. -/
import Derived.Test.YtgenloemohcpcaaWInt
import Derived.Test.YtgenloemohcpcaaRead
namespace Go.Proofs.Ytgenloemohcpcaa
open Go.RowKit

def onePut (x : T) : T := dig x.length ++ x
def putAll (L : List T) : T := (L.map onePut).flatten
def putTexts (L : List T) : T := dig L.length ++ putAll L

theorem putAll_take {L : List T} {k : Nat} (h : k < L.length) : putAll (L.take (k + 1)) = putAll (L.take k) ++ onePut L[k] := by
  unfold putAll
  rw [List.take_succ_eq_append_getElem h, List.map_append, List.flatten_append]
  simp

set_option maxRecDepth 100000 in
set_option maxHeartbeats 4000000 in
theorem putTexts_any (A : Option Addr) (c : Nat) (L : List T) (w : World) (hA : RD w A L) (hl : L.length ≤ 1000) (hx : ∀ x ∈ L, x.length ≤ 65536) :
    Calls Try.prog 36 #[.slice A L.length c] w fun e w' => e = .returned (.tuple #[tv (putTexts L), .int .i64 0]) ∧ Below w.heap.size w w' := by
  have HX := Lib.hid hx
  clear hx
  go_enter Try.func36, Try.ntmps36
  go_wp2
  go_loop [14] (fun i => ∃ k : Nat, k ≤ L.length ∧ i = .int .i64 k) (fun i => L.length - (intOf i).toNat)
  case atStart => exact ⟨0, Nat.zero_le _, rfl⟩
  case round =>
    obtain ⟨k, hk, rfl⟩ := hrel
    by_cases hlt : k < L.length
    · obtain ⟨a, rfl, hab, hac⟩ := hA.at hlt
      have hx := HX.out _ (List.getElem_mem hlt)
      have hx2 : ((L[k].length : Int) > 65536) = False := by simp; omega
      go_wp2
      go_round
      case rel => exact ⟨k + 1, by omega, by go_num⟩
      case measure => simp [intOf]; omega
    · have b1 : Below w.heap.size w (w.alloc (.cells #[.pointer none, .slice none 0 0] 68)) := (Below.refl _ _).alloc (Nat.le_refl _) _
      have hb1 : Lib.IsBuilderF 68 5 w.heap.size w.heap.size [] (w.alloc (.cells #[.pointer none, .slice none 0 0] 68)) := Lib.IsBuilderF.of (Lib.fresh_isBuilder 68 5 w)
      have HB := Lib.hid hb1
      have KB := Lib.hid b1
      clear hb1 b1
      go_wp2_with (go_at_call 48; refine (writeInt_any w.heap.size w.heap.size _ L.length _ HB.out (by omega) (by simp) (by simp)).mono ?_; rintro e w1 ⟨rfl, h1, k1, _⟩)
      have H1 := Lib.hid h1
      have K1 := Lib.hid (KB.out.trans k1)
      clear h1 k1
      go_loopw [27] (fun i wr => ∃ (k : Nat) (acc : T), k ≤ L.length ∧ i = .int .i64 k ∧ Hid (Lib.IsBuilderF 68 5 w.heap.size w.heap.size (Lib.byteCells acc) wr) ∧ Hid (acc = dig L.length ++ putAll (L.take k)) ∧ acc.length ≤ 1001 + k * 131073 ∧ Hid (Below w.heap.size w wr)) (fun i _ => L.length - (intOf i).toNat)
      case atStart =>
        refine ⟨0, dig L.length, Nat.zero_le _, rfl, Lib.hid (by simpa using H1.out), Lib.hid (by simp [putAll]), ?_, K1⟩
        have := dig_len L.length
        omega
      case round =>
        obtain ⟨k, acc, hk, rfl, hI, hacc, hal, hbw⟩ := hrel
        have hrd := hA.below hbw.out
        by_cases hlt : k < L.length
        · obtain ⟨a, rfl, hab, hac⟩ := hrd.at hlt
          have hx := HX.out _ (List.getElem_mem hlt)
          have hlx := dig_len L[k].length
          have hsz := hbw.out.size
          go_wp2_with (first
            | (go_at_call 48; refine (writeInt_any w.heap.size w.heap.size _ L[k].length _ hI.out (by omega) (by rw [Lib.byteCells_length]; omega) hsz).mono ?_; rintro e w2 ⟨rfl, h2, k2, _⟩)
            | (go_at_call 49; refine (writeString_any w.heap.size w.heap.size _ _ _ h2 (by simp only [List.length_append, Lib.byteCells_length]; show _ + L[k].length ≤ _; omega) (Nat.le_trans hsz k2.size)).mono ?_; rintro e w3 ⟨rfl, h3, k3, _⟩))
          go_roundw
          case rel =>
            refine ⟨k + 1, acc ++ onePut L[k], by omega, by go_num, Lib.hid ?_, Lib.hid ?_, ?_, Lib.hid ((hbw.out.trans k2).trans k3)⟩
            · rw [onePut, Lib.byteCells_append, Lib.byteCells_append, ← List.append_assoc]; exact h3
            · rw [putAll_take hlt, hacc.out, List.append_assoc]
            · simp only [onePut, List.length_append]; omega
          case measure => simp [intOf]; omega
        · have hsz := hbw.out.size
          have hz : L.take k = L := List.take_of_length_le (by omega)
          have HZ := Lib.hid hz
          clear hz
          go_wp2_with (go_at_call 50; refine (Try.Builder_String_any_k w.heap.size w.heap.size acc _ hI.out hsz).mono ?_; rintro e w2 ⟨rfl, h2, k2, _⟩)
          go_ret2
          refine ⟨?_, hbw.out.trans k2⟩
          rw [hacc.out, HZ.out]
          rfl
end Go.Proofs.Ytgenloemohcpcaa

/- Walk: Encode. -/
import Derived.Test.YtgenloemohcpcaaPut
import Derived.Test.YtgenloemohcpcaaOf
namespace Go.Proofs.Ytgenloemohcpcaa
open Go.RowKit

theorem bytes_app (x y : T) : ((⟨x.toArray⟩ : ByteArray) ++ ⟨y.toArray⟩) = ⟨(x ++ y).toArray⟩ := by
  apply ByteArray.ext
  simp

theorem putAll_len {L : List T} (h : ∀ x ∈ L, x.length ≤ 65536) : (putAll L).length ≤ L.length * 131073 := by
  induction L with
  | nil => simp [putAll]
  | cons x L ih =>
    have h1 := ih fun y hy => h y (by simp [hy])
    have h2 := h x (by simp)
    have h3 := dig_len x.length
    simp only [putAll, List.map_cons, List.flatten_cons, List.length_append, onePut, List.length_cons] at *
    omega
theorem putTexts_len {L : List T} (hl : L.length ≤ 1000) (h : ∀ x ∈ L, x.length ≤ 65536) : (putTexts L).length ≤ 200000000 := by
  have h1 := putAll_len h
  have h2 := dig_len L.length
  simp only [putTexts, List.length_append]
  omega

def enc (L M : List T) : T := if chk L M = 0 then putTexts L ++ putTexts M else []

set_option maxRecDepth 100000 in
set_option maxHeartbeats 1000000 in
theorem encode_any (A B : Option Addr) (c d : Nat) (L M : List T) (w : World) (hA : RD w A L) (hB : RD w B M) (hl : L.length ≤ 9223372036854775807) (hm : M.length ≤ 9223372036854775806) :
    Calls Try.prog 20 #[sv A B L.length c M.length d] w fun e w' => e = .returned (.tuple #[tv (enc L M), .int .i64 (chk L M)]) ∧ Below w.heap.size w w' := by
  obtain ⟨f0, f1⟩ := two_cells w (Value.slice A L.length c) (Value.slice B M.length d) 24
  have b0 : Below w.heap.size w (w.alloc (Obj.cells #[Value.slice A L.length c, Value.slice B M.length d] 24)) := (Below.refl _ _).alloc (Nat.le_refl _) _
  have hz : (w.alloc (Obj.cells #[Value.slice A L.length c, Value.slice B M.length d] 24)).heap.size = w.heap.size + 1 := by simp
  have HZ := Lib.hid hz
  clear hz
  by_cases h2 : chk L M = 0
  · have t2 : (chk L M != 0) = false := by simp [h2]
    have e1 : enc L M = putTexts L ++ putTexts M := by simp [enc, h2]
    have ok := chk_zero.1 h2
    have OK := Lib.hid ok
    have z1 := putTexts_len ok.most ok.la
    have z2 := putTexts_len (by have := ok.len; have := ok.most; omega) ok.lr
    have hmm : M.length ≤ 1000 := by have := ok.len; have := ok.most; omega
    rw [e1, h2]
    have H2 := Lib.hid h2
    clear e1 ok h2
    go_enter Try.func20, Try.ntmps20
    go_wp2_with fail
    generalize w.alloc (Obj.cells #[Value.slice A L.length c, Value.slice B M.length d] 24) = W at *
    have hA' := hA.below b0
    have hB' := hB.below b0
    refine (check_any A B c d L M _ hA' hB' hl hm).mono ?_
    rintro e w1 ⟨rfl, b1⟩
    have f0' := (b1.cell (p := ⟨w.heap.size, 0, none⟩) (by have := HZ.out; show w.heap.size < _; omega)).trans f0
    have f1' := (b1.cell (p := ⟨w.heap.size, 1, none⟩) (by have := HZ.out; show w.heap.size < _; omega)).trans f1
    have K1 := Lib.hid (b0.trans (b1.mono (by have := HZ.out; omega)))
    have hA1 := hA'.below b1
    have hB1 := hB'.below b1
    have hz1 : w.heap.size < w1.heap.size := by have := HZ.out; have := b1.size; omega
    clear b0 b1 f0 f1 hA hB hA' hB'
    go_wp2_with fail
    refine (putTexts_any A c L _ hA1 OK.out.most OK.out.la).mono ?_
    rintro e w2 ⟨rfl, b2⟩
    have f1'' := (b2.cell (p := ⟨w.heap.size, 1, none⟩) hz1).trans f1'
    have K2 := Lib.hid (K1.out.trans (b2.mono (by omega)))
    have hB2 := hB1.below b2
    clear b2 f0' f1' hA1 hB1 K1
    go_wp2_with fail
    refine (putTexts_any B d M _ hB2 hmm OK.out.lr).mono ?_
    rintro e w3 ⟨rfl, b3⟩
    have K3 := Lib.hid (K2.out.trans (b3.mono (by have := K2.out.size; omega)))
    clear b3
    go_wp2_with fail
    go_ret2
    first | exact ⟨rfl, K3.out⟩ | (refine ⟨?_, K3.out⟩; rw [bytes_app])
  · have t2 : (chk L M != 0) = true := by simpa using h2
    have e1 : enc L M = [] := by simp [enc, h2]
    rw [e1]
    clear e1 h2
    go_enter Try.func20, Try.ntmps20
    go_wp2_with fail
    generalize w.alloc (Obj.cells #[Value.slice A L.length c, Value.slice B M.length d] 24) = W at *
    refine (check_any A B c d L M _ (hA.below b0) (hB.below b0) hl hm).mono ?_
    rintro e w1 ⟨rfl, b1⟩
    have HB := Lib.hid (b0.trans (b1.mono (by have := HZ.out; omega)))
    clear b0 b1 f0 f1
    go_wp2_with fail
    go_ret2
    exact ⟨rfl, HB.out⟩
end Go.Proofs.Ytgenloemohcpcaa

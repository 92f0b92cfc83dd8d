/- Walks: the reference's numbers and texts. -/
import Derived.Test.YtgboboljgcfggaaGreatDoorM7
import Derived.Test.YtgboboljgcfggaaGreatDoorEnP
import Derived.Laws.BytesArg
namespace Go.Proofs.YtgboboljgcfggaaGreatDoor
open Go.RowKit

theorem undrewE {w w' : World} (h : Below w.drew.heap.size w.drew w') : Below w.heap.size w w' := ⟨h.os, h.tape, h.output, h.size, h.block⟩
theorem bytes_appE (x y : T) : ((⟨x.toArray⟩ : ByteArray) ++ ⟨y.toArray⟩) = ⟨(x ++ y).toArray⟩ := by
  apply ByteArray.ext
  simp
theorem nogrow {n : Nat} (h : n ≤ 9223372036854775807) : (9223372036854775807 < n) = False := by simp; omega
theorem wrap_smallE (n : Int) (h1 : -9223372036854775808 ≤ n) (h2 : n ≤ 9223372036854775807) : IntKind.i64.wrap n = n := by rw [IntKind.wrap_i64]; omega
theorem bytes_one (x : Int) (n : Nat) (h : x = n) : strOfNums [x] = ⟨#[UInt8.ofNat n]⟩ := by
  subst h
  simp [strOfNums]

set_option maxRecDepth 100000 in
set_option maxHeartbeats 4000000 in
theorem rput_small (v : Nat) (hv : v < 128) (w : World) : Calls Tryz.prog 94 #[.int .i64 v] w fun e w' => e = .returned (tv (dig v)) ∧ Below w.heap.size w w' := by
  have hc := run_convert_bytes_arg (P := Tryz.prog) (w.alloc (.cells #[.int .u8 v] 5)) 91 5 Tryz.underlying91 Tryz.underlying5 w.heap.size 0 1 1 [(v : Int)] rfl (fun i hi => by
    have : i = 0 := by omega
    subst this
    exact Lib.cell_of_heap (World.alloc_heap_new w (.cells #[.int .u8 v] 5)) 0) 9 Tryz.underlying9
  rw [bytes_one _ v rfl] at hc
  have h1 : ((v : Int) < 128) = True := by simp; omega
  go_enter Tryz.func94, Tryz.ntmps94
  go_wp2
  go_ret
  exact ⟨by rw [dig_small hv]; rfl, (Below.refl _ _).alloc (Nat.le_refl _) _⟩

/-- The byte that is laid for a digit that is not the last, as the code reckons it. -/
abbrev rawHi (v : Nat) : Int := IntKind.u8.wrap (IntKind.i64.wrap (128 + (v : Int).tmod 128))
theorem rawHi_eq (v : Nat) : rawHi v = ((v % 128 + 128 : Nat) : Int) := by
  have h : (v : Int).tmod 128 = ((v % 128 : Nat) : Int) := by rw [Int.tmod_eq_emod_of_nonneg (by omega)]; omega
  unfold rawHi
  rw [h, wrap_small _ (by omega) (by omega), IntKind.wrap_u8]
  omega
theorem rawQuo (v : Nat) (hv : v ≤ 1099511627776) : IntKind.i64.wrap ((v : Int) / 128) = ((v / 128 : Nat) : Int) := by
  rw [wrap_smallE _ (by omega) (by omega)]
  omega
def hiB (v : Nat) : UInt8 := UInt8.ofNat (v % 128 + 128)

theorem conv_hi (v : Nat) (W : World) (g : Nat) (h : W.cell? ⟨g, 0, none⟩ = some (.int .u8 (rawHi v))) :
    (convert 91 9 (.slice (some ⟨g, 0, none⟩) 1 1)).run Tryz.prog W = .ok (.string ⟨[hiB v].toArray⟩) W := by
  have hc := run_convert_bytes_arg (P := Tryz.prog) W 91 5 Tryz.underlying91 Tryz.underlying5 g 0 1 1 [rawHi v] rfl (fun i hi => by
    have : i = 0 := by omega
    subst this
    exact h) 9 Tryz.underlying9
  rw [bytes_one _ (v % 128 + 128) (rawHi_eq v)] at hc
  exact hc

set_option maxRecDepth 100000 in
set_option maxHeartbeats 4000000 in
theorem rput_large (v : Nat) (hv : ¬ v < 128) (hv2 : v ≤ 1099511627776) (w : World) (ih : ∀ W, Calls Tryz.prog 94 #[.int .i64 ((v / 128 : Nat) : Int)] W fun e w' => e = .returned (tv (dig (v / 128))) ∧ Below W.heap.size W w') :
    Calls Tryz.prog 94 #[.int .i64 v] w fun e w' => e = .returned (tv (dig v)) ∧ Below w.heap.size w w' := by
  have HQ := Lib.hid (rawQuo v hv2)
  have h1 : ((v : Int) < 128) = False := by simp; omega
  have IH := Lib.hid ih
  have CV := Lib.hid (conv_hi v)
  have hz := dig_len (v / 128)
  have b0 : Below w.heap.size w (w.alloc (.cells #[.int .u8 (rawHi v)] 5)) := (Below.refl _ _).alloc (Nat.le_refl _) _
  have c0 := Lib.cell_of_heap (World.alloc_heap_new w (.cells #[.int .u8 (rawHi v)] 5)) 0
  have cv0 := conv_hi v (w.alloc (.cells #[.int .u8 (rawHi v)] 5)).drew w.heap.size c0
  have B0 := Lib.hid b0
  have C0 := Lib.hid c0
  clear ih b0 c0
  unfold rawHi at cv0
  go_enter Tryz.func94, Tryz.ntmps94
  go_wp2
  go_region_with (go_at_call 94; rw [HQ.out]; refine (IH.out _).mono ?_; rintro e w2 ⟨rfl, k2⟩; have K2 := Lib.hid k2; clear k2;  (try (have cv2 := CV.out w2 w.heap.size (((undrewE K2.out).cell (p := ⟨w.heap.size, 0, none⟩) (by simp)).trans C0.out))); have cv3 := CV.out (w2.alloc (.cells #[.int .u8 (rawHi v)] 5)) w2.heap.size (Lib.cell_of_heap (World.alloc_heap_new w2 (.cells #[.int .u8 (rawHi v)] 5)) 0); unfold rawHi at cv3; simp only)
  all_goals go_wp2_with fail
  all_goals go_ret
  all_goals rw [dig_large hv]
  all_goals refine ⟨congrArg (fun s => Ending.returned (Value.string s)) (bytes_appE [hiB v] (dig (v / 128))), ?_⟩
  all_goals first | exact B0.out.trans ((undrewE K2.out).mono (by simp)) | exact (undrewE K2.out).alloc (undrewE K2.out).size _

theorem rput_any (v : Nat) : v ≤ 1099511627776 → ∀ w : World, Calls Tryz.prog 94 #[.int .i64 v] w fun e w' => e = .returned (tv (dig v)) ∧ Below w.heap.size w w' := by
  induction v using Nat.strongRecOn with
  | ind v ih =>
    intro hv w
    by_cases h : v < 128
    · exact rput_small v h w
    · exact rput_large v h hv w (ih (v / 128) (by omega) (by omega))


attribute [local irreducible] Calls in
set_option maxRecDepth 100000 in
theorem rPutInt_any (n : Nat) (hn : n ≤ 1099511627776) (w : World) : Calls Tryz.prog 66 #[.int .i64 n] w fun e w' => e = .returned (.tuple #[tv (dig n), .int .i64 0]) ∧ Gr w w' := by
  have e0 : decide ((n : Int) < 0) = false := by simp
  have RP := Lib.hid (fun V => (rput_any n hn V))
  go_enter Tryz.func66, Tryz.ntmps66
  go_wp2_with (go_at_call 94; refine (RP.out _).mono ?_; rintro e w1 ⟨rfl, k1⟩; have K1 := Lib.hid (gr_of k1); clear k1)
  go_ret2
  exact ⟨rfl, K1.out⟩
attribute [local irreducible] Calls in
set_option maxRecDepth 100000 in
theorem rPutText_any (x : T) (hx : x.length ≤ 65536) (w : World) : Calls Tryz.prog 67 #[tv x] w fun e w' => e = .returned (.tuple #[tv (onePut x), .int .i64 0]) ∧ Gr w w' := by
  have h1 : ((x.length : Int) > 65536) = False := by simp; omega
  have hz : (dig x.length).length ≤ 6 := dig_six (by omega)
  have RP := Lib.hid (fun V => (rput_any x.length (by omega) V))
  go_enter Tryz.func67, Tryz.ntmps67
  go_wp2_with (go_at_call 94; refine (RP.out _).mono ?_; rintro e w1 ⟨rfl, k1⟩; have K1 := Lib.hid (gr_of k1); clear k1)
  go_ret2
  exact ⟨by rw [bytes_appE]; rfl, K1.out⟩
attribute [local irreducible] Calls in
set_option maxRecDepth 100000 in
theorem sput_any (n : Int) (hn : nOk n) (w : World) : Calls Tryz.prog 36 #[.int .i64 n] w fun e w' => e = .returned (tv (eN n)) ∧ Gr w w' := by
  obtain ⟨m, rfl⟩ : ∃ m : Nat, n = m := ⟨n.toNat, by have := hn.1; omega⟩
  have hm : m ≤ 1099511627776 := by have := hn.2; omega
  have e1 : eN (m : Int) = dig m := rfl
  have RP := Lib.hid (fun V => rPutInt_any m hm V)
  rw [e1]
  clear hn e1
  go_enter Tryz.func36, Tryz.ntmps36
  go_wp2_with (go_at_call 66; refine (RP.out _).mono ?_; rintro e w1 ⟨rfl, g1⟩; have G1 := Lib.hid g1; clear g1)
  go_ret
  exact ⟨rfl, G1.out⟩
attribute [local irreducible] Calls in
set_option maxRecDepth 100000 in
theorem stext_any (x : T) (hx : x.length ≤ 65536) (w : World) : Calls Tryz.prog 38 #[tv x] w fun e w' => e = .returned (tv (onePut x)) ∧ Gr w w' := by
  have RP := Lib.hid (fun V => rPutText_any x hx V)
  go_enter Tryz.func38, Tryz.ntmps38
  go_wp2_with (go_at_call 67; refine (RP.out _).mono ?_; rintro e w1 ⟨rfl, g1⟩; have G1 := Lib.hid g1; clear g1)
  go_ret
  exact ⟨rfl, G1.out⟩
/-- The number that stands for an integer. -/
def sgI (n : Int) : Int := if n < 0 then -2 * n + 1 else 2 * n
theorem sgI_ok {n : Int} (h : aOk n) : nOk (sgI n) ∧ eN (sgI n) = eA n := by
  obtain ⟨h1, h2⟩ := h
  unfold sgI nOk eN eA
  split
  · exact ⟨⟨by omega, by omega⟩, by congr 1; omega⟩
  · exact ⟨⟨by omega, by omega⟩, by congr 1; omega⟩
set_option maxRecDepth 100000 in
theorem ssig_any (n : Int) (hn : aOk n) (w : World) : Calls Tryz.prog 37 #[.int .i64 n] w fun e w' => e = .returned (.int .i64 (sgI n)) ∧ Gr w w' := by
  obtain ⟨h1, h2⟩ := hn
  by_cases h0 : n < 0
  · have e : sgI n = -2 * n + 1 := if_pos h0
    rw [e]
    clear e
    go_enter Tryz.func37, Tryz.ntmps37
    go_wp2
    go_ret
    exact ⟨rfl, gr_refl _⟩
  · have e : sgI n = 2 * n := if_neg h0
    rw [e]
    clear e
    go_enter Tryz.func37, Tryz.ntmps37
    go_wp2
    go_ret
    exact ⟨rfl, gr_refl _⟩
end Go.Proofs.YtgboboljgcfggaaGreatDoor

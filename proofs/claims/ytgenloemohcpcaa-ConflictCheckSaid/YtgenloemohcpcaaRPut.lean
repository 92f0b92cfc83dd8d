/- Walk: the reference's coding. -/
import Derived.Test.YtgenloemohcpcaaEnc
import Derived.Laws.BytesArg
import Derived.Test.YtgenloemohcpcaaAdd
namespace Go.Proofs.Ytgenloemohcpcaa
open Go.RowKit

theorem bytes_one (x : Int) (n : Nat) (h : x = n) : strOfNums [x] = ⟨#[UInt8.ofNat n]⟩ := by
  subst h
  simp [strOfNums]

set_option maxRecDepth 100000 in
set_option maxHeartbeats 4000000 in
theorem rput_small (v : Nat) (hv : v < 128) (w : World) : Calls Try.prog 51 #[.int .i64 v] w fun e w' => e = .returned (tv (dig v)) ∧ Below w.heap.size w w' := by
  have hc := run_convert_bytes_arg (P := Try.prog) (w.alloc (.cells #[.int .u8 v] 5)) 66 5 Try.underlying66 Try.underlying5 w.heap.size 0 1 1 [(v : Int)] rfl (fun i hi => by
    have : i = 0 := by omega
    subst this
    exact Lib.cell_of_heap (World.alloc_heap_new w (.cells #[.int .u8 v] 5)) 0) 9 Try.underlying9
  rw [bytes_one _ v rfl] at hc
  have h1 : ((v : Int) < 128) = True := by simp; omega
  go_enter Try.func51, Try.ntmps51
  go_wp2
  go_ret
  exact ⟨by rw [dig_small hv]; rfl, (Below.refl _ _).alloc (Nat.le_refl _) _⟩

/-- The byte that is laid for a digit that is not the last, as the code reckons it. -/
abbrev rawHi (v : Nat) : Int := IntKind.u8.wrap (IntKind.i64.wrap (128 + (v : Int).tmod 128))
theorem rawHi_eq (v : Nat) : rawHi v = ((v % 128 + 128 : Nat) : Int) := by
  have h : (v : Int).tmod 128 = ((v % 128 : Nat) : Int) := by rw [Int.tmod_eq_emod_of_nonneg (by omega)]; omega
  unfold rawHi
  rw [h, wrap_small _ (by omega) (by omega), IntKind.wrap_u8]
  omega
theorem rawQuo (v : Nat) (hv : v ≤ 1000000) : IntKind.i64.wrap ((v : Int) / 128) = ((v / 128 : Nat) : Int) := by
  rw [wrap_small _ (by omega) (by omega)]
  omega
def hiB (v : Nat) : UInt8 := UInt8.ofNat (v % 128 + 128)

theorem conv_hi (v : Nat) (W : World) (g : Nat) (h : W.cell? ⟨g, 0, none⟩ = some (.int .u8 (rawHi v))) :
    (convert 66 9 (.slice (some ⟨g, 0, none⟩) 1 1)).run Try.prog W = .ok (.string ⟨[hiB v].toArray⟩) W := by
  have hc := run_convert_bytes_arg (P := Try.prog) W 66 5 Try.underlying66 Try.underlying5 g 0 1 1 [rawHi v] rfl (fun i hi => by
    have : i = 0 := by omega
    subst this
    exact h) 9 Try.underlying9
  rw [bytes_one _ (v % 128 + 128) (rawHi_eq v)] at hc
  exact hc

set_option maxRecDepth 100000 in
set_option maxHeartbeats 4000000 in
theorem rput_large (v : Nat) (hv : ¬ v < 128) (hv2 : v ≤ 1000000) (w : World) (ih : ∀ W, Calls Try.prog 51 #[.int .i64 ((v / 128 : Nat) : Int)] W fun e w' => e = .returned (tv (dig (v / 128))) ∧ Below W.heap.size W w') :
    Calls Try.prog 51 #[.int .i64 v] w fun e w' => e = .returned (tv (dig v)) ∧ Below w.heap.size w w' := by
  have HQ := Lib.hid (rawQuo v hv2)
  have h1 : ((v : Int) < 128) = False := by simp; omega
  have IH := Lib.hid ih
  have CV := Lib.hid (conv_hi v)
  have hz := dig_len (v / 128)
  have b0 : Below w.heap.size w (w.alloc (.cells #[.int .u8 (rawHi v)] 5)) := (Below.refl _ _).alloc (Nat.le_refl _) _
  have c0 := Lib.cell_of_heap (World.alloc_heap_new w (.cells #[.int .u8 (rawHi v)] 5)) 0
  have cv0 := conv_hi v (w.alloc (.cells #[.int .u8 (rawHi v)] 5)).drew w.heap.size c0
  have B0 := Lib.hid b0
  have C0 := Lib.hid c0
  clear ih b0 c0
  unfold rawHi at cv0
  go_enter Try.func51, Try.ntmps51
  go_wp2
  go_region_with (go_at_call 51; rw [HQ.out]; refine (IH.out _).mono ?_; rintro e w2 ⟨rfl, k2⟩; have K2 := Lib.hid k2; clear k2;  (try (have cv2 := CV.out w2 w.heap.size (((undrew K2.out).cell (p := ⟨w.heap.size, 0, none⟩) (by simp)).trans C0.out))); have cv3 := CV.out (w2.alloc (.cells #[.int .u8 (rawHi v)] 5)) w2.heap.size (Lib.cell_of_heap (World.alloc_heap_new w2 (.cells #[.int .u8 (rawHi v)] 5)) 0); unfold rawHi at cv3; simp only)
  all_goals go_wp2_with fail
  all_goals go_ret
  all_goals rw [dig_large hv]
  all_goals refine ⟨congrArg (fun s => Ending.returned (Value.string s)) (bytes_app [hiB v] (dig (v / 128))), ?_⟩
  all_goals first | exact B0.out.trans ((undrew K2.out).mono (by simp)) | exact (undrew K2.out).alloc (undrew K2.out).size _

theorem rput_any (v : Nat) : v ≤ 1000000 → ∀ w : World, Calls Try.prog 51 #[.int .i64 v] w fun e w' => e = .returned (tv (dig v)) ∧ Below w.heap.size w w' := by
  induction v using Nat.strongRecOn with
  | ind v ih =>
    intro hv w
    by_cases h : v < 128
    · exact rput_small v h w
    · exact rput_large v h hv w (ih (v / 128) (by omega) (by omega))

set_option maxRecDepth 100000 in
theorem rputText_any (x : T) (hx : x.length ≤ 65536) (w : World) : Calls Try.prog 52 #[tv x] w fun e w' => e = .returned (.tuple #[tv (onePut x), .int .i64 0]) ∧ Below w.heap.size w w' := by
  have h1 : ((x.length : Int) > 65536) = False := by simp; omega
  have hz := dig_len x.length
  go_enter Try.func52, Try.ntmps52
  go_wp2_with fail
  refine (rput_any x.length (by omega) _).mono ?_
  rintro e w1 ⟨rfl, k1⟩
  go_wp2_with fail
  go_ret2
  exact ⟨by rw [bytes_app]; rfl, k1⟩

set_option maxRecDepth 100000 in
set_option maxHeartbeats 4000000 in
theorem rputTexts_any (A : Option Addr) (c : Nat) (L : List T) (w : World) (hA : RD w A L) (hl : L.length ≤ 1000) (hx : ∀ x ∈ L, x.length ≤ 65536) :
    Calls Try.prog 37 #[.slice A L.length c] w fun e w' => e = .returned (.tuple #[tv (putTexts L), .int .i64 0]) ∧ Below w.heap.size w w' := by
  have HX := Lib.hid hx
  have RP := Lib.hid (rput_any L.length (by omega) w)
  clear hx
  go_enter Try.func37, Try.ntmps37
  go_wp2_with (go_at_call 51; refine RP.out.mono ?_; rintro e w1 ⟨rfl, k1⟩)
  have K1 := Lib.hid k1
  clear k1
  go_loopw [4, 5] (fun s i wr => ∃ (k : Nat) (acc : T), k ≤ L.length ∧ s = tv acc ∧ i = .int .i64 k ∧ Hid (acc = dig L.length ++ putAll (L.take k)) ∧ acc.length ≤ 1001 + k * 131073 ∧ Hid (Below w.heap.size w wr)) (fun _ i _ => L.length - (intOf i).toNat)
  case atStart =>
    refine ⟨0, dig L.length, Nat.zero_le _, rfl, rfl, Lib.hid (by simp [putAll]), ?_, K1⟩
    have := dig_len L.length
    omega
  case round =>
    obtain ⟨k, acc, hk, rfl, rfl, hacc, hal, hbw⟩ := hrel
    have hrd := hA.below hbw.out
    by_cases hlt : k < L.length
    · obtain ⟨a, rfl, hab, hac⟩ := hrd.at hlt
      have hx := HX.out _ (List.getElem_mem hlt)
      have hlx := dig_len L[k].length
      have hox : (onePut L[k]).length ≤ 131073 := by simp only [onePut, List.length_append]; omega
      go_wp2_with (go_at_call 52; refine (rputText_any L[k] hx _).mono ?_; rintro e w2 ⟨rfl, k2⟩)
      go_roundw
      case rel =>
        refine ⟨k + 1, acc ++ onePut L[k], by omega, ?_, by go_num, Lib.hid ?_, ?_, Lib.hid (hbw.out.trans (k2.mono hbw.out.size))⟩
        · rw [bytes_app]
        · rw [putAll_take hlt, hacc.out, List.append_assoc]
        · simp only [List.length_append]; omega
      case measure => simp [intOf]; omega
    · have hz : L.take k = L := List.take_of_length_le (by omega)
      have HZ := Lib.hid hz
      clear hz
      go_wp2_with fail
      go_ret2
      refine ⟨?_, hbw.out⟩
      rw [hacc.out, HZ.out]
      rfl
end Go.Proofs.Ytgenloemohcpcaa

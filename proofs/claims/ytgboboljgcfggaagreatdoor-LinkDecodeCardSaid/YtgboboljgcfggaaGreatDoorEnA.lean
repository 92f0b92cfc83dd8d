/- Walks: PutInt, PutText; the writer's number, signed and text. -/
import Derived.Test.YtgboboljgcfggaaGreatDoorWrt
import Derived.Test.YtgboboljgcfggaaGreatDoorWIn
namespace Go.Proofs.YtgboboljgcfggaaGreatDoor
open Go.RowKit

set_option maxRecDepth 100000 in
theorem cinR_any (n : Int) (w : World) : Calls Tryz.prog 91 #[.int .i64 n] w fun e w' => e = .returned (.bool (decide (0 ≤ n) && decide (n ≤ 1099511627776))) ∧ w' = w := by
  by_cases h : 0 ≤ n
  · have e0 : decide (0 ≤ n) = true := by simpa using h
    go_enter Tryz.func91, Tryz.ntmps91
    go_wp2
    go_ret
    exact ⟨by first | rfl | (rw [e0]; rfl), rfl⟩
  · have e0 : decide (0 ≤ n) = false := by simpa using h
    go_enter Tryz.func91, Tryz.ntmps91
    go_wp2
    go_ret
    exact ⟨by first | rfl | (rw [e0]; rfl), rfl⟩
attribute [local irreducible] Calls in
set_option maxRecDepth 100000 in
set_option maxHeartbeats 1000000 in
theorem putInt_any (n : Nat) (hn : n ≤ 1099511627776) (w : World) : Calls Tryz.prog 62 #[.int .i64 n] w fun e w' => e = .returned (.tuple #[tv (dig n), .int .i64 0]) ∧ Gr w w' := by
  have IR := Lib.hid (fun V => show Calls Tryz.prog 91 #[.int .i64 n] V fun e w' => e = .returned (.bool true) ∧ w' = V from by
    have h := cinR_any n V
    rwa [show (decide (0 ≤ (n : Int)) && decide ((n : Int) ≤ 1099511627776)) = true from by simp; omega] at h)
  have HB := Lib.hid (show Lib.IsBuilderF 93 5 w.heap.size w.heap.size [] (w.alloc (.cells #[.pointer none, .slice none 0 0] 93)) from Lib.IsBuilderF.of (Lib.fresh_isBuilder 93 5 w))
  have KB := Lib.hid (gr_al w (.cells #[.pointer none, .slice none 0 0] 93))
  go_enter Tryz.func62, Tryz.ntmps62
  go_upto_region 4 with (go_at_call 91; refine (IR.out _).mono ?_; rintro e w' ⟨rfl, hw⟩; have hw := hw.symm; subst hw)
  have hsz := Lib.hid (show w.heap.size ≤ (w.alloc (.cells #[.pointer none, .slice none 0 0] 93)).heap.size from by simp)
  generalize w.alloc (.cells #[.pointer none, .slice none 0 0] 93) = W1 at *
  go_wp2_with (first
    | (go_at_call 92; refine (writeInt_any w.heap.size w.heap.size [] n W1 HB.out hn (by simp) hsz.out).mono ?_; rintro e w2 ⟨rfl, h2, b2, _⟩; have H2 := Lib.hid h2; have G2 := Lib.hid (gr_of (show Below w.heap.size w w2 from (below_of KB.out).trans b2)); clear h2 b2)
    | (go_at_call 35; refine (Tryz.Builder_String_any_k w.heap.size w.heap.size (dig n) _ (by simpa using H2.out) G2.out.size).mono ?_; rintro e w3 ⟨rfl, _, b3, _⟩; have G3 := Lib.hid (gr_of (show Below w.heap.size w w3 from (below_of G2.out).trans b3)); clear b3))
  go_ret2
  exact ⟨rfl, G3.out⟩
attribute [local irreducible] Calls in
set_option maxRecDepth 100000 in
set_option maxHeartbeats 1000000 in
theorem putText_any (x : T) (hx : x.length ≤ 65536) (w : World) : Calls Tryz.prog 65 #[tv x] w fun e w' => e = .returned (.tuple #[tv (onePut x), .int .i64 0]) ∧ Gr w w' := by
  have HB := Lib.hid (show Lib.IsBuilderF 93 5 w.heap.size w.heap.size [] (w.alloc (.cells #[.pointer none, .slice none 0 0] 93)) from Lib.IsBuilderF.of (Lib.fresh_isBuilder 93 5 w))
  have KB := Lib.hid (gr_al w (.cells #[.pointer none, .slice none 0 0] 93))
  have e1 : ((x.length : Int) > 65536) = False := by simp; omega
  go_enter Tryz.func65, Tryz.ntmps65
  go_upto_region 4 with fail
  have hsz := Lib.hid (show w.heap.size ≤ (w.alloc (.cells #[.pointer none, .slice none 0 0] 93)).heap.size from by simp)
  generalize w.alloc (.cells #[.pointer none, .slice none 0 0] 93) = W1 at *
  go_wp2_with (first
    | (go_at_call 92; refine (writeInt_any w.heap.size w.heap.size [] x.length W1 HB.out (by omega) (by simp) hsz.out).mono ?_; rintro e w2 ⟨rfl, h2, b2, _⟩; have H2 := Lib.hid h2; have G2 := Lib.hid (gr_of (show Below w.heap.size w w2 from (below_of KB.out).trans b2)); clear h2 b2)
    | (go_at_call 63; refine (writeString_any w.heap.size w.heap.size _ ⟨x.toArray⟩ _ H2.out (by simp only [List.nil_append, Lib.byteCells_length]; have := dig_six (n := x.length) (by omega); show _ + x.length ≤ _; omega) G2.out.size).mono ?_; rintro e w3 ⟨rfl, h3, b3, _⟩; have H3 := Lib.hid h3; have G3 := Lib.hid (gr_of (show Below w.heap.size w w3 from (below_of G2.out).trans b3)); clear h3 b3)
    | (go_at_call 35; refine (Tryz.Builder_String_any_k w.heap.size w.heap.size (onePut x) _ (by rw [onePut, Lib.byteCells_append]; exact H3.out) G3.out.size).mono ?_; rintro e w4 ⟨rfl, _, b4, _⟩; have G4 := Lib.hid (gr_of (show Below w.heap.size w w4 from (below_of G3.out).trans b4)); clear b4))
  go_ret2
  exact ⟨rfl, G4.out⟩
theorem bat_gr {B b : Nat} {p : Value} {bs : List Value} {W W' : World} (h : Lib.BuilderAtF 95 5 B b p bs W) (hg : Gr W W') : Lib.BuilderAtF 95 5 B b p bs W' := by
  obtain ⟨hB, v, hv, hown, hne⟩ := h
  refine ⟨hB, v, gr_h hg hv, hown.kept hg ?_, hne⟩
  cases v.ownBlock with
  | none => exact .inl rfl
  | some g => exact .inr (by simp)
theorem bld_gr {B b : Nat} {bs : List Value} {W W' : World} (h : Lib.IsBuilderF 95 5 B b bs W) (hg : Gr W W') : Lib.IsBuilderF 95 5 B b bs W' := h.elim (fun x => .inl (bat_gr x hg)) (fun x => .inr (bat_gr x hg))
/-- The writer at work: what it holds. -/
structure WS (w0 : World) (acc : T) (V : World) : Prop where
  bu : Lib.IsBuilderF 95 5 w0.heap.size w0.heap.size (Lib.byteCells acc) V
  gr : Gr w0 V
theorem WS.go {w0 V V' : World} {acc : T} (h : WS w0 acc V) (g : Gr V V') : WS w0 acc V' := ⟨bld_gr h.bu g, h.gr.trans g⟩
theorem WS.new (w0 : World) : WS w0 [] (w0.alloc (.cells #[.pointer none, .slice none 0 0] 95)) := ⟨Lib.IsBuilderF.of (Lib.fresh_isBuilder 95 5 w0), gr_al _ _⟩
/-- What stays as it was: what is neither the writer's nor a row of bytes. -/
abbrev OK5 (w0 V V' : World) : Prop := Lib.OthersKept 5 (some w0.heap.size) V V'
theorem ok5_gr {w0 V V' : World} (g : Gr V V') : OK5 w0 V V' := fun _ _ hi _ _ => gr_h g hi
theorem ok5_h {w0 V V' : World} {k : Nat} {cs : Array Value} {t : TypeId} (h : OK5 w0 V V') (ht : t ≠ 5) (hk : k ≠ w0.heap.size) (e : V.heap[k]? = some (.cells cs t (0, 0))) : V'.heap[k]? = some (.cells cs t (0, 0)) := by
  exact h k _ e (by intro e2; exact hk (by simpa using e2)) (fun c fz e2 => by cases e2; exact ht rfl)
/-- What a call of the writer leaves. -/
def WrP (w0 : World) (acc : T) (V : World) (e : Ending) (V' : World) : Prop := e = .returned (.tuple #[]) ∧ WS w0 acc V' ∧ OK5 w0 V V'
attribute [local irreducible] Calls in
set_option maxRecDepth 100000 in
set_option maxHeartbeats 1000000 in
theorem wtail (w0 V V1 : World) (acc x : T) (h : WS w0 acc V) (g : Gr V V1) (hl : acc.length + x.length ≤ 140737488355328) : Calls Tryz.prog 63 #[.pointer (some ⟨w0.heap.size, 0, none⟩), tv x] V1 fun e w' => (∃ v, e = .returned v) ∧ WS w0 (acc ++ x) w' ∧ OK5 w0 V w' := by
  have h1 := h.go g
  refine (writeStringW_any w0.heap.size w0.heap.size _ ⟨x.toArray⟩ V1 h1.bu (by rw [Lib.byteCells_length]; exact hl) h1.gr.size).mono ?_
  rintro e w2 ⟨rfl, h2, b2, k2⟩
  refine ⟨⟨_, rfl⟩, ⟨by rw [Lib.byteCells_append]; exact h2, gr_of ((below_of h1.gr).trans b2)⟩, (ok5_gr g).trans k2⟩
attribute [local irreducible] Calls in
set_option maxRecDepth 100000 in
set_option maxHeartbeats 1000000 in
theorem wnum_any (w0 V : World) (acc : T) (n : Int) (h : WS w0 acc V) (hn : nOk n) (hl : acc.length ≤ 100000000000000) : Calls Tryz.prog 32 #[.pointer (some ⟨w0.heap.size, 0, none⟩), .int .i64 n] V (WrP w0 (acc ++ eN n) V) := by
  obtain ⟨m, rfl⟩ : ∃ m : Nat, n = m := ⟨n.toNat, by have := hn.1; omega⟩
  have hm : m ≤ 1099511627776 := by have := hn.2; omega
  have HW := Lib.hid h
  have e1 : eN (m : Int) = dig m := rfl
  have HS := Lib.hid (dig_six hm)
  rw [e1]
  clear h hn e1
  go_enter Tryz.func32, Tryz.ntmps32
  go_wp2_with (first
    | (go_at_call 62; refine (putInt_any m hm _).mono ?_; rintro e w1 ⟨rfl, g1⟩; have G1 := Lib.hid g1; clear g1)
    | (go_at_call 63; refine (wtail w0 V w1 acc (dig m) HW.out G1.out (by have := HS.out; omega)).mono ?_; rintro e w2 ⟨⟨v, rfl⟩, h2, k2⟩; have H2 := Lib.hid h2; have K2 := Lib.hid k2; clear h2 k2))
  go_end0
  exact ⟨rfl, H2.out, K2.out⟩
attribute [local irreducible] Calls in
set_option maxRecDepth 100000 in
set_option maxHeartbeats 1000000 in
theorem wtext_any (w0 V : World) (acc x : T) (h : WS w0 acc V) (hx : x.length ≤ 65536) (hl : acc.length ≤ 100000000000000) : Calls Tryz.prog 34 #[.pointer (some ⟨w0.heap.size, 0, none⟩), tv x] V (WrP w0 (acc ++ onePut x) V) := by
  have HW := Lib.hid h
  have HS := Lib.hid (show (onePut x).length ≤ 70000 from by have := dig_six (n := x.length) (by omega); unfold onePut; rw [List.length_append]; omega)
  clear h
  go_enter Tryz.func34, Tryz.ntmps34
  go_wp2_with (first
    | (go_at_call 65; refine (putText_any x hx _).mono ?_; rintro e w1 ⟨rfl, g1⟩; have G1 := Lib.hid g1; clear g1)
    | (go_at_call 63; refine (wtail w0 V w1 acc (onePut x) HW.out G1.out (by have := HS.out; omega)).mono ?_; rintro e w2 ⟨⟨v, rfl⟩, h2, k2⟩; have H2 := Lib.hid h2; have K2 := Lib.hid k2; clear h2 k2))
  go_end0
  exact ⟨rfl, H2.out, K2.out⟩
attribute [local irreducible] Calls in
set_option maxRecDepth 100000 in
set_option maxHeartbeats 1000000 in
theorem wsig_any (w0 V : World) (acc : T) (n : Int) (h : WS w0 acc V) (hn : aOk n) (hl : acc.length ≤ 100000000000000) : Calls Tryz.prog 64 #[.pointer (some ⟨w0.heap.size, 0, none⟩), .int .i64 n] V (WrP w0 (acc ++ eA n) V) := by
  obtain ⟨h1, h2⟩ := hn
  by_cases h0 : n < 0
  · have WN := Lib.hid (fun z (hz : z = 2 * -n + 1) => show Calls Tryz.prog 32 #[.pointer (some ⟨w0.heap.size, 0, none⟩), .int .i64 z] V (WrP w0 (acc ++ eA n) V) from by
      have h3 := wnum_any w0 V acc z h ⟨by omega, by omega⟩ hl
      have e : eN z = eA n := by
        unfold eN eA
        rw [if_pos h0]
        congr 1
        omega
      rwa [e] at h3)
    clear h
    go_enter Tryz.func64, Tryz.ntmps64
    go_wp2_with (go_at_call 32; refine (WN.out _ (by omega)).mono ?_; rintro e w1 ⟨rfl, r1, r2⟩; have R1 := Lib.hid r1; have R2 := Lib.hid r2; clear r1 r2)
    go_end0
    exact ⟨rfl, R1.out, R2.out⟩
  · have WN := Lib.hid (fun z (hz : z = 2 * n) => show Calls Tryz.prog 32 #[.pointer (some ⟨w0.heap.size, 0, none⟩), .int .i64 z] V (WrP w0 (acc ++ eA n) V) from by
      have h3 := wnum_any w0 V acc z h ⟨by omega, by omega⟩ hl
      have e : eN z = eA n := by
        unfold eN eA
        rw [if_neg h0]
        congr 1
        omega
      rwa [e] at h3)
    clear h
    go_enter Tryz.func64, Tryz.ntmps64
    go_wp2_with (go_at_call 32; refine (WN.out _ (by omega)).mono ?_; rintro e w1 ⟨rfl, r1, r2⟩; have R1 := Lib.hid r1; have R2 := Lib.hid r2; clear r1 r2)
    go_end0
    exact ⟨rfl, R1.out, R2.out⟩
end Go.Proofs.YtgboboljgcfggaaGreatDoor

/- Walk: the statement ShardOrder. -/
import Derived.Test.YtejipflkdigbbaaLawB
import Derived.Test.YtejipflkdigbbaaQor
import Derived.Test.YtejipflkdigbbaaSms
import Derived.Test.YtejipflkdigbbaaSwr
namespace Go.Proofs.Ytejipflkdigbbaa
open Go.RowKit

set_option maxRecDepth 100000 in
set_option maxHeartbeats 2000000 in
theorem sums23_nil (A B : Option Addr) (c d m : Nat) (w : World) : Calls Try.prog 23 #[.slice A m c, .slice B 0 d] w (SmsPost [] w) := by
  go_enter Try.func23, Try.ntmps23
  go_wp2
  go_loopw [6, 17] (fun v i wr => i = .int .i64 0 ∧ Hid (OT wr w.heap.size v []) ∧ Hid (Below w.heap.size w wr)) (fun _ i _ => 0)
  case atStart => exact ⟨rfl, Lib.hid (ot_empty _ (Nat.le_refl _)), Lib.hid ((Below.refl _ _).alloc (Nat.le_refl _) _)⟩
  case round =>
    obtain ⟨rfl, HO, HBE⟩ := hrel
    go_wp2
    go_ret2
    exact ⟨_, rfl, HO.out, HBE.out⟩

/-- What the law's sums makes of Greedy's parts. -/
def gsm (C : List Int) (n : Int) : List Int := if ca C n = 0 then srt (lds n.toNat (dsc C)) else []
theorem gsm_perm {C D : List Int} (p : C.Perm D) (n : Int) : gsm C n = gsm D n := by unfold gsm; rw [ca_perm p, dsc_of_perm p]
theorem greedy_then (A : Option Addr) (c : Nat) (C : List Int) (n : Int) (W : World) (hA : RD iv W A C) (hS : Sorts C) :
    Calls Try.prog 16 #[.slice A C.length c, .int .i64 n] W fun e w' => ∃ A' d m, e = .returned (.tuple #[.slice A' m d, .int .i64 (ca C n)]) ∧ Below W.heap.size W w' ∧ ∀ B e W2, RD iv W2 B C → Below w'.heap.size w' W2 →
      Calls Try.prog 23 #[.slice B C.length e, .slice A' m d] W2 (SmsPost (gsm C n) W2) := by
  refine (greedy_any A c C n W hA hS).mono ?_
  rintro e w' ⟨A', R, d, rfl, hr, hl, hb⟩
  refine ⟨A', d, R.length, rfl, hb, fun B e W2 hB hb2 => ?_⟩
  by_cases h : ca C n = 0
  · obtain ⟨-, hn1, hn2⟩ := ca_zero.1 h
    obtain ⟨N, rfl⟩ : ∃ N : Nat, n = N := ⟨n.toNat, by omega⟩
    have hlen : R.length = N := by rw [← lls_len, hl]; exact greedy_len h
    have k := sums23_any B A' e d C R W2 hB (hr.below hb2) (by omega) (fit_of (by rw [hl]; exact greedy_ck h))
    rw [hl, greedy_sums h] at k
    unfold gsm
    rw [if_pos h]
    exact k
  · have : R = [] := by
      unfold greedy at hl
      rw [if_neg h] at hl
      unfold lls at hl
      exact List.map_eq_nil_iff.1 hl
    subst this
    unfold gsm
    rw [if_neg h]
    exact sums23_nil B A' e d C.length W2

theorem u8_bd {i : Int} (h : IntKind.u8.min ≤ i ∧ i ≤ IntKind.u8.max) : 0 ≤ i ∧ i < 256 := by
  have e1 : IntKind.u8.min = 0 := rfl
  have e2 : IntKind.u8.max = 255 := rfl
  rw [e1, e2] at h
  omega
set_option maxRecDepth 100000 in
set_option maxHeartbeats 4000000 in
theorem law_order_any (A : Option Addr) (c : Nat) (C : List Int) (n i k : Int) (w : World) (hA : RD iv w A C) (_hc : C.length ≤ c) (hC : C.length ≤ 9223372036854775807) (hi : IntKind.u8.min ≤ i ∧ i ≤ IntKind.u8.max) (hk : IntKind.u8.min ≤ k ∧ k ≤ IntKind.u8.max) :
    Calls Try.prog 9 #[.slice A C.length c, .int .i64 n, .int .u8 i, .int .u8 k] w (Yes w) := by
  have HA := Lib.hid hA
  clear hA
  by_cases h8 : 8 < C.length
  · go_enter Try.func9, Try.ntmps9
    go_wp2_with (first | (go_at_call 11; refine (awake_any _).mono ?_; rintro e w1 ⟨rfl, k1⟩))
    go_ret
    exact ⟨rfl, k1⟩
  by_cases h0 : C.length = 0
  · go_enter Try.func9, Try.ntmps9
    go_wp2_with (first | (go_at_call 11; refine (awake_any _).mono ?_; rintro e w1 ⟨rfl, k1⟩))
    go_ret
    exact ⟨rfl, k1⟩
  have hi0 : 0 ≤ i ∧ i < 256 := u8_bd hi
  have hk0 : 0 ≤ k ∧ k < 256 := u8_bd hk
  obtain ⟨I, rfl⟩ : ∃ I : Nat, i = I := ⟨i.toNat, by omega⟩
  obtain ⟨K, rfl⟩ : ∃ K : Nat, k = K := ⟨k.toNat, by omega⟩
  have ha : I % C.length < C.length := Nat.mod_lt _ (by omega)
  have hb : K % C.length < C.length := Nat.mod_lt _ (by omega)
  have z0 : ((C.length : Int) == 0) = false := by simp; intro e; subst e; simp at h0
  have e0 : (I : Int).tmod (C.length : Int) = ((I % C.length : Nat) : Int) := (Int.ofNat_tmod _ _).symm
  have e0' : (K : Int).tmod (C.length : Int) = ((K % C.length : Nat) : Int) := (Int.ofNat_tmod _ _).symm
  have b0 : Below w.heap.size w (w.alloc (.cells #[] 3)) := (Below.refl _ _).alloc (Nat.le_refl _) _
  have o0 := ot_empty w (Nat.le_refl _)
  have HB0 := Lib.hid b0
  have HO0 := Lib.hid o0
  have hne : C ≠ [] := fun e => by subst e; simp at h0
  clear b0 o0 hi hk
  go_enter Try.func9, Try.ntmps9
  go_upto_region 4 with (at_builtin; refine wpList_app _ rfl (.tmp 37) (.tmp 38) rfl w.heap.size (v := .slice (some ⟨w.heap.size, 0, none⟩) 0 0) rfl HO0.out (M := C) rfl rfl (HA.out.below HB0.out) (by simp; omega) HB0.out.size ?_; intro v1 w1 o1 g1 l1)
  have B1 := Lib.hid (ot_below HB0.out HO0.out g1)
  rw [List.nil_append] at o1
  obtain ⟨g, cap, rfl, hg1, hg2, hcap⟩ := o1.inBlock hne
  obtain ⟨s1, s2⟩ := o1.swap rfl (I % C.length) (K % C.length) (C.getD (I % C.length) 0) (C.getD (K % C.length) 0)
  have ex : Hid (((C.set (I % C.length) (C.getD (K % C.length) 0)).set (K % C.length) (C.getD (I % C.length) 0)).Perm C) := Lib.hid (by
    have := exch_perm C (I % C.length) (K % C.length) ha hb
    simpa [List.getD_eq_getElem?_getD, ha, hb] using this)
  have el : Hid (((C.set (I % C.length) (C.getD (K % C.length) 0)).set (K % C.length) (C.getD (I % C.length) 0)).length = C.length) := Lib.hid (by simp)
  obtain ⟨c1, f1⟩ := o1.at ha
  obtain ⟨c2, f2⟩ := o1.at hb
  obtain ⟨c3, f3⟩ := ((o1.put rfl (I % C.length) (C.getD (K % C.length) 0)).1.at' (by simp) hb)
  obtain ⟨c4, f4⟩ := ((o1.put rfl (K % C.length) (C.getD (I % C.length) 0)).1.at' (by simp) ha)
  simp only [iv] at c3 f3 c4 f4
  have R1 := Lib.hid (HA.out.below B1.out)
  generalize (C.set (I % C.length) (C.getD (K % C.length) 0)).set (K % C.length) (C.getD (I % C.length) 0) = E at *
  generalize C.getD (I % C.length) 0 = x at *
  generalize C.getD (K % C.length) 0 = y at *
  have S1 : Hid (OT ((w1.setCell ⟨g, I % C.length, none⟩ (.int .i64 y)).setCell ⟨g, K % C.length, none⟩ (.int .i64 x)) w.heap.size (.slice (some ⟨g, 0, none⟩) C.length cap) E) := Lib.hid s1
  have S2 : Hid (Below w.heap.size w ((w1.setCell ⟨g, I % C.length, none⟩ (.int .i64 y)).setCell ⟨g, K % C.length, none⟩ (.int .i64 x))) := Lib.hid (Below.setIn B1.out hg1 s2 B1.out.size)
  clear s1 s2 o1 g1 l1
  generalize (C.set (I % C.length) y).getD (K % C.length) 0 = z3 at *
  generalize (C.set (K % C.length) x).getD (I % C.length) 0 = z4 at *
  generalize I % C.length = a at *
  generalize K % C.length = b at *
  have t1 : (0 : Int) ≤ (a : Int) := by omega
  have t2 : (a : Int) < (C.length : Int) := by omega
  have t3 : (0 : Int) ≤ (b : Int) := by omega
  have t4 : (b : Int) < (C.length : Int) := by omega
  have O5 : Hid (OT (((w1.setCell ⟨g, a, none⟩ (.int .i64 y)).setCell ⟨g, b, none⟩ (.int .i64 x)).drew.drew) w.heap.size (.slice (some ⟨g, 0, none⟩) C.length cap) E) := S1
  have B5 : Hid (Below w.heap.size w (((w1.setCell ⟨g, a, none⟩ (.int .i64 y)).setCell ⟨g, b, none⟩ (.int .i64 x)).drew.drew)) := Lib.hid (below_drewN S2.out 2)
  clear S1 S2 R1 B1
  have l1 : Hid (ca E n = ca C n) := Lib.hid (ca_perm ex.out n)
  have l2 : Hid (least E n = least C n) := Lib.hid (least_perm ex.out n)
  have l3 : Hid (bst E n = bst C n) := Lib.hid (bst_perm ex.out n)
  have l4 : Hid (gsm E n = gsm C n) := Lib.hid (gsm_perm ex.out n)
  go_region
  go_upto_region 5 with (fail)
  go_region
  generalize (((w1.setCell ⟨g, a, none⟩ (.int .i64 y)).setCell ⟨g, b, none⟩ (.int .i64 x)).drew.drew) = W5 at *
  have LE := fun W h => leastF_any A c C n W h
  have LE2 := fun W h => leastF_any (some ⟨g, 0, none⟩) cap E n W h
  have BE := fun W h => bestP_any A c C n W h
  have BE2 := fun W h => bestP_any (some ⟨g, 0, none⟩) cap E n W h
  have GR := fun W h => greedy_then A c C n W h (sorts_small (by omega))
  have GR2 := fun W h => greedy_then (some ⟨g, 0, none⟩) cap E n W h (sorts_small (by have := el.out; omega))
  have e5 : bstE E n = bstE C n := by unfold bstE; rw [l1.out, el.out]
  rw [l1.out, l2.out, el.out] at LE2
  rw [l3.out, e5, el.out] at BE2
  rw [l1.out, l4.out, el.out] at GR2
  have RE := Lib.hid (O5.out.rd')
  have gl : (gsm C n).length ≤ 100 := by
    unfold gsm
    split
    · rename_i hz
      rw [srt_len]
      have h1 := ca_zero.1 hz
      obtain ⟨N, rfl⟩ : ∃ N : Nat, n = N := ⟨n.toNat, by omega⟩
      have := greedy_sums hz
      have h2 : (sums C (greedy C N)).length = N := by unfold sums; rw [List.length_map]; exact greedy_len hz
      rw [this] at h2
      simp only [Int.toNat_natCast]
      omega
    · simp
  generalize (if ca C n = 0 then least C n else 0) = lo at *
  generalize bst C n = be at *
  generalize bstE C n = bz at *
  generalize ca C n = cz at *
  generalize gsm C n = gm at *
  have HLE := Lib.hid LE
  have HLE2 := Lib.hid LE2
  have HBE := Lib.hid BE
  have HBE2 := Lib.hid BE2
  have HGR := Lib.hid GR
  have HGR2 := Lib.hid GR2
  have GL := Lib.hid gl
  clear LE LE2 BE BE2 GR GR2 O5 HB0 HO0 ex e5 l1 l2 l3 l4 gl
  go_wp2_with (first
    | (go_at_call 18; refine (HLE.out _ (HA.out.below B5.out)).mono ?_; rintro e w2 ⟨rfl, k2⟩; have K2 := Lib.hid k2; clear k2 HLE)
    | (go_at_call 18; refine (HLE2.out _ (RE.out.below K2.out)).mono ?_; rintro e w3 ⟨rfl, k3⟩; have K3 := Lib.hid (K2.out.trans (k3.mono K2.out.size)); clear k3 HLE2)
    | (go_at_call 21; refine (HBE.out _ ((HA.out.below B5.out).below K3.out)).mono ?_; rintro e w4 ⟨rfl, k4⟩; have K4 := Lib.hid (K3.out.trans (k4.mono K3.out.size)); clear k4 HBE)
    | (go_at_call 21; refine (HBE2.out _ (RE.out.below K4.out)).mono ?_; rintro e w5 ⟨rfl, k5⟩; have K5 := Lib.hid (K4.out.trans (k5.mono K4.out.size)); clear k5 HBE2)
    | (go_at_call 16; refine (HGR.out _ ((HA.out.below B5.out).below K5.out)).mono ?_; rintro e w6 ⟨A6, d6, m6, rfl, k6, s6⟩; have K6 := Lib.hid (K5.out.trans (k6.mono K5.out.size)); have S6 := Lib.hid s6; clear k6 s6 HGR)
    | (go_at_call 16; refine (HGR2.out _ (RE.out.below K6.out)).mono ?_; rintro e w7 ⟨A7, d7, m7, rfl, k7, s7⟩; have K7 := Lib.hid (K6.out.trans (k7.mono K6.out.size)); have L7 := Lib.hid k7; have S7 := Lib.hid s7; clear k7 s7 HGR2)
    | (go_at_call 23; refine (S6.out A c _ ((HA.out.below B5.out).below K7.out) L7.out).mono ?_; rintro e w8 ⟨v8, rfl, o8, k8⟩; have K8 := Lib.hid (K7.out.trans (k8.mono K7.out.size)); obtain ⟨A8, c8, rfl, -, r8, -⟩ := o8.form; have L8 := Lib.hid k8; have R8 := Lib.hid r8; clear k8 o8 r8 S6)
    | (go_at_call 23; refine (S7.out (some ⟨g, 0, none⟩) cap _ (RE.out.below K8.out) L8.out).mono ?_; rintro e w9 ⟨v9, rfl, o9, k9⟩; have K9 := Lib.hid (K8.out.trans (k9.mono K8.out.size)); obtain ⟨A9, c9, rfl, -, r9, -⟩ := o9.form; have L9 := Lib.hid k9; have R9 := Lib.hid r9; clear k9 o9 r9 S7)
    | (go_at_call 24; (refine (sameInts_any A8 A9 c8 c9 gm gm _ (R8.out.below L9.out) R9.out (by have := GL.out; omega)).mono ?_; rintro e w10 ⟨he, n10, rfl⟩; have he2 : e = .returned (.bool true) := he.trans (by rw [decide_eq_true (rfl : gm = gm)]); clear he; subst he2; have K10 := Lib.hid (below_drewN K9.out n10)))
    | (go_at_call 11; refine (awake_any _).mono ?_; rintro e w11 ⟨rfl, k11⟩; have K11 := Lib.hid (K10.out.trans (k11.mono K10.out.size)); clear k11))
  go_ret
  exact ⟨rfl, B5.out.trans (K11.out.mono B5.out.size)⟩
end Go.Proofs.Ytejipflkdigbbaa

/- Walk: the statement ConflictCheck. -/
import Derived.Test.YtgenloemohcpcaaMem
import Derived.Test.YtgenloemohcpcaaREnc
import Derived.Test.YtgenloemohcpcaaLawUndo
namespace Go.Proofs.Ytgenloemohcpcaa
open Go.RowKit

theorem s1_new (W : World) (s : SR) : ∀ j (h : j < [s].length), (W.alloc (.cells #[.slice s.A s.L.length s.c, .slice s.B s.M.length s.d] 24)).cell? ⟨W.heap.size, j * 2, none⟩ = some (.slice [s][j].A [s][j].L.length [s][j].c) ∧ (W.alloc (.cells #[.slice s.A s.L.length s.c, .slice s.B s.M.length s.d] 24)).cell? ⟨W.heap.size, j * 2 + 1, none⟩ = some (.slice [s][j].B [s][j].M.length [s][j].d) := by
  intro j h
  have : j = 0 := by simpa using h
  subst this
  exact two_cells W (Value.slice s.A s.L.length s.c) (Value.slice s.B s.M.length s.d) 24

set_option maxRecDepth 100000 in
set_option maxHeartbeats 8000000 in
theorem check_great (s : SR) (x : T) (w : World) (hs : s.Rd0 w) (hg : grs [s] = true) :
    Calls Try.prog 7 #[s.val, tv x] w fun e w' => e = .returned (.bool true) ∧ Below w.heap.size w w' := by
  have ss := s1_new (w.alloc (.cells #[.slice s.A s.L.length s.c, .slice s.B s.M.length s.d] 24)) s
  have hz : (w.alloc (.cells #[.slice s.A s.L.length s.c, .slice s.B s.M.length s.d] 24)).heap.size = w.heap.size + 1 := by simp
  rw [hz] at ss
  have k : Below w.heap.size w ((w.alloc (.cells #[.slice s.A s.L.length s.c, .slice s.B s.M.length s.d] 24)).alloc (.cells #[.slice s.A s.L.length s.c, .slice s.B s.M.length s.d] 24)) := ((Below.refl _ _).alloc (Nat.le_refl _) _).alloc (by simp) _
  have g1 : w.heap.size + 1 < ((w.alloc (.cells #[.slice s.A s.L.length s.c, .slice s.B s.M.length s.d] 24)).alloc (.cells #[.slice s.A s.L.length s.c, .slice s.B s.M.length s.d] 24)).heap.size := by simp
  have bk : BK ((w.alloc (.cells #[.slice s.A s.L.length s.c, .slice s.B s.M.length s.d] 24)).alloc (.cells #[.slice s.A s.L.length s.c, .slice s.B s.M.length s.d] 24)) w.heap.size (.slice s.A s.L.length s.c) (.slice s.B s.M.length s.d) := (BK.new w _ _).alloc _
  have SSN := Lib.hid ss
  have K := Lib.hid k
  have HG := Lib.hid hg
  have KK := Lib.hid bk
  clear ss hz k hg bk
  unfold SR.val
  go_enter Try.func7, Try.ntmps7
  go_wp2_with fail
  generalize (w.alloc (.cells #[.slice s.A s.L.length s.c, .slice s.B s.M.length s.d] 24)).alloc (.cells #[.slice s.A s.L.length s.c, .slice s.B s.M.length s.d] 24) = W at *
  refine (great0_any [s] (w.heap.size + 1) 1 W g1 (fun t ht => by simp only [List.mem_cons, List.not_mem_nil, or_false] at ht; subst ht; exact hs.below K.out) (by simp) (fun j hj => (SSN.out j hj).1) (fun j hj => (SSN.out j hj).2)).mono ?_
  rintro e w1 ⟨rfl, k1⟩
  rw [HG.out]
  have K1 := Lib.hid (K.out.trans (k1.mono K.out.size))
  clear k1 K SSN g1 KK
  go_wp2_with fail
  refine (awake_any _).mono ?_
  rintro e w2 ⟨rfl, k2⟩
  have K2 := Lib.hid (K1.out.trans (k2.mono K1.out.size))
  clear k2
  go_wp2_with fail
  go_ret
  exact ⟨rfl, K2.out⟩

set_option maxRecDepth 100000 in
set_option maxHeartbeats 8000000 in
theorem check_long (s : SR) (x : T) (w : World) (hs : s.Rd w) (hg : grs [s] = false) (h1 : 100 < x.length) :
    Calls Try.prog 7 #[s.val, tv x] w fun e w' => e = .returned (.bool true) ∧ Below w.heap.size w w' := by
  have ss := s1_new (w.alloc (.cells #[.slice s.A s.L.length s.c, .slice s.B s.M.length s.d] 24)) s
  have hz : (w.alloc (.cells #[.slice s.A s.L.length s.c, .slice s.B s.M.length s.d] 24)).heap.size = w.heap.size + 1 := by simp
  rw [hz] at ss
  have k : Below w.heap.size w ((w.alloc (.cells #[.slice s.A s.L.length s.c, .slice s.B s.M.length s.d] 24)).alloc (.cells #[.slice s.A s.L.length s.c, .slice s.B s.M.length s.d] 24)) := ((Below.refl _ _).alloc (Nat.le_refl _) _).alloc (by simp) _
  have g1 : w.heap.size + 1 < ((w.alloc (.cells #[.slice s.A s.L.length s.c, .slice s.B s.M.length s.d] 24)).alloc (.cells #[.slice s.A s.L.length s.c, .slice s.B s.M.length s.d] 24)).heap.size := by simp
  have bk : BK ((w.alloc (.cells #[.slice s.A s.L.length s.c, .slice s.B s.M.length s.d] 24)).alloc (.cells #[.slice s.A s.L.length s.c, .slice s.B s.M.length s.d] 24)) w.heap.size (.slice s.A s.L.length s.c) (.slice s.B s.M.length s.d) := (BK.new w _ _).alloc _
  have SSN := Lib.hid ss
  have K := Lib.hid k
  have HG := Lib.hid hg
  have KK := Lib.hid bk
  clear ss hz k hg bk
  unfold SR.val
  go_enter Try.func7, Try.ntmps7
  go_wp2_with fail
  generalize (w.alloc (.cells #[.slice s.A s.L.length s.c, .slice s.B s.M.length s.d] 24)).alloc (.cells #[.slice s.A s.L.length s.c, .slice s.B s.M.length s.d] 24) = W at *
  refine (great_any [s] (w.heap.size + 1) 1 W g1 (fun t ht => by simp only [List.mem_cons, List.not_mem_nil, or_false] at ht; subst ht; exact hs.below K.out) (by simp) (fun j hj => (SSN.out j hj).1) (fun j hj => (SSN.out j hj).2)).mono ?_
  rintro e w1 ⟨rfl, k1⟩
  rw [HG.out]
  have K1 := Lib.hid (K.out.trans (k1.mono K.out.size))
  clear k1 K SSN g1 KK
  go_wp2_with fail
  refine (awake_any _).mono ?_
  rintro e w2 ⟨rfl, k2⟩
  have K2 := Lib.hid (K1.out.trans (k2.mono K1.out.size))
  clear k2
  go_wp2_with fail
  go_ret
  exact ⟨rfl, K2.out⟩

set_option maxRecDepth 100000 in
set_option maxHeartbeats 8000000 in
theorem check_main (s : SR) (x : T) (w : World) (hs : s.Rd w) (hg : grs [s] = false) (h1 : ¬ 100 < x.length) :
    Calls Try.prog 7 #[s.val, tv x] w fun e w' => e = .returned (.bool true) ∧ Below w.heap.size w w' := by
  have ss := s1_new (w.alloc (.cells #[.slice s.A s.L.length s.c, .slice s.B s.M.length s.d] 24)) s
  have hz : (w.alloc (.cells #[.slice s.A s.L.length s.c, .slice s.B s.M.length s.d] 24)).heap.size = w.heap.size + 1 := by simp
  rw [hz] at ss
  have k : Below w.heap.size w ((w.alloc (.cells #[.slice s.A s.L.length s.c, .slice s.B s.M.length s.d] 24)).alloc (.cells #[.slice s.A s.L.length s.c, .slice s.B s.M.length s.d] 24)) := ((Below.refl _ _).alloc (Nat.le_refl _) _).alloc (by simp) _
  have g1 : w.heap.size + 1 < ((w.alloc (.cells #[.slice s.A s.L.length s.c, .slice s.B s.M.length s.d] 24)).alloc (.cells #[.slice s.A s.L.length s.c, .slice s.B s.M.length s.d] 24)).heap.size := by simp
  have bk : BK ((w.alloc (.cells #[.slice s.A s.L.length s.c, .slice s.B s.M.length s.d] 24)).alloc (.cells #[.slice s.A s.L.length s.c, .slice s.B s.M.length s.d] 24)) w.heap.size (.slice s.A s.L.length s.c) (.slice s.B s.M.length s.d) := (BK.new w _ _).alloc _
  have SSN := Lib.hid ss
  have K := Lib.hid k
  have HG := Lib.hid hg
  have KK := Lib.hid bk
  clear ss hz k hg bk
  unfold SR.val
  go_enter Try.func7, Try.ntmps7
  go_wp2_with fail
  generalize (w.alloc (.cells #[.slice s.A s.L.length s.c, .slice s.B s.M.length s.d] 24)).alloc (.cells #[.slice s.A s.L.length s.c, .slice s.B s.M.length s.d] 24) = W at *
  refine (great_any [s] (w.heap.size + 1) 1 W g1 (fun t ht => by simp only [List.mem_cons, List.not_mem_nil, or_false] at ht; subst ht; exact hs.below K.out) (by simp) (fun j hj => (SSN.out j hj).1) (fun j hj => (SSN.out j hj).2)).mono ?_
  rintro e w1 ⟨rfl, k1⟩
  rw [HG.out]
  have m0 := Lib.hid (show Mem w w1 [(w.heap.size, s)] from ⟨K.out.trans (k1.mono K.out.size), fun p hp => by simp only [List.mem_cons, List.not_mem_nil, or_false] at hp; subst hp; exact ⟨KK.out.below k1 KK.out.lt, (hs.below K.out).below k1⟩⟩)
  clear k1 K SSN g1 KK HG hs
  have fa1 := (m0.out.bk (g := w.heap.size) (s := s) (by simp)).c0
  have fb1 := (m0.out.bk (g := w.heap.size) (s := s) (by simp)).c1
  have fl2 := (m0.out.bk (g := w.heap.size) (s := s) (by simp)).lt
  go_wp2_with fail
  refine (value_any s.A s.B s.c s.d s.L s.M w1 (m0.out.rd (g := w.heap.size) (s := s) (by simp)).a (m0.out.rd (g := w.heap.size) (s := s) (by simp)).b (by have := (m0.out.rd (g := w.heap.size) (s := s) (by simp)).la; omega) (m0.out.rd (g := w.heap.size) (s := s) (by simp)).lb).mono ?_
  rintro e w3 ⟨rfl, k3⟩
  have m3 := Lib.hid (m0.out.below k3)
  clear fa1 fb1 fl2 k3 m0
  have fa4 := (m3.out.bk (g := w.heap.size) (s := s) (by simp)).c0
  have fb4 := (m3.out.bk (g := w.heap.size) (s := s) (by simp)).c1
  have fl5 := (m3.out.bk (g := w.heap.size) (s := s) (by simp)).lt
  go_wp2_with fail
  refine (rvalue_any s.A s.B s.c s.d s.L s.M w3 (m3.out.rd (g := w.heap.size) (s := s) (by simp)).a (m3.out.rd (g := w.heap.size) (s := s) (by simp)).b (by have := (m3.out.rd (g := w.heap.size) (s := s) (by simp)).la; omega) (m3.out.rd (g := w.heap.size) (s := s) (by simp)).lb).mono ?_
  rintro e w6 ⟨rfl, k6⟩
  have m6 := Lib.hid (m3.out.below k6)
  clear fa4 fb4 fl5 k6 m3
  have fa7 := (m6.out.bk (g := w.heap.size) (s := s) (by simp)).c0
  have fb7 := (m6.out.bk (g := w.heap.size) (s := s) (by simp)).c1
  have fl8 := (m6.out.bk (g := w.heap.size) (s := s) (by simp)).lt
  go_wp2_with fail
  refine (encode_any s.A s.B s.c s.d s.L s.M w6 (m6.out.rd (g := w.heap.size) (s := s) (by simp)).a (m6.out.rd (g := w.heap.size) (s := s) (by simp)).b (by have := (m6.out.rd (g := w.heap.size) (s := s) (by simp)).la; omega) (m6.out.rd (g := w.heap.size) (s := s) (by simp)).lb).mono ?_
  rintro e w9 ⟨rfl, k9⟩
  have m9 := Lib.hid (m6.out.below k9)
  clear fa7 fb7 fl8 k9 m6
  have fa10 := (m9.out.bk (g := w.heap.size) (s := s) (by simp)).c0
  have fb10 := (m9.out.bk (g := w.heap.size) (s := s) (by simp)).c1
  have fl11 := (m9.out.bk (g := w.heap.size) (s := s) (by simp)).lt
  go_wp2_with fail
  refine (rencode_any s.A s.B s.c s.d s.L s.M w9 (m9.out.rd (g := w.heap.size) (s := s) (by simp)).a (m9.out.rd (g := w.heap.size) (s := s) (by simp)).b (by have := (m9.out.rd (g := w.heap.size) (s := s) (by simp)).la; omega) (m9.out.rd (g := w.heap.size) (s := s) (by simp)).lb).mono ?_
  rintro e w12 ⟨rfl, k12⟩
  have m12 := Lib.hid (m9.out.below k12)
  clear fa10 fb10 fl11 k12 m9
  have fa13 := (m12.out.bk (g := w.heap.size) (s := s) (by simp)).c0
  have fb13 := (m12.out.bk (g := w.heap.size) (s := s) (by simp)).c1
  have fl14 := (m12.out.bk (g := w.heap.size) (s := s) (by simp)).lt
  go_wp2_with fail
  have R := Lib.hid (m12.out.rd (g := w.heap.size) (s := s) (by simp))
  have HS := Lib.hid (show ∀ W', Below w12.heap.size w12 W' → (W'.cell? ⟨w.heap.size, 0, none⟩ = some (.slice s.A s.L.length s.c) ∧ W'.cell? ⟨w.heap.size, 1, none⟩ = some (.slice s.B s.M.length s.d)) from fun W' hW => ⟨(hW.cell (p := ⟨w.heap.size, 0, none⟩) fl14).trans fa13, (hW.cell (p := ⟨w.heap.size, 1, none⟩) fl14).trans fb13⟩)
  obtain ⟨ck, hck⟩ : ∃ ck, chk s.L s.M = ck := ⟨_, rfl⟩
  obtain ⟨si, hsi⟩ : ∃ si, sides s.L s.M = si := ⟨_, rfl⟩
  rw [hck]
  have HCK := Lib.hid hck
  have HSI := Lib.hid hsi
  clear hck hsi
  generalize valS s.L s.M = vs
  generalize valB s.L s.M = vb
  generalize enc s.L s.M = en
  have e1 : (ck == ck) = true := by simp
  have e2 : (vs == vs) = true := by simp
  have e3 : (vb == vb) = true := by simp
  have e4 : (en == en) = true := by simp
  have e5 : (si == si) = true := by simp
  go_region_held3 (fun w' => w'.cell? ⟨w.heap.size, 0, none⟩ = some (.slice s.A s.L.length s.c) ∧ w'.cell? ⟨w.heap.size, 1, none⟩ = some (.slice s.B s.M.length s.d))
    (first | exact HS.out _ Kh | exact HS.out _ Kg | exact HS.out _ Kf | exact HS.out _ Ke | exact HS.out _ Kd | exact HS.out _ Kc | exact HS.out _ Kb | exact HS.out _ Ka | go_keep)
    (first
      | (go_at_call 15; refine (check_any s.A s.B s.c s.d s.L s.M _ (by exact R.out.a) (by exact R.out.b) (by have := R.out.la; omega) R.out.lb).mono ?_; rintro e wa ⟨rfl, ka⟩; rw [HCK.out]; have Ka : Below w12.heap.size w12 wa := (by first | exact undrew ka | exact ka); clear ka; simp only)
      | (go_at_call 22; refine (rcheck_any s.A s.B s.c s.d s.L s.M _ (by exact (R.out.below Ka).a) (by exact (R.out.below Ka).b) (by have := R.out.la; omega) R.out.lb).mono ?_; rintro e wb ⟨rfl, kb⟩; rw [HCK.out]; have Kb : Below w12.heap.size w12 wb := (by exact Ka.trans (kb.mono Ka.size)); clear kb; simp only)
      | (go_at_call 16; refine (of_any x _).mono ?_; rintro e wc ⟨sc, rfl, rc, ac, bc, kc⟩; have Kc : Below w12.heap.size w12 wc := (by exact Kb.trans (kc.mono Kb.size)); have Pc := Lib.hid (one_p ac bc); clear kc ac bc; unfold SR.val; simp only)
      | (go_at_call 23; refine (rof_any x _).mono ?_; rintro e wd ⟨sd, rfl, rd, ad, bd, kd⟩; have Kd : Below w12.heap.size w12 wd := (by exact Kc.trans (kd.mono Kc.size)); replace rc := rc.below kd; have Pd := Lib.hid (one_p ad bd); clear kd ad bd; unfold SR.val; simp only)
      | (go_at_call 14; refine (same2_any sc.A sc.B sd.A sd.B sc.c sc.d sd.c sd.d sc.L sc.M sd.L sd.M _ (by exact rc.a) (by exact rc.b) (by exact rd.a) (by exact rd.b) (by have := rc.la; omega) (by have := rc.lb; omega)).mono ?_; rintro e we ⟨rfl, ke⟩; rw [same_of_p (s := sc) (t := sd) (Pc.out.trans Pd.out.symm)]; have Ke : Below w12.heap.size w12 we := (by exact Kd.trans (ke.mono Kd.size)); clear ke; simp only)
      | (go_at_call 18; refine (sides_any s.A s.B s.c s.d s.L s.M _ (by exact (R.out.below Ke).a) (by exact (R.out.below Ke).b) (by have := R.out.la; omega) R.out.lb).mono ?_; rintro e wf ⟨rfl, kf⟩; rw [HSI.out]; have Kf : Below w12.heap.size w12 wf := (by exact Ke.trans (kf.mono Ke.size)); clear kf; simp only)
      | (go_at_call 24; refine (rsides_any s.A s.B s.c s.d s.L s.M _ (by exact (R.out.below Kf).a) (by exact (R.out.below Kf).b) (by have := R.out.la; omega) R.out.lb).mono ?_; rintro e wg ⟨rfl, kg⟩; rw [HSI.out]; have Kg : Below w12.heap.size w12 wg := (by exact Kf.trans (kg.mono Kf.size)); clear kg; simp only)
      | (go_at_call 11; refine (awake_any _).mono ?_; rintro e wh ⟨rfl, kh⟩; have Kh : Below w12.heap.size w12 wh := (by exact Kg.trans (kh.mono Kg.size)); clear kh; simp only))
  all_goals go_wp2_with fail
  all_goals go_ret
  all_goals exact ⟨rfl, m12.out.be.trans (Kh.mono m12.out.be.size)⟩

theorem law_check_any (s : SR) (x : T) (w : World) (hs : s.Rd0 w) :
    Calls Try.prog 7 #[s.val, tv x] w fun e w' => e = .returned (.bool true) ∧ Below w.heap.size w w' := by
  cases hg : grs [s] with
  | true => exact check_great s x w hs hg
  | false =>
    have q : gr s.L s.M = false := by simpa [grs] using hg
    by_cases h1 : 100 < x.length
    · exact check_long s x w (hs.small q) hg h1
    · exact check_main s x w (hs.small q) hg h1
end Go.Proofs.Ytgenloemohcpcaa

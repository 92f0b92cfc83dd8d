/- Walks: the statements ConflictRoundTrip and ConflictDecode. -/
import Derived.Test.YtgenloemohcpcaaDecE
import Derived.Test.YtgenloemohcpcaaMem
namespace Go.Proofs.Ytgenloemohcpcaa
open Go.RowKit

theorem s1_newR (W : World) (s : SR) : ∀ j (h : j < [s].length), (W.alloc (.cells #[.slice s.A s.L.length s.c, .slice s.B s.M.length s.d] 24)).cell? ⟨W.heap.size, j * 2, none⟩ = some (.slice [s][j].A [s][j].L.length [s][j].c) ∧ (W.alloc (.cells #[.slice s.A s.L.length s.c, .slice s.B s.M.length s.d] 24)).cell? ⟨W.heap.size, j * 2 + 1, none⟩ = some (.slice [s][j].B [s][j].M.length [s][j].d) := by
  intro j h
  have : j = 0 := by simpa using h
  subst this
  exact two_cells W (Value.slice s.A s.L.length s.c) (Value.slice s.B s.M.length s.d) 24
theorem enc_len {L M : List T} (h : chk L M = 0) : (enc L M).length ≤ 1000000000 := by
  have ok := chk_zero.1 h
  have z1 := putTexts_len ok.most ok.la
  have z2 := putTexts_len (L := M) (by have := ok.len; have := ok.most; omega) ok.lr
  simp only [enc, h, if_true, List.length_append]
  omega

set_option maxRecDepth 100000 in
set_option maxHeartbeats 4000000 in
theorem rt_great (s : SR) (w : World) (hs : s.Rd0 w) (hg : grs [s] = true) :
    Calls Try.prog 9 #[s.val] w fun e w' => e = .returned (.bool true) ∧ Below w.heap.size w w' := by
  have ss := s1_newR (w.alloc (Obj.cells #[Value.slice s.A s.L.length s.c, Value.slice s.B s.M.length s.d] 24)) s
  have hz : (w.alloc (Obj.cells #[Value.slice s.A s.L.length s.c, Value.slice s.B s.M.length s.d] 24)).heap.size = w.heap.size + 1 := by simp
  rw [hz] at ss
  have k : Below w.heap.size w ((w.alloc (Obj.cells #[Value.slice s.A s.L.length s.c, Value.slice s.B s.M.length s.d] 24)).alloc (Obj.cells #[Value.slice s.A s.L.length s.c, Value.slice s.B s.M.length s.d] 24)) := ((Below.refl _ _).alloc (Nat.le_refl _) _).alloc (by simp) _
  have g1 : w.heap.size + 1 < ((w.alloc (Obj.cells #[Value.slice s.A s.L.length s.c, Value.slice s.B s.M.length s.d] 24)).alloc (Obj.cells #[Value.slice s.A s.L.length s.c, Value.slice s.B s.M.length s.d] 24)).heap.size := by simp
  have bk : BK ((w.alloc (Obj.cells #[Value.slice s.A s.L.length s.c, Value.slice s.B s.M.length s.d] 24)).alloc (Obj.cells #[Value.slice s.A s.L.length s.c, Value.slice s.B s.M.length s.d] 24)) w.heap.size (.slice s.A s.L.length s.c) (.slice s.B s.M.length s.d) := (BK.new w _ _).alloc _
  have SSN := Lib.hid ss
  have K := Lib.hid k
  have HG := Lib.hid hg
  have KK := Lib.hid bk
  clear ss hz k hg bk
  unfold SR.val
  go_enter Try.func9, Try.ntmps9
  go_wp2_with fail
  generalize (w.alloc (Obj.cells #[Value.slice s.A s.L.length s.c, Value.slice s.B s.M.length s.d] 24)).alloc (Obj.cells #[Value.slice s.A s.L.length s.c, Value.slice s.B s.M.length s.d] 24) = W at *
  refine (great0_any [s] (w.heap.size + 1) 1 W g1 (fun t ht => by simp only [List.mem_cons, List.not_mem_nil, or_false] at ht; subst ht; exact hs.below K.out) (by simp) (fun j hj => (SSN.out j hj).1) (fun j hj => (SSN.out j hj).2)).mono ?_
  rintro e w1 ⟨rfl, k1⟩
  rw [HG.out]
  have K1 := Lib.hid (K.out.trans (k1.mono K.out.size))
  clear k1 K SSN g1 KK
  go_wp2_with fail
  refine (awake_any _).mono ?_
  rintro e w2 ⟨rfl, k2⟩
  have K2 := Lib.hid (K1.out.trans (k2.mono K1.out.size))
  clear k2
  go_wp2_with fail
  go_ret
  exact ⟨rfl, K2.out⟩

set_option maxRecDepth 100000 in
set_option maxHeartbeats 4000000 in
theorem rt_bad (s : SR) (w : World) (hs : s.Rd w) (hg : grs [s] = false) (hc : chk s.L s.M ≠ 0) :
    Calls Try.prog 9 #[s.val] w fun e w' => e = .returned (.bool true) ∧ Below w.heap.size w w' := by
  have q0 : (chk s.L s.M != 0) = true := by simpa using hc
  have q1 : (chk s.L s.M == chk s.L s.M) = true := by simp
  have EN := Lib.hid (show enc s.L s.M = [] by simp [enc, hc])
  clear hc
  have ss := s1_newR (w.alloc (Obj.cells #[Value.slice s.A s.L.length s.c, Value.slice s.B s.M.length s.d] 24)) s
  have hz : (w.alloc (Obj.cells #[Value.slice s.A s.L.length s.c, Value.slice s.B s.M.length s.d] 24)).heap.size = w.heap.size + 1 := by simp
  rw [hz] at ss
  have k : Below w.heap.size w ((w.alloc (Obj.cells #[Value.slice s.A s.L.length s.c, Value.slice s.B s.M.length s.d] 24)).alloc (Obj.cells #[Value.slice s.A s.L.length s.c, Value.slice s.B s.M.length s.d] 24)) := ((Below.refl _ _).alloc (Nat.le_refl _) _).alloc (by simp) _
  have g1 : w.heap.size + 1 < ((w.alloc (Obj.cells #[Value.slice s.A s.L.length s.c, Value.slice s.B s.M.length s.d] 24)).alloc (Obj.cells #[Value.slice s.A s.L.length s.c, Value.slice s.B s.M.length s.d] 24)).heap.size := by simp
  have bk : BK ((w.alloc (Obj.cells #[Value.slice s.A s.L.length s.c, Value.slice s.B s.M.length s.d] 24)).alloc (Obj.cells #[Value.slice s.A s.L.length s.c, Value.slice s.B s.M.length s.d] 24)) w.heap.size (.slice s.A s.L.length s.c) (.slice s.B s.M.length s.d) := (BK.new w _ _).alloc _
  have SSN := Lib.hid ss
  have K := Lib.hid k
  have HG := Lib.hid hg
  have KK := Lib.hid bk
  clear ss hz k hg bk
  unfold SR.val
  go_enter Try.func9, Try.ntmps9
  go_wp2_with fail
  generalize (w.alloc (Obj.cells #[Value.slice s.A s.L.length s.c, Value.slice s.B s.M.length s.d] 24)).alloc (Obj.cells #[Value.slice s.A s.L.length s.c, Value.slice s.B s.M.length s.d] 24) = W at *
  refine (great_any [s] (w.heap.size + 1) 1 W g1 (fun t ht => by simp only [List.mem_cons, List.not_mem_nil, or_false] at ht; subst ht; exact hs.below K.out) (by simp) (fun j hj => (SSN.out j hj).1) (fun j hj => (SSN.out j hj).2)).mono ?_
  rintro e w1 ⟨rfl, k1⟩
  rw [HG.out]
  have m0 := Lib.hid (show Mem w w1 [(w.heap.size, s)] from ⟨K.out.trans (k1.mono K.out.size), fun p hp => by simp only [List.mem_cons, List.not_mem_nil, or_false] at hp; subst hp; exact ⟨KK.out.below k1 KK.out.lt, (hs.below K.out).below k1⟩⟩)
  clear k1 K SSN g1 KK HG hs
  have fa1 := (m0.out.bk (g := w.heap.size) (s := s) (by simp)).c0
  have fb1 := (m0.out.bk (g := w.heap.size) (s := s) (by simp)).c1
  have fl2 := (m0.out.bk (g := w.heap.size) (s := s) (by simp)).lt
  go_wp2_with fail
  refine (encode_any s.A s.B s.c s.d s.L s.M w1 (m0.out.rd (g := w.heap.size) (s := s) (by simp)).a (m0.out.rd (g := w.heap.size) (s := s) (by simp)).b (by have := (m0.out.rd (g := w.heap.size) (s := s) (by simp)).la; omega) (m0.out.rd (g := w.heap.size) (s := s) (by simp)).lb).mono ?_
  rintro e w3 ⟨rfl, k3⟩
  rw [EN.out]
  have m3 := Lib.hid (m0.out.below k3)
  clear fa1 fb1 fl2 k3 m0
  have fa4 := (m3.out.bk (g := w.heap.size) (s := s) (by simp)).c0
  have fb4 := (m3.out.bk (g := w.heap.size) (s := s) (by simp)).c1
  have fl5 := (m3.out.bk (g := w.heap.size) (s := s) (by simp)).lt
  go_wp2_with fail
  refine (check_any s.A s.B s.c s.d s.L s.M w3 (m3.out.rd (g := w.heap.size) (s := s) (by simp)).a (m3.out.rd (g := w.heap.size) (s := s) (by simp)).b (by have := (m3.out.rd (g := w.heap.size) (s := s) (by simp)).la; omega) (m3.out.rd (g := w.heap.size) (s := s) (by simp)).lb).mono ?_
  rintro e w6 ⟨rfl, k6⟩
  have m6 := Lib.hid (m3.out.below k6)
  clear fa4 fb4 fl5 k6 m3
  go_wp2_with fail
  refine (awake_any _).mono ?_
  rintro e w7 ⟨rfl, k7⟩
  have m7 := Lib.hid (m6.out.below k7)
  clear  k7 m6
  go_wp2_with fail
  go_ret
  exact ⟨rfl, m7.out.be⟩

set_option maxRecDepth 100000 in
set_option maxHeartbeats 4000000 in
theorem rt_main (s : SR) (w : World) (hs : s.Rd w) (hg : grs [s] = false) (hc : chk s.L s.M = 0) :
    Calls Try.prog 9 #[s.val] w fun e w' => e = .returned (.bool true) ∧ Below w.heap.size w w' := by
  have q0 : (chk s.L s.M != 0) = false := by simpa using hc
  have q1 : (chk s.L s.M == 0) = true := by simpa using hc
  have HD := Lib.hid (dec_enc hc)
  have HL := enc_len hc
  have HC := Lib.hid hc
  clear hc
  have ss := s1_newR (w.alloc (Obj.cells #[Value.slice s.A s.L.length s.c, Value.slice s.B s.M.length s.d] 24)) s
  have hz : (w.alloc (Obj.cells #[Value.slice s.A s.L.length s.c, Value.slice s.B s.M.length s.d] 24)).heap.size = w.heap.size + 1 := by simp
  rw [hz] at ss
  have k : Below w.heap.size w ((w.alloc (Obj.cells #[Value.slice s.A s.L.length s.c, Value.slice s.B s.M.length s.d] 24)).alloc (Obj.cells #[Value.slice s.A s.L.length s.c, Value.slice s.B s.M.length s.d] 24)) := ((Below.refl _ _).alloc (Nat.le_refl _) _).alloc (by simp) _
  have g1 : w.heap.size + 1 < ((w.alloc (Obj.cells #[Value.slice s.A s.L.length s.c, Value.slice s.B s.M.length s.d] 24)).alloc (Obj.cells #[Value.slice s.A s.L.length s.c, Value.slice s.B s.M.length s.d] 24)).heap.size := by simp
  have bk : BK ((w.alloc (Obj.cells #[Value.slice s.A s.L.length s.c, Value.slice s.B s.M.length s.d] 24)).alloc (Obj.cells #[Value.slice s.A s.L.length s.c, Value.slice s.B s.M.length s.d] 24)) w.heap.size (.slice s.A s.L.length s.c) (.slice s.B s.M.length s.d) := (BK.new w _ _).alloc _
  have SSN := Lib.hid ss
  have K := Lib.hid k
  have HG := Lib.hid hg
  have KK := Lib.hid bk
  clear ss hz k hg bk
  unfold SR.val
  go_enter Try.func9, Try.ntmps9
  go_wp2_with fail
  generalize (w.alloc (Obj.cells #[Value.slice s.A s.L.length s.c, Value.slice s.B s.M.length s.d] 24)).alloc (Obj.cells #[Value.slice s.A s.L.length s.c, Value.slice s.B s.M.length s.d] 24) = W at *
  refine (great_any [s] (w.heap.size + 1) 1 W g1 (fun t ht => by simp only [List.mem_cons, List.not_mem_nil, or_false] at ht; subst ht; exact hs.below K.out) (by simp) (fun j hj => (SSN.out j hj).1) (fun j hj => (SSN.out j hj).2)).mono ?_
  rintro e w1 ⟨rfl, k1⟩
  rw [HG.out]
  have m0 := Lib.hid (show Mem w w1 [(w.heap.size, s)] from ⟨K.out.trans (k1.mono K.out.size), fun p hp => by simp only [List.mem_cons, List.not_mem_nil, or_false] at hp; subst hp; exact ⟨KK.out.below k1 KK.out.lt, (hs.below K.out).below k1⟩⟩)
  clear k1 K SSN g1 KK HG hs
  have fa1 := (m0.out.bk (g := w.heap.size) (s := s) (by simp)).c0
  have fb1 := (m0.out.bk (g := w.heap.size) (s := s) (by simp)).c1
  have fl2 := (m0.out.bk (g := w.heap.size) (s := s) (by simp)).lt
  go_wp2_with fail
  refine (encode_any s.A s.B s.c s.d s.L s.M w1 (m0.out.rd (g := w.heap.size) (s := s) (by simp)).a (m0.out.rd (g := w.heap.size) (s := s) (by simp)).b (by have := (m0.out.rd (g := w.heap.size) (s := s) (by simp)).la; omega) (m0.out.rd (g := w.heap.size) (s := s) (by simp)).lb).mono ?_
  rintro e w3 ⟨rfl, k3⟩
  have m3 := Lib.hid (m0.out.below k3)
  clear fa1 fb1 fl2 k3 m0
  generalize enc s.L s.M = t at *
  have fa4 := (m3.out.bk (g := w.heap.size) (s := s) (by simp)).c0
  have fb4 := (m3.out.bk (g := w.heap.size) (s := s) (by simp)).c1
  have fl5 := (m3.out.bk (g := w.heap.size) (s := s) (by simp)).lt
  go_wp2_with fail
  refine (decode_any t w3 (by omega)).mono ?_
  rintro e w6 ⟨sx, rfl, Rx, Ex, k6⟩
  rw [HD.out] at Ex
  rw [HD.out]
  have PX := Lib.hid Ex
  clear Ex
  unfold SR.val
  have m6 := Lib.hid (m3.out.below k6)
  clear fa4 fb4 fl5 k6 m3
  have fa7 := (m6.out.bk (g := w.heap.size) (s := s) (by simp)).c0
  have fb7 := (m6.out.bk (g := w.heap.size) (s := s) (by simp)).c1
  have fl8 := (m6.out.bk (g := w.heap.size) (s := s) (by simp)).lt
  go_wp2_with fail
  have m9 := Lib.hid (m6.out.box sx Rx)
  generalize hW9 : w6.alloc (Obj.cells #[Value.slice sx.A sx.L.length sx.c, Value.slice sx.B sx.M.length sx.d] 24) = W9 at *
  clear hW9
  clear fa7 fb7 fl8 m6
  clear Rx
  refine (check_any s.A s.B s.c s.d s.L s.M W9 (m9.out.rd (g := w.heap.size) (s := s) (by simp)).a (m9.out.rd (g := w.heap.size) (s := s) (by simp)).b (by have := (m9.out.rd (g := w.heap.size) (s := s) (by simp)).la; omega) (m9.out.rd (g := w.heap.size) (s := s) (by simp)).lb).mono ?_
  rintro e w10 ⟨rfl, k10⟩
  have m10 := Lib.hid (m9.out.below k10)
  clear  k10 m9
  have fa11 := (m10.out.bk (g := w6.heap.size) (s := sx) (by simp)).c0
  have fb11 := (m10.out.bk (g := w6.heap.size) (s := sx) (by simp)).c1
  have fa12 := (m10.out.bk (g := w.heap.size) (s := s) (by simp)).c0
  have fb12 := (m10.out.bk (g := w.heap.size) (s := s) (by simp)).c1
  have fl13 := (m10.out.bk (g := w6.heap.size) (s := sx) (by simp)).lt
  have fl14 := (m10.out.bk (g := w.heap.size) (s := s) (by simp)).lt
  go_wp2_with fail
  have hssxs := Lib.hid (same_of_p (s := sx) (t := s) (PX.out))
  refine (same2_any sx.A sx.B s.A s.B sx.c sx.d s.c s.d sx.L sx.M s.L s.M w10 (m10.out.rd (g := w6.heap.size) (s := sx) (by simp)).a (m10.out.rd (g := w6.heap.size) (s := sx) (by simp)).b (m10.out.rd (g := w.heap.size) (s := s) (by simp)).a (m10.out.rd (g := w.heap.size) (s := s) (by simp)).b (by have := (m10.out.rd (g := w6.heap.size) (s := sx) (by simp)).la; omega) (by have := (m10.out.rd (g := w6.heap.size) (s := sx) (by simp)).lb; omega)).mono ?_
  rintro e w15 ⟨rfl, k15⟩
  rw [hssxs.out]
  have m15 := Lib.hid (m10.out.below k15)
  clear fa11 fb11 fa12 fb12 fl13 fl14 k15 m10
  go_wp2_with fail
  refine (awake_any _).mono ?_
  rintro e w16 ⟨rfl, k16⟩
  have m16 := Lib.hid (m15.out.below k16)
  clear  k16 m15
  go_wp2_with fail
  go_ret
  exact ⟨rfl, m16.out.be⟩

theorem law_rt_any (s : SR) (w : World) (hs : s.Rd0 w) : Calls Try.prog 9 #[s.val] w fun e w' => e = .returned (.bool true) ∧ Below w.heap.size w w' := by
  cases hg : grs [s] with
  | true => exact rt_great s w hs hg
  | false =>
    have q : gr s.L s.M = false := by simpa [grs] using hg
    by_cases hc : chk s.L s.M = 0
    · exact rt_main s w (hs.small q) hg hc
    · exact rt_bad s w (hs.small q) hg hc

set_option maxRecDepth 100000 in
set_option maxHeartbeats 4000000 in
theorem dc_long (t : T) (w : World) (h0 : 300 < t.length) :
    Calls Try.prog 8 #[tv t] w fun e w' => e = .returned (.bool true) ∧ Below w.heap.size w w' := by
  go_enter Try.func8, Try.ntmps8
  go_wp2_with fail
  refine (awake_any _).mono ?_
  rintro e w1 ⟨rfl, k1⟩
  have K1 := Lib.hid k1
  clear k1
  go_wp2_with fail
  go_ret
  exact ⟨rfl, K1.out⟩

set_option maxRecDepth 100000 in
set_option maxHeartbeats 4000000 in
theorem dc_ok (t : T) (w : World) (h0 : ¬ 300 < t.length) (hd : (dec t).2 = 0) :
    Calls Try.prog 8 #[tv t] w fun e w' => e = .returned (.bool true) ∧ Below w.heap.size w w' := by
  have m0 := Lib.hid (show Mem w w [] from ⟨Below.refl _ _, by simp⟩)
  have he := enc_dec hd
  have HE := Lib.hid he
  clear he
  obtain ⟨p, c, hp⟩ : ∃ p c, dec t = (p, c) := ⟨_, _, rfl⟩
  rw [hp] at hd
  simp only at hd
  have HQ : Hid (chk p.1 p.2 = 0 ∧ enc p.1 p.2 = t) := Lib.hid (by have := HE.out; rw [hp] at this; exact this)
  subst hd
  clear HE
  have HP := Lib.hid hp
  clear hp
  go_enter Try.func8, Try.ntmps8
  go_wp2_with fail
  refine (decode_any t w (by omega)).mono ?_
  rintro e w1 ⟨sa, rfl, Ra, Ea, k1⟩
  rw [HP.out] at Ea
  rw [HP.out]
  have PA := Lib.hid Ea
  clear Ea
  unfold SR.val
  have m1 := Lib.hid (m0.out.below k1)
  clear  k1 m0
  go_wp2_with fail
  have m2 := Lib.hid (m1.out.box sa Ra)
  generalize hW2 : w1.alloc (Obj.cells #[Value.slice sa.A sa.L.length sa.c, Value.slice sa.B sa.M.length sa.d] 24) = W2 at *
  clear hW2
  clear  m1
  clear Ra
  refine (rdecode_any t W2 (by omega)).mono ?_
  rintro e w3 ⟨sb, rfl, Rb, Eb, k3⟩
  rw [HP.out] at Eb
  rw [HP.out]
  have PB := Lib.hid Eb
  clear Eb
  unfold SR.val
  have m3 := Lib.hid (m2.out.below k3)
  clear  k3 m2
  have fa4 := (m3.out.bk (g := w1.heap.size) (s := sa) (by simp)).c0
  have fb4 := (m3.out.bk (g := w1.heap.size) (s := sa) (by simp)).c1
  have fl5 := (m3.out.bk (g := w1.heap.size) (s := sa) (by simp)).lt
  go_wp2_with fail
  have m6 := Lib.hid (m3.out.box sb Rb)
  generalize hW6 : w3.alloc (Obj.cells #[Value.slice sb.A sb.L.length sb.c, Value.slice sb.B sb.M.length sb.d] 24) = W6 at *
  clear hW6
  clear fa4 fb4 fl5 m3
  clear Rb
  have hsab := Lib.hid (same_of_p (s := sa) (t := sb) (PA.out.trans PB.out.symm))
  refine (same2_any sa.A sa.B sb.A sb.B sa.c sa.d sb.c sb.d sa.L sa.M sb.L sb.M W6 (m6.out.rd (g := w1.heap.size) (s := sa) (by simp)).a (m6.out.rd (g := w1.heap.size) (s := sa) (by simp)).b (m6.out.rd (g := w3.heap.size) (s := sb) (by simp)).a (m6.out.rd (g := w3.heap.size) (s := sb) (by simp)).b (by have := (m6.out.rd (g := w1.heap.size) (s := sa) (by simp)).la; omega) (by have := (m6.out.rd (g := w1.heap.size) (s := sa) (by simp)).lb; omega)).mono ?_
  rintro e w7 ⟨rfl, k7⟩
  rw [hsab.out]
  have m7 := Lib.hid (m6.out.below k7)
  clear  k7 m6
  have fa8 := (m7.out.bk (g := w1.heap.size) (s := sa) (by simp)).c0
  have fb8 := (m7.out.bk (g := w1.heap.size) (s := sa) (by simp)).c1
  have fl9 := (m7.out.bk (g := w1.heap.size) (s := sa) (by simp)).lt
  go_wp2_with fail
  refine (encode_any sa.A sa.B sa.c sa.d sa.L sa.M w7 (m7.out.rd (g := w1.heap.size) (s := sa) (by simp)).a (m7.out.rd (g := w1.heap.size) (s := sa) (by simp)).b (by have := (m7.out.rd (g := w1.heap.size) (s := sa) (by simp)).la; omega) (m7.out.rd (g := w1.heap.size) (s := sa) (by simp)).lb).mono ?_
  rintro e w10 ⟨rfl, k10⟩
  have hq := HQ.out
  rw [← PA.out] at hq
  rw [show enc sa.L sa.M = t from hq.2, show chk sa.L sa.M = 0 from hq.1]
  have tt : (t == t) = true := by simp
  clear hq
  have m10 := Lib.hid (m7.out.below k10)
  clear fa8 fb8 fl9 k10 m7
  go_wp2_with fail
  refine (awake_any _).mono ?_
  rintro e w11 ⟨rfl, k11⟩
  have m11 := Lib.hid (m10.out.below k11)
  clear  k11 m10
  go_wp2_with fail
  go_ret
  exact ⟨rfl, m11.out.be⟩

set_option maxRecDepth 100000 in
set_option maxHeartbeats 4000000 in
theorem dc_err (t : T) (w : World) (h0 : ¬ 300 < t.length) (hd : (dec t).2 ≠ 0) :
    Calls Try.prog 8 #[tv t] w fun e w' => e = .returned (.bool true) ∧ Below w.heap.size w w' := by
  have m0 := Lib.hid (show Mem w w [] from ⟨Below.refl _ _, by simp⟩)
  obtain ⟨p, c, hp⟩ : ∃ p c, dec t = (p, c) := ⟨_, _, rfl⟩
  rw [hp] at hd
  simp only at hd
  have q0 : (c != 0) = true := by simpa using hd
  have q1 : (c != c) = false := by simp
  clear hd
  have HP := Lib.hid hp
  clear hp
  go_enter Try.func8, Try.ntmps8
  go_wp2_with fail
  refine (decode_any t w (by omega)).mono ?_
  rintro e w1 ⟨sa, rfl, Ra, Ea, k1⟩
  rw [HP.out] at Ea
  rw [HP.out]
  have PA := Lib.hid Ea
  clear Ea
  unfold SR.val
  have m1 := Lib.hid (m0.out.below k1)
  clear  k1 m0
  go_wp2_with fail
  have m2 := Lib.hid (m1.out.box sa Ra)
  generalize hW2 : w1.alloc (Obj.cells #[Value.slice sa.A sa.L.length sa.c, Value.slice sa.B sa.M.length sa.d] 24) = W2 at *
  clear hW2
  clear  m1
  clear Ra
  refine (rdecode_any t W2 (by omega)).mono ?_
  rintro e w3 ⟨sb, rfl, Rb, Eb, k3⟩
  rw [HP.out] at Eb
  rw [HP.out]
  have PB := Lib.hid Eb
  clear Eb
  unfold SR.val
  have m3 := Lib.hid (m2.out.below k3)
  clear  k3 m2
  have fa4 := (m3.out.bk (g := w1.heap.size) (s := sa) (by simp)).c0
  have fb4 := (m3.out.bk (g := w1.heap.size) (s := sa) (by simp)).c1
  have fl5 := (m3.out.bk (g := w1.heap.size) (s := sa) (by simp)).lt
  go_wp2_with fail
  have m6 := Lib.hid (m3.out.box sb Rb)
  generalize hW6 : w3.alloc (Obj.cells #[Value.slice sb.A sb.L.length sb.c, Value.slice sb.B sb.M.length sb.d] 24) = W6 at *
  clear hW6
  clear fa4 fb4 fl5 m3
  clear Rb
  have hsab := Lib.hid (same_of_p (s := sa) (t := sb) (PA.out.trans PB.out.symm))
  refine (same2_any sa.A sa.B sb.A sb.B sa.c sa.d sb.c sb.d sa.L sa.M sb.L sb.M W6 (m6.out.rd (g := w1.heap.size) (s := sa) (by simp)).a (m6.out.rd (g := w1.heap.size) (s := sa) (by simp)).b (m6.out.rd (g := w3.heap.size) (s := sb) (by simp)).a (m6.out.rd (g := w3.heap.size) (s := sb) (by simp)).b (by have := (m6.out.rd (g := w1.heap.size) (s := sa) (by simp)).la; omega) (by have := (m6.out.rd (g := w1.heap.size) (s := sa) (by simp)).lb; omega)).mono ?_
  rintro e w7 ⟨rfl, k7⟩
  rw [hsab.out]
  have m7 := Lib.hid (m6.out.below k7)
  clear  k7 m6
  have fa8 := (m7.out.bk (g := w1.heap.size) (s := sa) (by simp)).c0
  have fb8 := (m7.out.bk (g := w1.heap.size) (s := sa) (by simp)).c1
  have fl9 := (m7.out.bk (g := w1.heap.size) (s := sa) (by simp)).lt
  go_wp2_with fail
  refine (encode_any sa.A sa.B sa.c sa.d sa.L sa.M w7 (m7.out.rd (g := w1.heap.size) (s := sa) (by simp)).a (m7.out.rd (g := w1.heap.size) (s := sa) (by simp)).b (by have := (m7.out.rd (g := w1.heap.size) (s := sa) (by simp)).la; omega) (m7.out.rd (g := w1.heap.size) (s := sa) (by simp)).lb).mono ?_
  rintro e w10 ⟨rfl, k10⟩
  have m10 := Lib.hid (m7.out.below k10)
  clear fa8 fb8 fl9 k10 m7
  go_wp2_with fail
  refine (awake_any _).mono ?_
  rintro e w11 ⟨rfl, k11⟩
  have m11 := Lib.hid (m10.out.below k11)
  clear  k11 m10
  go_wp2_with fail
  go_ret
  exact ⟨rfl, m11.out.be⟩

theorem law_dc_any (t : T) (w : World) : Calls Try.prog 8 #[tv t] w fun e w' => e = .returned (.bool true) ∧ Below w.heap.size w w' := by
  by_cases h0 : 300 < t.length
  · exact dc_long t w h0
  · by_cases hd : (dec t).2 = 0
    · exact dc_ok t w h0 hd
    · exact dc_err t w h0 hd
end Go.Proofs.Ytgenloemohcpcaa

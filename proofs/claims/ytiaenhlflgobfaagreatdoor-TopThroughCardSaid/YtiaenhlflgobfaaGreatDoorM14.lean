/- Walks and words: Srb, Chl, Clt. -/
import Derived.Test.YtiaenhlflgobfaaGreatDoorM1
import Derived.Test.YtiaenhlflgobfaaGreatDoorM13
import Derived.Sort.Walk0
namespace Go.Proofs.YtiaenhlflgobfaaGreatDoor
open Go.RowKit
set_option maxRecDepth 100000 in
theorem nan144 (a : T) (w : World) : Calls Tryz.prog 144 #[tv a] w fun e w' => e = .returned (.bool false) ∧ w' = w := by
  go_enter Tryz.func144, Tryz.ntmps144
  go_wp2
  go_ret
  exact ⟨rfl, rfl⟩
set_option maxRecDepth 100000 in
theorem nan99 (a : T) (w : World) : Calls Tryz.prog 99 #[tv a] w fun e w' => e = .returned (.bool false) ∧ w' = w := by
  go_enter Tryz.func99, Tryz.ntmps99
  go_wp2
  go_ret
  exact ⟨rfl, rfl⟩
set_option maxRecDepth 100000 in
set_option maxHeartbeats 4000000 in
theorem less98 (a b : T) (w : World) : Calls Tryz.prog 98 #[tv a, tv b] w fun e w' => e = .returned (.bool (decide (a < b))) ∧ w' = w := by
  have hb := bytesLess_eq a b
  obtain ⟨q, hq⟩ : ∃ q, decide (a < b) = q := ⟨_, rfl⟩
  rw [hq] at hb ⊢
  clear hq
  go_enter Tryz.func98, Tryz.ntmps98
  go_wp2_with (go_at_call 144; (with_reducible refine (nan144 _ _).mono ?_); rintro e w6 ⟨rfl, rfl⟩; (try dsimp only))
  go_ret
  exact ⟨rfl, rfl⟩
set_option maxRecDepth 100000 in
set_option maxHeartbeats 4000000 in
attribute [local irreducible] Calls in
theorem bsS_any (A : Option Addr) (c : Nat) (L : List T) (p : T) (w : World) (hL : RD 1 scs w A L) (hl : L.length ≤ 1000000) (ha : Asc id L) :
    Calls Tryz.prog 55 #[.slice A L.length c, tv p] w fun e w' => e = .returned (.tuple #[.int .i64 (pos id L p), .bool (hasK id L p)]) ∧ Gr w w' := by
  obtain ⟨q, hq⟩ : ∃ q, L.length = q := ⟨_, rfl⟩
  obtain ⟨P, hP⟩ : ∃ P, pos id L p = P := ⟨_, rfl⟩
  have hPl : P ≤ q := by rw [← hP, ← hq]; exact pos_le _ _
  rw [hq] at hl
  rw [hq, hP]
  have HN := Lib.hid hq
  have HL := Lib.hid (fun V (g : Gr w V) => hL.gr g)
  have HF := Lib.hid (fun j x (hx : L[j]? = some x) => show decide (x < p) = decide (j < P) from by rw [← hP]; exact decide_eq_decide.2 (pos_iff ha hx))
  have HPL := Lib.hid hPl
  obtain ⟨ok, hok⟩ : ∃ ok, hasK id L p = ok := ⟨_, rfl⟩
  have HOK := Lib.hid (show (∀ x, L[P]? = some x → ok = decide (x = p)) ∧ (q ≤ P → ok = false) from by
    rw [← hok, ← hP, ← hq]
    exact ⟨fun x hx => hasK_at hx, fun h => hasK_no h⟩)
  rw [hok]
  have CC := Lib.hid (fun (x : T) V => less98 x p V)
  clear hq hL hok hP ha
  go_enter Tryz.func55, Tryz.ntmps55
  go_wp2
  go_loopw [7, 8, 9] (fun lo hi _ V => ∃ i j : Nat, i ≤ j ∧ j ≤ q ∧ lo = .int .i64 i ∧ hi = .int .i64 j ∧ Hid (Gr w V ∧ i ≤ P ∧ P ≤ j)) (fun lo hi _ _ => (intOf hi).toNat - (intOf lo).toNat)
  case atStart => exact ⟨0, q, Nat.zero_le _, Nat.le_refl _, rfl, rfl, Lib.hid ⟨gr_refl _, Nat.zero_le _, HPL.out⟩⟩
  case round =>
    obtain ⟨i, j, hij, hj, rfl, rfl, HI⟩ := hrel
    by_cases hlt : i < j
    · obtain ⟨x, hx⟩ : ∃ x, L[(i + j) / 2]? = some x := ⟨_, List.getElem?_eq_getElem (by rw [HN.out]; omega)⟩
      obtain ⟨a, a1, rfl, ha, hab, d0⟩ := rdS (HL.out _ HI.out.1) hx
      have CM := Lib.hid (fun V => CC.out x V)
      have HZ := Lib.hid (HF.out _ x hx)
      obtain ⟨z, hz⟩ : ∃ z, decide (x < p) = z := ⟨_, rfl⟩
      rw [hz] at HZ
      simp only [hz] at CM
      have hlt2 : (i : Int) < j := by omega
      clear hx hz
      cases z with
      | true =>
        have HS := Lib.hid (of_decide_eq_true HZ.out.symm)
        go_wp2_with (first | (go_at_call 98; (with_reducible refine (CM.out _).mono ?_); rintro e w6 ⟨rfl, rfl⟩))
        exact ⟨⟨(i + j) / 2 + 1, j, by omega, hj, by simp, rfl, Lib.hid ⟨HI.out.1, by have := HS.out; omega, HI.out.2.2⟩⟩, by simp [intOf]; omega⟩
      | false =>
        have HS := Lib.hid (of_decide_eq_false HZ.out.symm)
        go_wp2_with (first | (go_at_call 98; (with_reducible refine (CM.out _).mono ?_); rintro e w6 ⟨rfl, rfl⟩))
        exact ⟨⟨i, (i + j) / 2, by omega, by omega, rfl, by simp, Lib.hid ⟨HI.out.1, HI.out.2.1, Nat.le_of_not_lt HS.out⟩⟩, by simp [intOf]; omega⟩
    · obtain rfl : i = j := by omega
      obtain rfl : P = i := by have := HI.out.2; omega
      clear hlt hij
      by_cases hR : P < q
      · obtain ⟨x, hx⟩ : ∃ x, L[P]? = some x := ⟨_, List.getElem?_eq_getElem (by rw [HN.out]; exact hR)⟩
        obtain ⟨a, a1, rfl, ha, hab, d0⟩ := rdS (HL.out _ HI.out.1) hx
        have HZ := Lib.hid (HOK.out.1 x hx)
        clear hx
        by_cases hz0 : x = p
        · obtain rfl : ok = true := by rw [HZ.out]; exact decide_eq_true hz0
          subst hz0
          clear HZ
          go_wp2_with (first | (go_at_call 99; (with_reducible refine (nan99 _ _).mono ?_); rintro e w6 ⟨rfl, rfl⟩; (try dsimp only)))
          go_ret2
          exact ⟨rfl, HI.out.1⟩
        · obtain rfl : ok = false := by rw [HZ.out]; exact decide_eq_false hz0
          have hb : (x == p) = false := by simpa using hz0
          clear HZ
          go_wp2_with (first | (go_at_call 99; (with_reducible refine (nan99 _ _).mono ?_); rintro e w6 ⟨rfl, rfl⟩; (try dsimp only)))
          go_ret2
          exact ⟨rfl, HI.out.1⟩
      · obtain rfl : ok = false := HOK.out.2 (by omega)
        go_wp2
        go_ret2
        exact ⟨rfl, HI.out.1⟩
end Go.Proofs.YtiaenhlflgobfaaGreatDoor
namespace Go.Proofs.YtiaenhlflgobfaaGreatDoor
open Go.RowKit
theorem body_small {l : T} {e : PE} (h : oks.body l e = true) : (e.pre 1).length ≤ 400 := by
  have h1 : ckB l e = 0 := by simpa [oks] using h
  unfold ckB at h1
  have h2 : ckE e = 0 := by
    rcases Classical.em (ckE e = 0) with h2 | h2
    · exact h2
    · rw [if_pos h2] at h1; exact absurd h1 h2
  unfold ckE at h2
  cases hl : limE e with
  | true => rw [hl] at h2; simp at h2
  | false =>
    unfold limE at hl
    simp only [Bool.or_eq_false_iff, decide_eq_false_iff_not] at hl
    omega
theorem edit_small {e : PT} (h : oks.Edit e) : ∀ d ∈ e.old ++ e.new, (d.body.pre 1).length ≤ 400 := by
  obtain ⟨q1, q2, -, -⟩ := fits_parts h.fit
  intro d hd
  by_cases h4 : e.kind ≤ 4
  · have := h.k0
    rw [if_neg (by omega)] at q1
    rw [if_neg (by omega)] at q2
    rw [List.eq_nil_of_length_eq_zero q1, List.eq_nil_of_length_eq_zero q2] at hd
    simp at hd
  · have ht := h.ts ⟨e.pack, [], [complete e.kind d]⟩ (by
      unfold tests
      rw [if_neg (by have := h.k0; omega), if_neg (by have := h.k0; omega)]
      exact List.mem_map.2 ⟨d, hd, rfl⟩)
    have hb := body_small (ht.decls (complete e.kind d) (by simp)).body
    by_cases h79 : e.kind = 7 ∨ e.kind = 9
    · obtain ⟨o, n, ho, hn, e1, e2, -, -⟩ := fits_last h.fit (by omega)
      rw [ho, hn] at hd
      simp only [List.cons_append, List.nil_append, List.mem_cons, List.not_mem_nil, or_false] at hd
      have key : ∀ x : PD, x = ment e.kind x → (x.body.pre 1).length ≤ 400 := by
        intro x hx
        rw [hx]
        unfold ment
        rcases h79 with h7 | h9
        · rw [if_pos h7]; simp [zE_pre]
        · rw [if_neg (by omega), if_neg (by omega), if_pos h9]; simp [zE_pre]
      rcases hd with rfl | rfl
      · exact key _ e1
      · exact key _ e2
    · unfold complete at hb
      simp only [if_neg h79] at hb
      exact hb
theorem old_len {e : PT} (h : oks.Edit e) : e.old.length ≤ 1 ∧ e.new.length ≤ 1 := by
  obtain ⟨q1, q2, -, -⟩ := fits_parts h.fit
  rw [q1, q2]
  constructor <;> split <;> omega
theorem fits_any (e : Edt) (w : World) (he : e.Rd w) (h : oks.Edit e.er) : Calls Tryz.prog 66 #[e.v] w fun x w' => x = .returned (.bool true) ∧ Gr w w' := by
  by_cases h7 : e.kind < 7
  · exact fits_few e w h.k0 h7 h.fit
  · refine fits_many e w he (by omega) h.fit (fun d hd => ?_)
    exact edit_small h d.er (by rw [show e.er.old ++ e.er.new = (e.old ++ e.new).map Dec.er from by simp [Edt.er]]; exact List.mem_map.2 ⟨d, hd, rfl⟩)
theorem tests_any (e : Edt) (w : World) (he : e.Rd w) (h : oks.Edit e.er) : Calls Tryz.prog 67 #[e.v] w fun x w' => ∃ a c L, x = .returned (.slice a L.length c) ∧ MRd w' a c L ∧ L.map Mod.er = tests e.er ∧ Gr w w' := by
  have h0 := h.k0
  have h9 := h.k1
  replace h0 : 1 ≤ e.kind := h0
  replace h9 : e.kind ≤ 9 := h9
  by_cases h5 : 5 ≤ e.kind
  · obtain ⟨h1, h2⟩ := old_len h
    exact tests_many e w he h5 h9 (by simpa [Edt.er] using h1) (by simpa [Edt.er] using h2)
  · exact tests_two e w he (by omega)
theorem tests_len (e : PT) (h : oks.Edit e) : (tests e).length ≤ 2 := by
  obtain ⟨h1, h2⟩ := old_len h
  unfold tests
  split
  · simp
  split
  · simp
  · simp; omega
set_option maxRecDepth 100000 in
set_option maxHeartbeats 4000000 in
attribute [local irreducible] Calls in
theorem checkT_any (e : Edt) (w : World) (he : e.Rd w) (h : oks.Edit e.er) : Calls Tryz.prog 29 #[e.v] w fun x w' => x = .returned (iv 0) ∧ Gr w w' := by
  obtain ⟨W, hW⟩ : ∃ W, w.alloc (.cells #[iv e.kind, tv e.pack, tv e.text, .slice e.oA e.old.length e.oc, .slice e.nA e.new.length e.nc] 32) = W := ⟨_, rfl⟩
  have GW := Lib.hid (show Gr w W by rw [← hW]; exact gr_al _ _)
  have CB := Lib.hid (fun V (g : Gr W V) => edtCells (V := V) (b := w.heap.size) (e := e) (gr_h g (by rw [← hW]; exact al_new _ _)))
  have C1 := Lib.hid (fun V (g : Gr W V) => fits_any e V (he.gr (GW.out.trans g)) h)
  have C2 := Lib.hid (fun V (g : Gr W V) => tests_any e V (he.gr (GW.out.trans g)) h)
  have TL := Lib.hid (tests_len e.er h)
  have TS := Lib.hid (fun m (hm : m ∈ tests e.er) => (ckM_zero m).2 (h.ts m hm))
  have k1 : ¬ e.kind < 1 := by have h : 1 ≤ e.kind := h.k0; omega
  have k9 : ¬ 9 < e.kind := by have h : e.kind ≤ 9 := h.k1; omega
  have HW := Lib.hid hW
  clear he h hW
  unfold Edt.v at C1 C2 ⊢
  go_enter Tryz.func29, Tryz.ntmps29
  go_upto_region 1 with fail
  rw [HW.out]
  obtain ⟨c0, c1, c2, c3, c4⟩ := CB.out _ (gr_refl _)
  go_wp2_with (first
    | (go_at_call 66; (with_reducible refine (C1.out _ (gr_refl _)).mono ?_); rintro x w1 ⟨rfl, g1⟩; clear c0 c1 c2 c3 c4; obtain ⟨c0, c1, c2, c3, c4⟩ := CB.out _ g1; have G1 := Lib.hid g1; clear g1)
    | (go_at_call 67; (with_reducible refine (C2.out _ G1.out).mono ?_); rintro x w2 ⟨a, c, L, rfl, mr, er, g2⟩; have G2 := Lib.hid (G1.out.trans g2); have MR := Lib.hid (fun V (g : Gr w2 V) => mr.gr g); have ER := Lib.hid er; clear g2 mr er))
  obtain ⟨n, hn⟩ : ∃ n, L.length = n := ⟨_, rfl⟩
  have HN := Lib.hid hn
  have hn9 : n ≤ 2 := by rw [← hn]; have h1 := congrArg List.length ER.out; rw [List.length_map] at h1; have := TL.out; omega
  rw [hn]
  clear hn c0 c1 c2 c3 c4 C1 C2 k1 k9
  go_loopw [4, 5, 20] (fun _ _ i V => ∃ j : Nat, j ≤ n ∧ i = iv j ∧ Hid (Gr w2 V)) (fun _ _ i _ => n - (intOf i).toNat)
  case atStart => exact ⟨0, by omega, rfl, Lib.hid (gr_refl _)⟩
  case round =>
    obtain ⟨j, hj, rfl, HG⟩ := hrel
    by_cases hlt : j < n
    · obtain ⟨m, hm⟩ : ∃ m, L[j]? = some m := ⟨_, List.getElem?_eq_getElem (by rw [HN.out]; exact hlt)⟩
      obtain ⟨b, b1, eb, hb, hbb, d0, d1, d2⟩ := rdM (MR.out _ HG.out).r hm
      subst eb
      have hmem := List.mem_of_getElem? hm
      have C3 := Lib.hid (fun V (g : Gr w2 V) => show Calls Tryz.prog 39 #[m.v] V (fun e w' => e = .returned (iv 0) ∧ Gr V w') from by
        have h := checkM_any m V ((MR.out _ g).m m hmem)
        rw [TS.out m.er (by rw [← ER.out]; exact List.mem_map.2 ⟨m, hmem, rfl⟩)] at h
        exact h)
      unfold Mod.v at C3
      have hlt2 : (j : Int) < (n : Int) := by omega
      clear hm hmem
      go_wp2_with (go_at_call 39; (with_reducible refine (C3.out _ (HG.out.trans (gr_al _ _))).mono ?_); rintro x w3 ⟨rfl, g3⟩; have G3 := Lib.hid ((HG.out.trans (gr_al _ _)).trans g3); clear g3)
      exact ⟨⟨j + 1, by omega, by simp, G3⟩, by simp [intOf]; omega⟩
    · obtain rfl : j = n := by omega
      have hnj : ¬ (j : Int) < (j : Int) := by omega
      go_wp2
      go_ret
      exact ⟨rfl, GW.out.trans (G2.out.trans HG.out)⟩
set_option maxRecDepth 100000 in
set_option maxHeartbeats 4000000 in
attribute [local irreducible] Calls in
theorem checkEach_any (A : Option Addr) (c : Nat) (L : List Mod) (w : World) (hL : MRd w A c L) :
    Calls Tryz.prog 31 #[.slice A L.length c] w fun e w' => ∃ r, e = .returned (iv r) ∧ (r = 0 ↔ ∀ m ∈ L, oks.Mod m.er) ∧ Gr w w' := by
  obtain ⟨n, hn⟩ : ∃ n, L.length = n := ⟨_, rfl⟩
  have HN := Lib.hid hn
  have hn9 : n ≤ 9223372036854775807 := by rw [← hn]; exact Nat.le_trans hL.rw.hc hL.rw.hm
  have HL := Lib.hid (fun V (g : Gr w V) => hL.gr g)
  rw [hn]
  clear hn hL
  go_enter Tryz.func31, Tryz.ntmps31
  go_wp2
  go_loopw [4, 5, 8] (fun _ _ i V => ∃ j : Nat, j ≤ n ∧ i = iv j ∧ Hid (Gr w V ∧ ∀ m ∈ L.take j, oks.Mod m.er)) (fun _ _ i _ => n - (intOf i).toNat)
  case atStart => exact ⟨0, by omega, rfl, Lib.hid ⟨gr_refl _, by simp⟩⟩
  case round =>
    obtain ⟨j, hj, rfl, HG⟩ := hrel
    by_cases hlt : j < n
    · obtain ⟨m, hm⟩ : ∃ m, L[j]? = some m := ⟨_, List.getElem?_eq_getElem (by rw [HN.out]; exact hlt)⟩
      obtain ⟨b, b1, eb, hb, hbb, d0, d1, d2⟩ := rdM (HL.out _ HG.out.1).r hm
      subst eb
      have hmem := List.mem_of_getElem? hm
      have C3 := Lib.hid (fun V (g : Gr w V) => checkM_any m V ((HL.out _ g).m m hmem))
      unfold Mod.v at C3
      have hlt2 : (j : Int) < (n : Int) := by omega
      obtain ⟨r, hr⟩ : ∃ r, ckM m.er = r := ⟨_, rfl⟩
      have HR := Lib.hid (show r = 0 ↔ oks.Mod m.er from by rw [← hr]; exact ckM_zero _)
      have HM := Lib.hid hmem
      have HT := Lib.hid (show ∀ x ∈ L.take (j + 1), x ∈ L.take j ∨ x = m from by
        obtain ⟨hjl, hmm⟩ := List.getElem?_eq_some_iff.1 hm
        intro x hx
        rw [List.take_succ_eq_append_getElem hjl, hmm] at hx
        rcases List.mem_append.1 hx with h | h
        · exact .inl h
        · exact .inr (List.mem_singleton.1 h))
      simp only [hr] at C3
      clear hm hmem hr
      by_cases h0 : r = 0
      · have OK := Lib.hid (HR.out.1 h0)
        subst h0
        clear HR
        go_wp2_with (go_at_call 39; (with_reducible refine (C3.out _ (HG.out.1.trans (gr_al _ _))).mono ?_); rintro x w3 ⟨rfl, g3⟩; have G3 := Lib.hid ((HG.out.1.trans (gr_al _ _)).trans g3); clear g3)
        exact ⟨⟨j + 1, by omega, by simp, Lib.hid ⟨G3.out, fun x hx => by
          rcases HT.out x hx with h | rfl
          · exact HG.out.2 x h
          · exact OK.out⟩⟩, by simp [intOf]; omega⟩
      · have p1 : (r != 0) = true := by simpa using h0
        go_wp2_with (go_at_call 39; (with_reducible refine (C3.out _ (HG.out.1.trans (gr_al _ _))).mono ?_); rintro x w3 ⟨rfl, g3⟩; have G3 := Lib.hid ((HG.out.1.trans (gr_al _ _)).trans g3); clear g3)
        go_ret
        exact ⟨r, rfl, ⟨fun h => absurd h h0, fun h => HR.out.2 (h m HM.out)⟩, G3.out⟩
    · obtain rfl : j = n := by omega
      have hnj : ¬ (j : Int) < (j : Int) := by omega
      have FA := Lib.hid (show ∀ m ∈ L, oks.Mod m.er from by have h := HG.out.2; rwa [List.take_of_length_le (by rw [HN.out]; exact Nat.le_refl _)] at h)
      have FG := Lib.hid HG.out.1
      clear HG
      go_wp2
      go_ret
      exact ⟨0, rfl, ⟨fun _ => FA.out, fun _ => rfl⟩, FG.out⟩
end Go.Proofs.YtiaenhlflgobfaaGreatDoor
namespace Go.Proofs.YtiaenhlflgobfaaGreatDoor
open Go.RowKit
theorem asc_snoc {l : List Mod} {p s : Mod} (h : Asc Mod.label (l ++ [p])) (hp : p.label < s.label) : Asc Mod.label (l ++ [p] ++ [s]) := by
  refine List.pairwise_append.2 ⟨h, by simp, fun x hx y hy => ?_⟩
  rw [List.mem_singleton.1 hy]
  rcases List.mem_append.1 hx with hx | hx
  · exact Ord.tr _ _ _ ((List.pairwise_append.1 h).2.2 x hx p (by simp)) hp
  · rw [List.mem_singleton.1 hx]; exact hp
theorem mods_iff (L : List Mod) : oks.Mods (L.map Mod.er) ↔ Asc Mod.label L ∧ ∀ m ∈ L, oks.Mod m.er := by
  constructor
  · intro h
    exact ⟨(List.pairwise_map (f := Mod.er)).1 h.asc, fun m hm => h.mods _ (List.mem_map.2 ⟨m, hm, rfl⟩)⟩
  · rintro ⟨h1, h2⟩
    refine ⟨(List.pairwise_map (f := Mod.er)).2 h1, fun m hm => ?_⟩
    obtain ⟨x, hx, rfl⟩ := List.mem_map.1 hm
    exact h2 x hx
set_option maxRecDepth 100000 in
set_option maxHeartbeats 4000000 in
attribute [local irreducible] Calls in
theorem checkList_any (A : Option Addr) (c : Nat) (L : List Mod) (w : World) (hL : MRd w A c L) :
    Calls Tryz.prog 21 #[.slice A L.length c] w fun e w' => ∃ r, e = .returned (iv r) ∧ (r = 0 ↔ oks.Mods (L.map Mod.er)) ∧ Gr w w' := by
  have CE := Lib.hid (fun V (g : Gr w V) => checkEach_any A c L V (hL.gr g))
  have MI := Lib.hid (mods_iff L)
  obtain ⟨n, hn⟩ : ∃ n, L.length = n := ⟨_, rfl⟩
  have HN := Lib.hid hn
  have hn9 : n ≤ 9223372036854775807 := by rw [← hn]; exact Nat.le_trans hL.rw.hc hL.rw.hm
  have HL := Lib.hid (fun V (g : Gr w V) => hL.r.gr g)
  rw [hn] at CE ⊢
  clear hn hL
  go_enter Tryz.func21, Tryz.ntmps21
  go_wp2
  go_loopw [3, 6] (fun _ i V => ∃ j : Nat, j ≤ n ∧ i = iv j ∧ Hid (Gr w V ∧ Asc Mod.label (L.take j))) (fun _ i _ => n - (intOf i).toNat)
  case atStart => exact ⟨0, by omega, rfl, Lib.hid ⟨gr_refl _, by simp⟩⟩
  case round =>
    obtain ⟨j, hj, rfl, HG⟩ := hrel
    by_cases hlt : j < n
    · have hlt2 : (j : Int) < (n : Int) := by omega
      obtain ⟨m, hm⟩ : ∃ m, L[j]? = some m := ⟨_, List.getElem?_eq_getElem (by rw [HN.out]; exact hlt)⟩
      obtain ⟨b, b1, eb, hb, hbb, d0, -, -⟩ := rdM (HL.out _ HG.out.1) hm
      have HTJ := Lib.hid (show L.take (j + 1) = L.take j ++ [m] from by
        obtain ⟨hjl, hmm⟩ := List.getElem?_eq_some_iff.1 hm
        rw [List.take_succ_eq_append_getElem hjl, hmm])
      cases j with
      | zero =>
        have TK := Lib.hid (show Asc Mod.label (L.take (0 + 1)) from by rw [HTJ.out]; simp)
        subst eb
        clear hm HTJ
        go_upto_region 4 with fail
        go_quiet (fail)
        all_goals go_wp2
        all_goals exact ⟨⟨1, by omega, by simp, Lib.hid ⟨HG.out.1.trans (gr_drewN _ _), TK.out⟩⟩, by simp [intOf]; omega⟩
      | succ k =>
        obtain ⟨p, hp⟩ : ∃ p, L[k]? = some p := ⟨_, List.getElem?_eq_getElem (by rw [HN.out]; omega)⟩
        obtain ⟨b', b2, eb', hb', hbb', e0, -, -⟩ := rdM (HL.out _ HG.out.1) hp
        rw [eb] at eb'
        cases eb'
        subst eb
        have HTK := Lib.hid (show L.take (k + 1) = L.take k ++ [p] from by
          obtain ⟨hjl, hmm⟩ := List.getElem?_eq_some_iff.1 hp
          rw [List.take_succ_eq_append_getElem hjl, hmm])
        have NO := Lib.hid (fun (h : Asc Mod.label L) => show p.label < m.label from by
          obtain ⟨h1, e1⟩ := List.getElem?_eq_some_iff.1 hp
          obtain ⟨h2, e2⟩ := List.getElem?_eq_some_iff.1 hm
          rw [← e1, ← e2]
          exact List.pairwise_iff_getElem.1 h k (k + 1) h1 h2 (by omega))
        have hk0 : (0 : Int) < ((k + 1 : Nat) : Int) := by omega
        have wk : IntKind.i64.wrap (((k + 1 : Nat) : Int) - 1) = k := by rw [IntWalk.i64_in _ ⟨by omega, by omega⟩]; omega
        have wk2 : ((k : Int) + 1 - 1) = k := by omega
        have hkn : k < n := by omega
        have hkn2 : (k : Int) + 1 < (n : Int) := by omega
        have hb3 := bytesLess_eq m.label p.label
        by_cases hps : p.label < m.label
        · rw [decide_eq_false (Ord.asym hps)] at hb3
          have hb5 : (m.label == p.label) = false := by simp only [beq_eq_false_iff_ne, ne_eq]; intro h; rw [h] at hps; exact Ord.irr _ hps
          have TK := Lib.hid (show Asc Mod.label (L.take (k + 1 + 1)) from by
            have h := HG.out.2
            rw [HTJ.out]
            rw [HTK.out] at h ⊢
            exact asc_snoc h hps)
          clear hm hp HTJ HTK hps NO
          go_upto_region 4 with fail
          go_quiet (fail)
          all_goals go_wp2
          all_goals exact ⟨⟨k + 1 + 1, by omega, by simp, Lib.hid ⟨HG.out.1.trans (gr_drewN _ _), TK.out⟩⟩, by simp [intOf]; omega⟩
        · have NK := Lib.hid (show ¬ oks.Mods (L.map Mod.er) from fun h => hps (NO.out (MI.out.1 h).1))
          by_cases hmp : m.label < p.label
          · rw [decide_eq_true hmp] at hb3
            have hb5 : (m.label == p.label) = false := by simp only [beq_eq_false_iff_ne, ne_eq]; intro h; rw [h] at hmp; exact Ord.irr _ hmp
            clear hm hp HTJ HTK hps NO hmp
            go_upto_region 4 with fail
            go_quiet (fail)
            all_goals go_wp2
            all_goals go_ret
            all_goals exact ⟨10, rfl, ⟨fun h => by omega, fun h => absurd h NK.out⟩, HG.out.1.trans (gr_drewN _ _)⟩
          · rw [decide_eq_false hmp] at hb3
            have hb5 : (m.label == p.label) = true := by simp only [beq_iff_eq]; exact Ord.tri _ _ hmp hps
            clear hm hp HTJ HTK hps NO hmp
            go_upto_region 4 with fail
            go_quiet (fail)
            all_goals go_wp2
            all_goals go_ret
            all_goals exact ⟨10, rfl, ⟨fun h => by omega, fun h => absurd h NK.out⟩, HG.out.1.trans (gr_drewN _ _)⟩
    · obtain rfl : j = n := by omega
      have hnj : ¬ (j : Int) < (j : Int) := by omega
      have FA := Lib.hid (show Asc Mod.label L from by have h := HG.out.2; rwa [List.take_of_length_le (by rw [HN.out]; exact Nat.le_refl _)] at h)
      have FG := Lib.hid HG.out.1
      clear HG
      go_wp2_with (go_at_call 31; (with_reducible refine (CE.out _ FG.out).mono ?_); rintro x w3 ⟨r, rfl, h3, g3⟩; have R3 := Lib.hid h3; have G3 := Lib.hid (FG.out.trans g3); clear g3 h3)
      go_ret
      exact ⟨r, rfl, R3.out.trans ⟨fun h => MI.out.2 ⟨FA.out, h⟩, fun h => (MI.out.1 h).2⟩, G3.out⟩
end Go.Proofs.YtiaenhlflgobfaaGreatDoor

/- Walks and words: BiC, Chm. -/
import Derived.Test.YtiaenhlflgobfaaGreatDoorBiB
import Derived.Test.YtiaenhlflgobfaaGreatDoorM9
namespace Go.Proofs.YtiaenhlflgobfaaGreatDoor
open Go.RowKit
def cU (l : T) (P : List T) (u : T) : Int := if !nmB (alias u) then 6 else if P.any (fun q => decide (alias q = alias u)) then 7 else if u = l then 23 else 0
theorem ckUse_at {l : T} {us : List T} {k : Nat} (hk : k < us.length) : ckUse l (us.take k) (us.drop k) = if cU l (us.take k) us[k] ≠ 0 then cU l (us.take k) us[k] else ckUse l (us.take (k + 1)) (us.drop (k + 1)) := by
  rw [List.drop_eq_getElem_cons hk, ckUse, cU, List.take_succ_eq_append_getElem hk]
  generalize us[k] = u
  generalize us.take k = P
  cases hn : nmB (alias u) with
  | false => simp
  | true =>
    simp only [Bool.not_true, Bool.false_eq_true, if_false]
    by_cases h1 : P.any (fun q => decide (alias q = alias u)) = true
    · rw [if_pos h1, if_pos h1]; simp
    · rw [if_neg h1, if_neg h1]
      by_cases h2 : u = l
      · rw [if_pos h2, if_pos h2]; simp
      · rw [if_neg h2, if_neg h2]; simp
theorem alias_ok (s : T) (h : sOk s) : sOk (alias s) := by
  show (alias s).length ≤ _
  unfold alias
  split
  · unfold lastSl
    rw [List.length_reverse]
    refine Nat.le_trans (List.Sublist.length_le (List.takeWhile_sublist _)) ?_
    rw [List.length_reverse]
    exact h
  · simp
set_option maxRecDepth 100000 in
set_option maxHeartbeats 4000000 in
attribute [local irreducible] Calls in
theorem checkUse_any (l : T) (A : Option Addr) (c : Nat) (us : List T) (k : Nat) (w : World) (hr : SRd w A c us) (hk : k < us.length) : Calls Tryz.prog 83 #[tv l, .slice A us.length c, iv k] w fun e w' => e = .returned (iv (cU l (us.take k) us[k])) ∧ Gr w w' := by
  have hl : us.length ≤ c ∧ c ≤ 9223372036854775807 := ⟨hr.rw.hc, hr.rw.hm⟩
  have HR := Lib.hid (fun V (g : Gr w V) => hr.gr g)
  obtain ⟨a, a1, ea, e1, hb, c0, ok⟩ := hr.at hk
  subst ea
  have UR := Lib.hid (fun V (g : Gr w V) => gr_c g c0)
  have AL := Lib.hid (fun V (s : T) (h : sOk s) => alias_any s V h)
  have AK := Lib.hid (fun V => alias_any us[k] V ok)
  have IN := Lib.hid (fun V => isName_any (alias us[k]) V (alias_ok _ ok))
  obtain ⟨n, hn⟩ : ∃ n, us.length = n := ⟨_, rfl⟩
  have HN := Lib.hid hn
  obtain ⟨P, hP⟩ : ∃ P, us.take k = P := ⟨_, rfl⟩
  have HP := Lib.hid hP
  have PL := Lib.hid (show P.length = k by rw [← hP, List.length_take]; omega)
  have PA := Lib.hid (fun V (g : Gr w V) (j : Nat) (hj : j < k) => show ∃ a2 : Addr, a.add j = a2 ∧ V.cell? a2 = some (tv (P[j]'(by rw [PL.out]; exact hj))) ∧ sOk (P[j]'(by rw [PL.out]; exact hj)) from by
    obtain ⟨b, b1, eb, f1, -, d0, ok⟩ := (hr.gr g).at (k := j) (by omega)
    cases eb
    subst hP
    simp only [List.getElem_take]
    exact ⟨b1, f1, d0, ok⟩)
  rw [hP]
  rw [hn] at hl ⊢
  have tk : (k : Int) < (n : Int) := by omega
  have tk' : k < n := by omega
  clear hr hn hP HR hb ok
  generalize us[k] = u at *
  clear hk
  obtain ⟨r, hr⟩ : ∃ r, cU l P u = r := ⟨_, rfl⟩
  rw [hr]
  unfold cU at hr
  obtain ⟨b, hbn⟩ : ∃ b, nmB (alias u) = b := ⟨_, rfl⟩
  rw [hbn] at IN hr
  have HB := Lib.hid hbn
  clear hbn
  obtain ⟨au, hau⟩ : ∃ s, alias u = s := ⟨_, rfl⟩
  rw [hau] at IN AK hr
  clear hau HB
  cases b with
  | false =>
    obtain rfl : 6 = r := by rw [← hr]; rfl
    clear hr
    go_enter Tryz.func83, Tryz.ntmps83
    go_wp2_with (first
      | (go_at_call 133; (with_reducible refine (AK.out _).mono ?_); rintro e w1 ⟨rfl, g⟩; have G1 := Lib.hid g; clear g)
      | (go_at_call 40; (with_reducible refine (IN.out _).mono ?_); rintro e w2 ⟨rfl, g⟩; have G2 := Lib.hid (G1.out.trans g); clear g))
    go_ret
    exact ⟨rfl, G2.out⟩
  | true =>
    simp only [Bool.not_true, Bool.false_eq_true, if_false] at hr
    have HRR := Lib.hid hr
    clear hr
    go_enter Tryz.func83, Tryz.ntmps83
    go_upto_region 4 with (first
      | (go_at_call 133; (with_reducible refine (AK.out _).mono ?_); rintro e w1 ⟨rfl, g⟩; have G1 := Lib.hid g; clear g)
      | (go_at_call 40; (with_reducible refine (IN.out _).mono ?_); rintro e w2 ⟨rfl, g⟩; have G2 := Lib.hid (G1.out.trans g); clear g))
    clear c0 AK IN
    go_wp2
    go_loopw [9, 22] (fun _ i V => ∃ j : Nat, j ≤ k ∧ i = iv j ∧ Hid (Gr w V ∧ ∀ q ∈ P.take j, alias q ≠ au)) (fun _ i _ => (k - intOf i).toNat)
    case atStart => exact ⟨0, by omega, rfl, Lib.hid ⟨G2.out, by simp⟩⟩
    case round =>
      obtain ⟨j, hj, rfl, HG⟩ := hrel
      have GV := Lib.hid HG.out.1
      have NO := Lib.hid HG.out.2
      clear HG
      by_cases hlt : j < k
      · have hjl : j < P.length := by rw [PL.out]; exact hlt
        obtain ⟨a2, f1, d0, ok⟩ := PA.out _ GV.out j hlt
        have AJ := Lib.hid (fun V => AL.out V P[j] ok)
        have NX := Lib.hid (show alias P[j] ≠ au → ∀ q ∈ P.take (j + 1), alias q ≠ au from by
          intro h q hq
          rw [List.take_succ_eq_append_getElem hjl, List.mem_append, List.mem_singleton] at hq
          rcases hq with hq | rfl
          · exact NO.out q hq
          · exact h)
        have YS := Lib.hid (show alias P[j] = au → r = 7 from by
          intro h
          have hyes : P.any (fun q => decide (alias q = au)) = true := by
            rw [List.any_eq_true]
            exact ⟨P[j], List.getElem_mem hjl, by simpa using h⟩
          have h := HRR.out
          rw [if_pos hyes] at h
          exact h.symm)
        have tj : (j : Int) < (k : Int) := by omega
        clear NO ok
        generalize P[j] = q at *
        clear hjl
        obtain ⟨aq, haq⟩ : ∃ s, alias q = s := ⟨_, rfl⟩
        rw [haq] at AJ NX YS
        clear haq
        by_cases he : aq = au
        · obtain rfl : r = 7 := YS.out he
          subst he
          clear NX YS HRR
          go_wp2_with (go_at_call 133; (with_reducible refine (AJ.out _).mono ?_); rintro e w3 ⟨rfl, g⟩; have G3 := Lib.hid g; clear g)
          go_ret
          exact ⟨rfl, GV.out.trans G3.out⟩
        · have hq : (aq == au) = false := by simpa using he
          have NX2 := Lib.hid (NX.out he)
          clear NX YS he
          go_wp2_with (go_at_call 133; (with_reducible refine (AJ.out _).mono ?_); rintro e w3 ⟨rfl, g⟩; have G3 := Lib.hid g; clear g)
          exact ⟨⟨j + 1, by omega, by simp, Lib.hid ⟨GV.out.trans G3.out, NX2.out⟩⟩, by simp [intOf]; omega⟩
      · obtain rfl : j = k := by omega
        have c0 := UR.out _ GV.out
        have HX := Lib.hid (show (if u = l then 23 else 0) = r from by
          have hno : ¬ P.any (fun q => decide (alias q = au)) = true := by
            rw [List.any_eq_true]
            rintro ⟨q, hq, e⟩
            refine NO.out q ?_ (by simpa using e)
            rw [List.take_of_length_le (by rw [PL.out]; exact Nat.le_refl _)]
            exact hq
          have h := HRR.out
          rw [if_neg hno] at h
          exact h)
        clear NO HRR
        by_cases hu : u = l
        · obtain rfl : 23 = r := by have := HX.out; rwa [if_pos hu] at this
          subst hu
          clear HX
          go_wp2
          go_ret
          exact ⟨rfl, GV.out⟩
        · obtain rfl : 0 = r := by have := HX.out; rwa [if_neg hu] at this
          have hu' : (u == l) = false := by simpa using hu
          clear HX hu
          go_wp2
          go_ret
          exact ⟨rfl, GV.out⟩
end Go.Proofs.YtiaenhlflgobfaaGreatDoor
namespace Go.Proofs.YtiaenhlflgobfaaGreatDoor
open Go.RowKit
def prvD (L : List PD) (k : Nat) : Option PD := if k = 0 then none else L[k - 1]?
theorem prvD_succ (L : List PD) (k : Nat) : prvD L (k + 1) = L[k]? := by simp [prvD]
theorem ckDs_at {l : T} {ds : List PD} {k : Nat} (hk : k < ds.length) : ckDs l (prvD ds k) (ds.drop k) = if ckD l ds[k] ≠ 0 then ckD l ds[k] else if (prvD ds k).any (fun q => decide (ds[k].id ≤ q.id)) then 10 else ckDs l (prvD ds (k + 1)) (ds.drop (k + 1)) := by
  rw [prvD_succ, List.getElem?_eq_getElem hk, List.drop_eq_getElem_cons hk, ckDs]
set_option maxRecDepth 100000 in
set_option maxHeartbeats 4000000 in
attribute [local irreducible] Calls in
theorem checkM_any (m : Mod) (w : World) (hm : m.Rd w) : Calls Tryz.prog 39 #[m.v] w fun e w' => e = .returned (iv (ckM m.er)) ∧ Gr w w' := by
  obtain ⟨W, hW⟩ : ∃ W, w.alloc (.cells #[tv m.label, .slice m.uA m.uses.length m.uc, .slice m.dA m.decls.length m.dc] 39) = W := ⟨_, rfl⟩
  have GX := Lib.hid (show Gr w W by rw [← hW]; exact gr_al _ _)
  have CB := Lib.hid (fun V (g : Gr W V) => show V.cell? ⟨w.heap.size, 0, none⟩ = some (tv m.label) ∧ V.cell? ⟨w.heap.size, 1, none⟩ = some (.slice m.uA m.uses.length m.uc) ∧ V.cell? ⟨w.heap.size, 2, none⟩ = some (.slice m.dA m.decls.length m.dc) from by
    have h1 := gr_h g (by rw [← hW]; exact al_new w _)
    exact ⟨by rw [Lib.cell_of_heap h1]; rfl, by rw [Lib.cell_of_heap h1]; rfl, by rw [Lib.cell_of_heap h1]; rfl⟩)
  have CL := Lib.hid (fun V => label_any m.label V hm.l)
  have CS := Lib.hid (fun V (g : Gr W V) => checkSource_any m.uA m.uc m.uses V (hm.u.gr (GX.out.trans g)))
  have CU := Lib.hid (fun (k : Nat) (u : T) (hk : m.uses[k]? = some u) V (g : Gr W V) => show Calls Tryz.prog 83 #[tv m.label, .slice m.uA m.uses.length m.uc, iv k] V (fun e w' => e = .returned (iv (cU m.label (m.uses.take k) u)) ∧ Gr V w') from by
    obtain ⟨h1, rfl⟩ := List.getElem?_eq_some_iff.1 hk
    exact checkUse_any m.label m.uA m.uc m.uses k V (hm.u.gr (GX.out.trans g)) h1)
  have HD := Lib.hid (fun V (g : Gr W V) => hm.d.gr (GX.out.trans g))
  have UL := Lib.hid (And.intro hm.u.rw.hc hm.u.rw.hm)
  have DL := Lib.hid (And.intro hm.d.rw.hc hm.d.rw.hm)
  have SP := Lib.hid (show ckM m.er = if !lab m.label then 6 else if ckSrc m.uses ≠ 0 then ckSrc m.uses else if ckUse m.label [] m.uses ≠ 0 then ckUse m.label [] m.uses else if 100 < m.er.decls.length then 4 else ckDs m.label none m.er.decls from rfl)
  obtain ⟨q, hq⟩ : ∃ q, ckM m.er = q := ⟨_, rfl⟩
  rw [hq] at SP ⊢
  obtain ⟨bL, hL⟩ : ∃ e, lab m.label = e := ⟨_, rfl⟩
  obtain ⟨eS, hS⟩ : ∃ e, ckSrc m.uses = e := ⟨_, rfl⟩
  obtain ⟨n, hn⟩ : ∃ e, m.uses.length = e := ⟨_, rfl⟩
  have HN := Lib.hid hn
  rw [hL, hS] at SP
  rw [hL] at CL
  rw [hS] at CS
  rw [hn] at CB CS CU UL hW
  clear hq hL hS hm
  unfold Mod.v
  rw [hn]
  clear hn
  obtain ⟨c0, c1, c2⟩ := CB.out _ (gr_refl _)
  cases bL with
  | false =>
    have hq : q = 6 := SP.out.trans (if_pos rfl)
    subst hq
    clear SP
    go_enter Tryz.func39, Tryz.ntmps39
    go_wp2_with (go_at_call 81; refine (CL.out _).mono ?_; rintro e w1 ⟨rfl, g⟩; have G1 := Lib.hid (gr_of g); clear g)
    all_goals (first | go_end0 | go_ret | refine bodyPost_ret (results_none rfl _ _ _) rfl ?_)
    all_goals exact ⟨rfl, GX.out.trans G1.out⟩
  | true =>
    have S1 := Lib.hid (SP.out.trans (if_neg (by decide)))
    clear SP
    go_enter Tryz.func39, Tryz.ntmps39
    go_upto_region 3 with (go_at_call 81; refine (CL.out _).mono ?_; rintro e w1 ⟨rfl, g⟩; have G1 := Lib.hid (gr_of g); clear g)
    clear hW CL c0 c1 c2
    obtain ⟨c0, c1, c2⟩ := CB.out _ G1.out
    go_upto_region 4 with (go_at_call 82; refine (CS.out _ G1.out).mono ?_; rintro e w2 ⟨rfl, g⟩; have G2 := Lib.hid (G1.out.trans g); clear g)
    clear CS c0 c1 c2
    obtain ⟨c0, c1, c2⟩ := CB.out _ G2.out
    by_cases hS : eS = 0
    · subst hS
      have S2 := Lib.hid (S1.out.trans (if_neg (by decide)))
      clear S1
      go_upto_region 6 with fail
      generalize w2 = W2 at *
      go_wp2
      clear c0 c1 c2
      go_loopw [4, 5, 23] (fun _ _ i V => ∃ j : Nat, j ≤ n ∧ i = iv j ∧ Hid (Gr W V ∧ ckUse m.label [] m.uses = ckUse m.label (m.uses.take j) (m.uses.drop j))) (fun _ _ i _ => (n - intOf i).toNat)
      case atStart => exact ⟨0, by omega, rfl, Lib.hid ⟨G2.out, by simp⟩⟩
      case round =>
        obtain ⟨j, hj, rfl, HG⟩ := hrel
        have GV := Lib.hid HG.out.1
        have ul := UL.out
        obtain ⟨c0, c1, c2⟩ := CB.out _ GV.out
        by_cases hlt : j < n
        · have hjl : j < m.uses.length := by rw [HN.out]; exact hlt
          have tj : (j : Int) < (n : Int) := by omega
          have SJ := Lib.hid (HG.out.2.trans (ckUse_at hjl))
          have CJ := Lib.hid (fun V (g : Gr W V) => CU.out j m.uses[j] (List.getElem?_eq_getElem hjl) V g)
          obtain ⟨eU, hU⟩ : ∃ e, cU m.label (m.uses.take j) m.uses[j] = e := ⟨_, rfl⟩
          rw [hU] at SJ CJ
          have CJJ := Lib.hid (CJ.out _ GV.out)
          clear hU hjl HG CJ
          by_cases hE : eU = 0
          · subst hE
            have SK := Lib.hid (SJ.out.trans (if_neg (by decide)))
            clear SJ
            go_wp2_with (go_at_call 83; refine CJJ.out.mono ?_; rintro e w3 ⟨rfl, g⟩; have G3 := Lib.hid (GV.out.trans g); clear g)
            exact ⟨⟨j + 1, by omega, by simp, Lib.hid ⟨G3.out, SK.out⟩⟩, by simp [intOf]; omega⟩
          · have hq : q = eU := S2.out.trans ((if_pos (by rw [SJ.out, if_pos hE]; exact hE)).trans (by rw [SJ.out, if_pos hE]))
            subst hq
            clear SJ S2
            have p : (q != 0) = true := by simpa using hE
            go_wp2_with (go_at_call 83; refine CJJ.out.mono ?_; rintro e w3 ⟨rfl, g⟩; have G3 := Lib.hid (GV.out.trans g); clear g)
            all_goals (first | go_end0 | go_ret | refine bodyPost_ret (results_none rfl _ _ _) rfl ?_)
            all_goals exact ⟨rfl, GX.out.trans G3.out⟩
        · obtain rfl : j = n := by omega
          have h0 : ckUse m.label [] m.uses = 0 := by
            rw [HG.out.2, List.drop_eq_nil_of_le (by rw [HN.out]; exact Nat.le_refl _), ckUse]
          have S3 := Lib.hid (S2.out.trans (if_neg (by rw [h0]; decide)))
          have LD : m.er.decls.length = m.decls.length := by unfold Mod.er; simp
          rw [LD] at S3
          clear S2 h0 HG LD ul
          obtain ⟨k, hk⟩ : ∃ k, m.decls.length = k := ⟨_, rfl⟩
          have HKD := Lib.hid hk
          rw [hk] at S3 c2 CB DL
          clear hk
          have dl := DL.out
          by_cases hbig : 100 < k
          · have hq : q = 4 := S3.out.trans (if_pos hbig)
            subst hq
            clear S3
            have tb : (100 : Int) < (k : Int) := by omega
            go_wp2
            all_goals (first | go_end0 | go_ret | refine bodyPost_ret (results_none rfl _ _ _) rfl ?_)
            all_goals exact ⟨rfl, GX.out.trans GV.out⟩
          · have S4 := Lib.hid (S3.out.trans (if_neg hbig))
            clear S3
            have tb : ¬ (100 : Int) < (k : Int) := by omega
            go_upto_region 15 with fail
            generalize wr = WQ at *
            go_wp2
            clear c0 c1 c2 dl CU UL HN hbig
            have ES : m.er.decls = m.decls.map Dec.er := rfl
            go_loopw [6, 7, 8, 43] (fun _ _ _ i V => ∃ j : Nat, j ≤ k ∧ i = iv j ∧ Hid (Gr W V ∧ ckDs m.label (prvD m.er.decls j) (m.er.decls.drop j) = q)) (fun _ _ _ i _ => (k - intOf i).toNat)
            case atStart => exact ⟨0, by omega, rfl, Lib.hid ⟨GV.out, by rw [List.drop_zero]; exact S4.out.symm⟩⟩
            case round =>
              obtain ⟨j, hj, rfl, HG⟩ := hrel
              have GW := Lib.hid HG.out.1
              have CK := Lib.hid HG.out.2
              have dl := DL.out
              clear HG S4
              obtain ⟨c0, c1, c2⟩ := CB.out _ GW.out
              by_cases hlt : j < k
              · have hkl : j < m.decls.length := by rw [HKD.out]; exact hlt
                have hke : j < m.er.decls.length := by rw [ES, List.length_map]; exact hkl
                obtain ⟨a, a1, ea, e1, hb, d0, d1, d2, d3, d4, d5, d6, d7, d8, d9, d10, dR⟩ := (HD.out _ GW.out).at hkl
                have SJ := Lib.hid (CK.out.symm.trans (ckDs_at hke))
                have EJ : m.er.decls[j] = m.decls[j].er := by simp [ES]
                rw [EJ] at SJ
                have tk : (j : Int) < (k : Int) := by omega
                have IJ := Lib.hid (fun (i : Nat) (hi : j = i + 1) => show ∃ (id : Int), (prvD m.er.decls j).any (fun q => decide (m.decls[j].er.id ≤ q.id)) = decide (m.decls[j].id ≤ id) ∧ ∀ V (g : Gr W V), ∃ b1 : Addr, a.add (i * 11) = b1 ∧ b1.block < V.heap.size ∧ V.cell? b1 = some (iv id) from by
                  subst hi
                  have h1 : i < m.decls.length := by omega
                  refine ⟨m.decls[i].id, ?_, fun V g => ?_⟩
                  · rw [prvD_succ, ES, List.getElem?_map, List.getElem?_eq_getElem h1]
                    rfl
                  · obtain ⟨b, b1, eb, f1, hb1, e0, -⟩ := (HD.out V g).at h1
                    have hab : a = b := Option.some.inj (ea.symm.trans eb)
                    subst hab
                    exact ⟨b1, f1, hb1, e0⟩)
                generalize m.decls[j] = d at *
                have CD := Lib.hid (checkDecl_any m.label d (wr.alloc (.cells #[iv d.id, iv d.kind, .bool d.pub, .slice d.nA d.names.length d.nc, .bool d.doubt, iv d.body.kind, tv d.body.name, tv d.body.more, iv d.body.int, iv d.body.den, .slice d.body.A d.body.sub.length d.body.c] 45)) (dR.gr (gr_al _ _)))
                obtain ⟨eD, hE⟩ : ∃ e, ckD m.label d.er = e := ⟨_, rfl⟩
                rw [hE] at CD SJ
                clear hE dR hke hkl EJ CK
                rw [ea] at c2 CB ⊢
                have LZ : d.er.id = d.id := rfl
                obtain ⟨v0, v1, v2⟩ := CB.out _ (GW.out.trans (gr_al wr (.cells #[iv d.id, iv d.kind, .bool d.pub, .slice d.nA d.names.length d.nc, .bool d.doubt, iv d.body.kind, tv d.body.name, tv d.body.more, iv d.body.int, iv d.body.den, .slice d.body.A d.body.sub.length d.body.c] 45)))
                unfold Dec.v at CD
                clear HD ea ES
                by_cases hE : eD = 0
                · subst hE
                  have SK := Lib.hid (SJ.out.trans (if_neg (by decide)))
                  clear SJ
                  cases j with
                  | zero =>
                    have SL := Lib.hid (SK.out.trans (if_neg (by simp [prvD])))
                    clear SK IJ
                    go_upto_region 21 with (go_at_call 84; refine CD.out.mono ?_; rintro e w3 ⟨rfl, g3⟩; have G3 := Lib.hid ((GW.out.trans (gr_al _ _)).trans g3); have z0 : w3.cell? ⟨wr.heap.size, 0, none⟩ = some (iv d.id) := (by rw [Lib.cell_of_heap (gr_h g3 (al_new wr _))]; rfl); have zb := heap_lt (gr_h g3 (al_new wr _)); obtain ⟨y0, y1, y2⟩ := CB.out _ G3.out; clear g3)
                    go_quiet (fail)
                    all_goals go_wp2
                    exact ⟨⟨1, by omega, rfl, Lib.hid ⟨G3.out.trans (gr_drewN _ _), SL.out.symm⟩⟩, by simp [intOf]; omega⟩
                  | succ i =>
                    obtain ⟨id, hany, FI⟩ := IJ.out i rfl
                    have FI := Lib.hid FI
                    rw [hany] at SK
                    clear hany IJ
                    by_cases hle : d.id ≤ id
                    · have hq : q = 10 := SK.out.trans (if_pos (by simpa using hle))
                      subst hq
                      clear SK
                      go_upto_region 21 with (go_at_call 84; refine CD.out.mono ?_; rintro e w3 ⟨rfl, g3⟩; have G3 := Lib.hid ((GW.out.trans (gr_al _ _)).trans g3); have z0 : w3.cell? ⟨wr.heap.size, 0, none⟩ = some (iv d.id) := (by rw [Lib.cell_of_heap (gr_h g3 (al_new wr _))]; rfl); have zb := heap_lt (gr_h g3 (al_new wr _)); obtain ⟨y0, y1, y2⟩ := CB.out _ G3.out; obtain ⟨b1, f1, hb1, e0⟩ := FI.out _ G3.out; clear g3)
                      go_quiet (fail)
                      all_goals go_wp2
                      all_goals (first | go_end0 | go_ret | refine bodyPost_ret (results_none rfl _ _ _) rfl ?_)
                      all_goals exact ⟨rfl, GX.out.trans (G3.out.trans (gr_drewN _ _))⟩
                    · have SL := Lib.hid (SK.out.trans (if_neg (by simpa using hle)))
                      clear SK
                      go_upto_region 21 with (go_at_call 84; refine CD.out.mono ?_; rintro e w3 ⟨rfl, g3⟩; have G3 := Lib.hid ((GW.out.trans (gr_al _ _)).trans g3); have z0 : w3.cell? ⟨wr.heap.size, 0, none⟩ = some (iv d.id) := (by rw [Lib.cell_of_heap (gr_h g3 (al_new wr _))]; rfl); have zb := heap_lt (gr_h g3 (al_new wr _)); obtain ⟨y0, y1, y2⟩ := CB.out _ G3.out; obtain ⟨b1, f1, hb1, e0⟩ := FI.out _ G3.out; clear g3)
                      go_quiet (fail)
                      all_goals go_wp2
                      exact ⟨⟨i + 1 + 1, by omega, by simp, Lib.hid ⟨G3.out.trans (gr_drewN _ _), SL.out.symm⟩⟩, by simp [intOf]; omega⟩
                · have hq : q = eD := SJ.out.trans (if_pos hE)
                  subst hq
                  clear SJ IJ
                  have p : (q != 0) = true := by simpa using hE
                  go_wp2_with (go_at_call 84; refine CD.out.mono ?_; rintro e w3 ⟨rfl, g3⟩; have G3 := Lib.hid ((GW.out.trans (gr_al _ _)).trans g3); have z0 : w3.cell? ⟨wr.heap.size, 0, none⟩ = some (iv d.id) := (by rw [Lib.cell_of_heap (gr_h g3 (al_new wr _))]; rfl); have zb := heap_lt (gr_h g3 (al_new wr _)); obtain ⟨y0, y1, y2⟩ := CB.out _ G3.out; clear g3)
                  all_goals (first | go_end0 | go_ret | refine bodyPost_ret (results_none rfl _ _ _) rfl ?_)
                  all_goals exact ⟨rfl, GX.out.trans G3.out⟩
              · obtain rfl : j = k := by omega
                have hq : q = 0 := by
                  rw [← CK.out, List.drop_eq_nil_of_le (by rw [ES, List.length_map, HKD.out]; exact Nat.le_refl _), ckDs]
                subst hq
                clear CK
                go_wp2
                all_goals (first | go_end0 | go_ret | refine bodyPost_ret (results_none rfl _ _ _) rfl ?_)
                all_goals exact ⟨rfl, GX.out.trans GW.out⟩
    · have hq : q = eS := S1.out.trans (if_pos hS)
      subst hq
      clear S1
      have p : (q != 0) = true := by simpa using hS
      go_wp2
      all_goals (first | go_end0 | go_ret | refine bodyPost_ret (results_none rfl _ _ _) rfl ?_)
      all_goals exact ⟨rfl, GX.out.trans G2.out⟩
end Go.Proofs.YtiaenhlflgobfaaGreatDoor

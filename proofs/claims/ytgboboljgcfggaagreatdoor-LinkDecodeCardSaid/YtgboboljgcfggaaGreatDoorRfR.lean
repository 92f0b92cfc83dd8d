/- Walks: the reference's reader: number, text. -/
import Derived.Test.YtgboboljgcfggaaGreatDoorRfG
import Derived.Test.YtgboboljgcfggaaGreatDoorDeW
namespace Go.Proofs.YtgboboljgcfggaaGreatDoor
open Go.RowKit

theorem results_tc {fn : Func} {p q : Tmp} (h : fn.results = #[.tmp q, .cell p 82]) (tmps : Array Value) (w : World) (a : Addr) (x y u : Value) (hp : tmps.getD p undef = .pointer (some a)) (hq : tmps.getD q undef = u) (h0 : w.cell? a = some x) (h1 : w.cell? ⟨a.block, a.off + 1, none⟩ = some y) : (results fn tmps).run Tryz.prog w = .ok (.tuple #[u, .agg #[x, y]]) w := by
  have ha := Tryz.isAgg82
  have hz := Tryz.sizeOf82
  have hp' : tmps[p]?.getD undef = .pointer (some a) := by simpa using hp
  have hq' : tmps[q]?.getD undef = u := by simpa using hq
  clear hp hq
  simp only [results, h]
  simp [Sem.run_bind, hp', hq', asAddr, go_sem, ha, hz, loadVar, h0, h1]
/-- What a reading of the reference leaves. -/
def RrP (v : Value) (s : RS) (V : World) (e : Ending) (V' : World) : Prop := e = .returned (.tuple #[v, .agg #[.string ⟨s.rest.toArray⟩, .bool s.bad]]) ∧ Gr V V'
attribute [local irreducible] Calls in
set_option maxRecDepth 100000 in
set_option maxHeartbeats 2000000 in
theorem rrnum_any (s : RS) (V : World) (_hl : s.rest.length ≤ 1000000) : Calls Tryz.prog 27 #[.agg #[.string ⟨s.rest.toArray⟩, .bool s.bad]] V (RrP (iv (rdN s).1) (rdN s).2 V) := by
  obtain ⟨n, k, c, hg⟩ : ∃ n k c, gi s.rest = (n, k, c) := ⟨_, _, _, rfl⟩
  have GI := Lib.hid (fun W => show Calls Tryz.prog 55 #[.string ⟨s.rest.toArray⟩] W (fun e w' => e = .returned (.tuple #[.int .i64 n, .int .i64 k, .int .i64 c]) ∧ W = w') from by
    have h := rgetInt_any s.rest W
    unfold gi3 at h
    rw [hg] at h
    exact h)
  obtain ⟨rest, bad⟩ := s
  simp only at hg GI ⊢
  have hs : (⟨rest.toArray⟩ : ByteArray).size = rest.length := rfl
  have GX := Lib.hid ((gr_al V (.cells #[.string ⟨rest.toArray⟩, .bool bad] 82)).trans (gr_al _ (.cells #[.string ⟨#[]⟩, .bool false] 82)))
  have H1 := Lib.hid (gr_h (gr_al _ (.cells #[.string ⟨#[]⟩, .bool false] 82)) (al_new V (.cells #[.string ⟨rest.toArray⟩, .bool bad] 82)))
  have H2 := Lib.hid (al_at (V.alloc (.cells #[.string ⟨rest.toArray⟩, .bool bad] 82)) (.cells #[.string ⟨#[]⟩, .bool false] 82) (A := V.heap.size + 1) (by simp))
  obtain ⟨rb, hrb⟩ : ∃ r, V.heap.size = r := ⟨_, rfl⟩
  have HRB := Lib.hid hrb
  have ed := extb_drop rest k
  by_cases h0 : c = 0
  · subst h0
    have hk : k ≤ rest.length := gi_len hg
    have ES := Lib.hid (show rdN ⟨rest, bad⟩ = ((n : Int), ⟨rest.drop k, bad⟩) from by unfold rdN; simp only [hg]; rfl)
    rw [ES.out]
    clear hg
    go_enter Tryz.func27, Tryz.ntmps27
    go_upto_region 1 with fail
    rw [hrb] at H1 H2
    clear hrb
    generalize (V.alloc (.cells #[.string ⟨rest.toArray⟩, .bool bad] 82)).alloc (.cells #[.string ⟨#[]⟩, .bool false] 82) = W0 at *
    obtain ⟨c0, c1, f0, f1⟩ := dcel2 H1.out
    obtain ⟨d0, d1, g0, g1⟩ := dcel2 H2.out
    cases bad
    ·
      go_upto_region 4 with (go_at_call 55; refine (GI.out _).mono ?_; rintro e w' ⟨rfl, rfl⟩)
      try rw [ed]
      have H3 := Lib.hid (show ((W0.setCell ⟨rb, 1, none⟩ (.bool false)).setCell ⟨rb, 0, none⟩ (.string ⟨(rest.drop k).toArray⟩)).heap[rb]? = some (.cells #[.string ⟨(rest.drop k).toArray⟩, .bool false] 82 (0, 0)) from (dset2 (dset2 H1.out _).2 _).1)
      have G3 := Lib.hid (show Gr V ((W0.setCell ⟨rb, 1, none⟩ (.bool false)).setCell ⟨rb, 0, none⟩ (.string ⟨(rest.drop k).toArray⟩)) from gr_but (gr_but GX.out (grown_set rb 1 _) (fun j e => by have := Option.some.inj e; have := HRB.out; omega)) (grown_set rb 0 _) (fun j e => by have := Option.some.inj e; have := HRB.out; omega))
      have H4 := Lib.hid (show ((W0.setCell ⟨rb, 1, none⟩ (.bool false)).setCell ⟨rb, 0, none⟩ (.string ⟨(rest.drop k).toArray⟩)).heap[rb + 1]? = some (.cells #[.string ⟨#[]⟩, .bool false] 82 (0, 0)) from (set_oth _ (by omega)).trans ((set_oth _ (by omega)).trans H2.out))
      clear c0 c1 f0 f1 d0 d1 g0 g1
      generalize (W0.setCell ⟨rb, 1, none⟩ (.bool false)).setCell ⟨rb, 0, none⟩ (.string ⟨(rest.drop k).toArray⟩) = W5 at *
      obtain ⟨c0, c1, f0, f1⟩ := dcel2 H3.out
      obtain ⟨d0, d1, g0, g1⟩ := dcel2 H4.out
      go_region
      all_goals go_wp2
      all_goals have H5 := Lib.hid (show ((W5.drew.setCell ⟨rb + 1, 0, none⟩ (.string ⟨(rest.drop k).toArray⟩)).setCell ⟨rb + 1, 1, none⟩ (.bool false)).heap[rb + 1]? = some (.cells #[.string ⟨(rest.drop k).toArray⟩, .bool false] 82 (0, 0)) from (dset2 (dset2 H4.out _).1 _).2)
      all_goals obtain ⟨r0, r1, -, -⟩ := dcel2 H5.out
      all_goals (try simp only [Exit.inBlock, Exit.then])
      all_goals refine bodyPost_ret (results_tc rfl _ _ ⟨rb + 1, 0, none⟩ (.string ⟨(rest.drop k).toArray⟩) (.bool false) _ rfl rfl r0 r1) rfl ?_
      all_goals exact ⟨rfl, gr_but (gr_but (G3.out.trans (gr_drew _)) (grown_set (rb + 1) 0 _) (fun j e => by have := Option.some.inj e; have := HRB.out; omega)) (grown_set (rb + 1) 1 _) (fun j e => by have := Option.some.inj e; have := HRB.out; omega)⟩
    ·
      go_upto_region 4 with (go_at_call 55; refine (GI.out _).mono ?_; rintro e w' ⟨rfl, rfl⟩)
      try rw [ed]
      have H3 := Lib.hid (show ((W0.setCell ⟨rb, 1, none⟩ (.bool true)).setCell ⟨rb, 0, none⟩ (.string ⟨(rest.drop k).toArray⟩)).heap[rb]? = some (.cells #[.string ⟨(rest.drop k).toArray⟩, .bool true] 82 (0, 0)) from (dset2 (dset2 H1.out _).2 _).1)
      have G3 := Lib.hid (show Gr V ((W0.setCell ⟨rb, 1, none⟩ (.bool true)).setCell ⟨rb, 0, none⟩ (.string ⟨(rest.drop k).toArray⟩)) from gr_but (gr_but GX.out (grown_set rb 1 _) (fun j e => by have := Option.some.inj e; have := HRB.out; omega)) (grown_set rb 0 _) (fun j e => by have := Option.some.inj e; have := HRB.out; omega))
      have H4 := Lib.hid (show ((W0.setCell ⟨rb, 1, none⟩ (.bool true)).setCell ⟨rb, 0, none⟩ (.string ⟨(rest.drop k).toArray⟩)).heap[rb + 1]? = some (.cells #[.string ⟨#[]⟩, .bool false] 82 (0, 0)) from (set_oth _ (by omega)).trans ((set_oth _ (by omega)).trans H2.out))
      clear c0 c1 f0 f1 d0 d1 g0 g1
      generalize (W0.setCell ⟨rb, 1, none⟩ (.bool true)).setCell ⟨rb, 0, none⟩ (.string ⟨(rest.drop k).toArray⟩) = W5 at *
      obtain ⟨c0, c1, f0, f1⟩ := dcel2 H3.out
      obtain ⟨d0, d1, g0, g1⟩ := dcel2 H4.out
      go_region
      all_goals go_wp2
      all_goals have H5 := Lib.hid (show ((W5.drew.setCell ⟨rb + 1, 0, none⟩ (.string ⟨(rest.drop k).toArray⟩)).setCell ⟨rb + 1, 1, none⟩ (.bool true)).heap[rb + 1]? = some (.cells #[.string ⟨(rest.drop k).toArray⟩, .bool true] 82 (0, 0)) from (dset2 (dset2 H4.out _).1 _).2)
      all_goals obtain ⟨r0, r1, -, -⟩ := dcel2 H5.out
      all_goals (try simp only [Exit.inBlock, Exit.then])
      all_goals refine bodyPost_ret (results_tc rfl _ _ ⟨rb + 1, 0, none⟩ (.string ⟨(rest.drop k).toArray⟩) (.bool true) _ rfl rfl r0 r1) rfl ?_
      all_goals exact ⟨rfl, gr_but (gr_but (G3.out.trans (gr_drew _)) (grown_set (rb + 1) 0 _) (fun j e => by have := Option.some.inj e; have := HRB.out; omega)) (grown_set (rb + 1) 1 _) (fun j e => by have := Option.some.inj e; have := HRB.out; omega)⟩
  · have hc : (c != 0) = true := by simpa using h0
    have e1 : n = 0 ∧ k = 0 := by
      have h := giF_err 6 0 0 1 rest (by show (gi rest).2.2 ≠ 0; rw [hg]; exact h0)
      change (gi rest).1 = 0 ∧ (gi rest).2.1 = 0 at h
      rw [hg] at h
      exact h
    obtain ⟨e1, e2⟩ := e1
    subst e1
    subst e2
    have ES := Lib.hid (show rdN ⟨rest, bad⟩ = (0, ⟨rest, true⟩) from by unfold rdN; simp only [hg]; rw [if_neg h0])
    rw [ES.out]
    rw [List.drop_zero] at ed
    clear hg
    go_enter Tryz.func27, Tryz.ntmps27
    go_upto_region 1 with fail
    rw [hrb] at H1 H2
    clear hrb
    generalize (V.alloc (.cells #[.string ⟨rest.toArray⟩, .bool bad] 82)).alloc (.cells #[.string ⟨#[]⟩, .bool false] 82) = W0 at *
    obtain ⟨c0, c1, f0, f1⟩ := dcel2 H1.out
    obtain ⟨d0, d1, g0, g1⟩ := dcel2 H2.out
    cases bad
    ·
      go_upto_region 4 with (go_at_call 55; refine (GI.out _).mono ?_; rintro e w' ⟨rfl, rfl⟩)
      try rw [ed]
      have H3 := Lib.hid (show ((W0.setCell ⟨rb, 1, none⟩ (.bool true)).setCell ⟨rb, 0, none⟩ (.string ⟨(rest).toArray⟩)).heap[rb]? = some (.cells #[.string ⟨(rest).toArray⟩, .bool true] 82 (0, 0)) from (dset2 (dset2 H1.out _).2 _).1)
      have G3 := Lib.hid (show Gr V ((W0.setCell ⟨rb, 1, none⟩ (.bool true)).setCell ⟨rb, 0, none⟩ (.string ⟨(rest).toArray⟩)) from gr_but (gr_but GX.out (grown_set rb 1 _) (fun j e => by have := Option.some.inj e; have := HRB.out; omega)) (grown_set rb 0 _) (fun j e => by have := Option.some.inj e; have := HRB.out; omega))
      have H4 := Lib.hid (show ((W0.setCell ⟨rb, 1, none⟩ (.bool true)).setCell ⟨rb, 0, none⟩ (.string ⟨(rest).toArray⟩)).heap[rb + 1]? = some (.cells #[.string ⟨#[]⟩, .bool false] 82 (0, 0)) from (set_oth _ (by omega)).trans ((set_oth _ (by omega)).trans H2.out))
      clear c0 c1 f0 f1 d0 d1 g0 g1
      generalize (W0.setCell ⟨rb, 1, none⟩ (.bool true)).setCell ⟨rb, 0, none⟩ (.string ⟨(rest).toArray⟩) = W5 at *
      obtain ⟨c0, c1, f0, f1⟩ := dcel2 H3.out
      obtain ⟨d0, d1, g0, g1⟩ := dcel2 H4.out
      go_region
      all_goals go_wp2
      all_goals have H5 := Lib.hid (show ((W5.drew.setCell ⟨rb + 1, 0, none⟩ (.string ⟨(rest).toArray⟩)).setCell ⟨rb + 1, 1, none⟩ (.bool true)).heap[rb + 1]? = some (.cells #[.string ⟨(rest).toArray⟩, .bool true] 82 (0, 0)) from (dset2 (dset2 H4.out _).1 _).2)
      all_goals obtain ⟨r0, r1, -, -⟩ := dcel2 H5.out
      all_goals (try simp only [Exit.inBlock, Exit.then])
      all_goals refine bodyPost_ret (results_tc rfl _ _ ⟨rb + 1, 0, none⟩ (.string ⟨(rest).toArray⟩) (.bool true) _ rfl rfl r0 r1) rfl ?_
      all_goals exact ⟨rfl, gr_but (gr_but (G3.out.trans (gr_drew _)) (grown_set (rb + 1) 0 _) (fun j e => by have := Option.some.inj e; have := HRB.out; omega)) (grown_set (rb + 1) 1 _) (fun j e => by have := Option.some.inj e; have := HRB.out; omega)⟩
    ·
      go_upto_region 4 with (go_at_call 55; refine (GI.out _).mono ?_; rintro e w' ⟨rfl, rfl⟩)
      try rw [ed]
      have H3 := Lib.hid (show ((W0.setCell ⟨rb, 1, none⟩ (.bool true)).setCell ⟨rb, 0, none⟩ (.string ⟨(rest).toArray⟩)).heap[rb]? = some (.cells #[.string ⟨(rest).toArray⟩, .bool true] 82 (0, 0)) from (dset2 (dset2 H1.out _).2 _).1)
      have G3 := Lib.hid (show Gr V ((W0.setCell ⟨rb, 1, none⟩ (.bool true)).setCell ⟨rb, 0, none⟩ (.string ⟨(rest).toArray⟩)) from gr_but (gr_but GX.out (grown_set rb 1 _) (fun j e => by have := Option.some.inj e; have := HRB.out; omega)) (grown_set rb 0 _) (fun j e => by have := Option.some.inj e; have := HRB.out; omega))
      have H4 := Lib.hid (show ((W0.setCell ⟨rb, 1, none⟩ (.bool true)).setCell ⟨rb, 0, none⟩ (.string ⟨(rest).toArray⟩)).heap[rb + 1]? = some (.cells #[.string ⟨#[]⟩, .bool false] 82 (0, 0)) from (set_oth _ (by omega)).trans ((set_oth _ (by omega)).trans H2.out))
      clear c0 c1 f0 f1 d0 d1 g0 g1
      generalize (W0.setCell ⟨rb, 1, none⟩ (.bool true)).setCell ⟨rb, 0, none⟩ (.string ⟨(rest).toArray⟩) = W5 at *
      obtain ⟨c0, c1, f0, f1⟩ := dcel2 H3.out
      obtain ⟨d0, d1, g0, g1⟩ := dcel2 H4.out
      go_region
      all_goals go_wp2
      all_goals have H5 := Lib.hid (show ((W5.drew.setCell ⟨rb + 1, 0, none⟩ (.string ⟨(rest).toArray⟩)).setCell ⟨rb + 1, 1, none⟩ (.bool true)).heap[rb + 1]? = some (.cells #[.string ⟨(rest).toArray⟩, .bool true] 82 (0, 0)) from (dset2 (dset2 H4.out _).1 _).2)
      all_goals obtain ⟨r0, r1, -, -⟩ := dcel2 H5.out
      all_goals (try simp only [Exit.inBlock, Exit.then])
      all_goals refine bodyPost_ret (results_tc rfl _ _ ⟨rb + 1, 0, none⟩ (.string ⟨(rest).toArray⟩) (.bool true) _ rfl rfl r0 r1) rfl ?_
      all_goals exact ⟨rfl, gr_but (gr_but (G3.out.trans (gr_drew _)) (grown_set (rb + 1) 0 _) (fun j e => by have := Option.some.inj e; have := HRB.out; omega)) (grown_set (rb + 1) 1 _) (fun j e => by have := Option.some.inj e; have := HRB.out; omega)⟩
attribute [local irreducible] Calls in
set_option maxRecDepth 100000 in
set_option maxHeartbeats 2000000 in
theorem rrtext_any (s : RS) (V : World) (hl : s.rest.length ≤ 1000000) : Calls Tryz.prog 29 #[.agg #[.string ⟨s.rest.toArray⟩, .bool s.bad]] V (RrP (tv (rdT s).1) (rdT s).2 V) := by
  obtain ⟨n, k, c, hg⟩ : ∃ n k c, gt s.rest = (n, k, c) := ⟨_, _, _, rfl⟩
  have GI := Lib.hid (fun W => show Calls Tryz.prog 56 #[.string ⟨s.rest.toArray⟩] W (fun e w' => e = .returned (.tuple #[.string ⟨n.toArray⟩, .int .i64 k, .int .i64 c]) ∧ W = w') from by
    have h := rgetText_any s.rest W (by omega)
    unfold gt3 at h
    rw [hg] at h
    exact h)
  obtain ⟨rest, bad⟩ := s
  simp only at hl hg GI ⊢
  have hs : (⟨rest.toArray⟩ : ByteArray).size = rest.length := rfl
  have GX := Lib.hid ((gr_al V (.cells #[.string ⟨rest.toArray⟩, .bool bad] 82)).trans (gr_al _ (.cells #[.string ⟨#[]⟩, .bool false] 82)))
  have H1 := Lib.hid (gr_h (gr_al _ (.cells #[.string ⟨#[]⟩, .bool false] 82)) (al_new V (.cells #[.string ⟨rest.toArray⟩, .bool bad] 82)))
  have H2 := Lib.hid (al_at (V.alloc (.cells #[.string ⟨rest.toArray⟩, .bool bad] 82)) (.cells #[.string ⟨#[]⟩, .bool false] 82) (A := V.heap.size + 1) (by simp))
  obtain ⟨rb, hrb⟩ : ∃ r, V.heap.size = r := ⟨_, rfl⟩
  have HRB := Lib.hid hrb
  have ed := extb_drop rest k
  by_cases h0 : c = 0
  · subst h0
    have hk : k ≤ rest.length := gt_len hg (Nat.le_refl _)
    have ES := Lib.hid (show rdT ⟨rest, bad⟩ = (n, ⟨rest.drop k, bad⟩) from by unfold rdT; simp only [hg]; rfl)
    rw [ES.out]
    clear hg
    go_enter Tryz.func29, Tryz.ntmps29
    go_upto_region 1 with fail
    rw [hrb] at H1 H2
    clear hrb
    generalize (V.alloc (.cells #[.string ⟨rest.toArray⟩, .bool bad] 82)).alloc (.cells #[.string ⟨#[]⟩, .bool false] 82) = W0 at *
    obtain ⟨c0, c1, f0, f1⟩ := dcel2 H1.out
    obtain ⟨d0, d1, g0, g1⟩ := dcel2 H2.out
    cases bad
    ·
      go_upto_region 4 with (go_at_call 56; refine (GI.out _).mono ?_; rintro e w' ⟨rfl, rfl⟩)
      try rw [ed]
      have H3 := Lib.hid (show ((W0.setCell ⟨rb, 1, none⟩ (.bool false)).setCell ⟨rb, 0, none⟩ (.string ⟨(rest.drop k).toArray⟩)).heap[rb]? = some (.cells #[.string ⟨(rest.drop k).toArray⟩, .bool false] 82 (0, 0)) from (dset2 (dset2 H1.out _).2 _).1)
      have G3 := Lib.hid (show Gr V ((W0.setCell ⟨rb, 1, none⟩ (.bool false)).setCell ⟨rb, 0, none⟩ (.string ⟨(rest.drop k).toArray⟩)) from gr_but (gr_but GX.out (grown_set rb 1 _) (fun j e => by have := Option.some.inj e; have := HRB.out; omega)) (grown_set rb 0 _) (fun j e => by have := Option.some.inj e; have := HRB.out; omega))
      have H4 := Lib.hid (show ((W0.setCell ⟨rb, 1, none⟩ (.bool false)).setCell ⟨rb, 0, none⟩ (.string ⟨(rest.drop k).toArray⟩)).heap[rb + 1]? = some (.cells #[.string ⟨#[]⟩, .bool false] 82 (0, 0)) from (set_oth _ (by omega)).trans ((set_oth _ (by omega)).trans H2.out))
      clear c0 c1 f0 f1 d0 d1 g0 g1
      generalize (W0.setCell ⟨rb, 1, none⟩ (.bool false)).setCell ⟨rb, 0, none⟩ (.string ⟨(rest.drop k).toArray⟩) = W5 at *
      obtain ⟨c0, c1, f0, f1⟩ := dcel2 H3.out
      obtain ⟨d0, d1, g0, g1⟩ := dcel2 H4.out
      go_region
      all_goals go_wp2
      all_goals have H5 := Lib.hid (show ((W5.drew.setCell ⟨rb + 1, 0, none⟩ (.string ⟨(rest.drop k).toArray⟩)).setCell ⟨rb + 1, 1, none⟩ (.bool false)).heap[rb + 1]? = some (.cells #[.string ⟨(rest.drop k).toArray⟩, .bool false] 82 (0, 0)) from (dset2 (dset2 H4.out _).1 _).2)
      all_goals obtain ⟨r0, r1, -, -⟩ := dcel2 H5.out
      all_goals (try simp only [Exit.inBlock, Exit.then])
      all_goals refine bodyPost_ret (results_tc rfl _ _ ⟨rb + 1, 0, none⟩ (.string ⟨(rest.drop k).toArray⟩) (.bool false) _ rfl rfl r0 r1) rfl ?_
      all_goals exact ⟨rfl, gr_but (gr_but (G3.out.trans (gr_drew _)) (grown_set (rb + 1) 0 _) (fun j e => by have := Option.some.inj e; have := HRB.out; omega)) (grown_set (rb + 1) 1 _) (fun j e => by have := Option.some.inj e; have := HRB.out; omega)⟩
    ·
      go_upto_region 4 with (go_at_call 56; refine (GI.out _).mono ?_; rintro e w' ⟨rfl, rfl⟩)
      try rw [ed]
      have H3 := Lib.hid (show ((W0.setCell ⟨rb, 1, none⟩ (.bool true)).setCell ⟨rb, 0, none⟩ (.string ⟨(rest.drop k).toArray⟩)).heap[rb]? = some (.cells #[.string ⟨(rest.drop k).toArray⟩, .bool true] 82 (0, 0)) from (dset2 (dset2 H1.out _).2 _).1)
      have G3 := Lib.hid (show Gr V ((W0.setCell ⟨rb, 1, none⟩ (.bool true)).setCell ⟨rb, 0, none⟩ (.string ⟨(rest.drop k).toArray⟩)) from gr_but (gr_but GX.out (grown_set rb 1 _) (fun j e => by have := Option.some.inj e; have := HRB.out; omega)) (grown_set rb 0 _) (fun j e => by have := Option.some.inj e; have := HRB.out; omega))
      have H4 := Lib.hid (show ((W0.setCell ⟨rb, 1, none⟩ (.bool true)).setCell ⟨rb, 0, none⟩ (.string ⟨(rest.drop k).toArray⟩)).heap[rb + 1]? = some (.cells #[.string ⟨#[]⟩, .bool false] 82 (0, 0)) from (set_oth _ (by omega)).trans ((set_oth _ (by omega)).trans H2.out))
      clear c0 c1 f0 f1 d0 d1 g0 g1
      generalize (W0.setCell ⟨rb, 1, none⟩ (.bool true)).setCell ⟨rb, 0, none⟩ (.string ⟨(rest.drop k).toArray⟩) = W5 at *
      obtain ⟨c0, c1, f0, f1⟩ := dcel2 H3.out
      obtain ⟨d0, d1, g0, g1⟩ := dcel2 H4.out
      go_region
      all_goals go_wp2
      all_goals have H5 := Lib.hid (show ((W5.drew.setCell ⟨rb + 1, 0, none⟩ (.string ⟨(rest.drop k).toArray⟩)).setCell ⟨rb + 1, 1, none⟩ (.bool true)).heap[rb + 1]? = some (.cells #[.string ⟨(rest.drop k).toArray⟩, .bool true] 82 (0, 0)) from (dset2 (dset2 H4.out _).1 _).2)
      all_goals obtain ⟨r0, r1, -, -⟩ := dcel2 H5.out
      all_goals (try simp only [Exit.inBlock, Exit.then])
      all_goals refine bodyPost_ret (results_tc rfl _ _ ⟨rb + 1, 0, none⟩ (.string ⟨(rest.drop k).toArray⟩) (.bool true) _ rfl rfl r0 r1) rfl ?_
      all_goals exact ⟨rfl, gr_but (gr_but (G3.out.trans (gr_drew _)) (grown_set (rb + 1) 0 _) (fun j e => by have := Option.some.inj e; have := HRB.out; omega)) (grown_set (rb + 1) 1 _) (fun j e => by have := Option.some.inj e; have := HRB.out; omega)⟩
  · have hc : (c != 0) = true := by simpa using h0
    have e1 : n = [] ∧ k = 0 := by
      have h := hg
      unfold gt at h
      split at h
      · have e := Prod.mk.inj h; have e2 := Prod.mk.inj e.2; exact ⟨e.1.symm, e2.1.symm⟩
      · split at h
        · have e := Prod.mk.inj h; have e2 := Prod.mk.inj e.2; exact ⟨e.1.symm, e2.1.symm⟩
        · split at h
          · have e := Prod.mk.inj h; have e2 := Prod.mk.inj e.2; exact ⟨e.1.symm, e2.1.symm⟩
          · have e := Prod.mk.inj h; have e2 := Prod.mk.inj e.2; exact absurd e2.2.symm h0
    obtain ⟨e1, e2⟩ := e1
    subst e1
    subst e2
    have ES := Lib.hid (show rdT ⟨rest, bad⟩ = ([], ⟨rest, true⟩) from by unfold rdT; simp only [hg]; rw [if_neg h0])
    rw [ES.out]
    rw [List.drop_zero] at ed
    clear hg
    go_enter Tryz.func29, Tryz.ntmps29
    go_upto_region 1 with fail
    rw [hrb] at H1 H2
    clear hrb
    generalize (V.alloc (.cells #[.string ⟨rest.toArray⟩, .bool bad] 82)).alloc (.cells #[.string ⟨#[]⟩, .bool false] 82) = W0 at *
    obtain ⟨c0, c1, f0, f1⟩ := dcel2 H1.out
    obtain ⟨d0, d1, g0, g1⟩ := dcel2 H2.out
    cases bad
    ·
      go_upto_region 4 with (go_at_call 56; refine (GI.out _).mono ?_; rintro e w' ⟨rfl, rfl⟩)
      try rw [ed]
      have H3 := Lib.hid (show ((W0.setCell ⟨rb, 1, none⟩ (.bool true)).setCell ⟨rb, 0, none⟩ (.string ⟨(rest).toArray⟩)).heap[rb]? = some (.cells #[.string ⟨(rest).toArray⟩, .bool true] 82 (0, 0)) from (dset2 (dset2 H1.out _).2 _).1)
      have G3 := Lib.hid (show Gr V ((W0.setCell ⟨rb, 1, none⟩ (.bool true)).setCell ⟨rb, 0, none⟩ (.string ⟨(rest).toArray⟩)) from gr_but (gr_but GX.out (grown_set rb 1 _) (fun j e => by have := Option.some.inj e; have := HRB.out; omega)) (grown_set rb 0 _) (fun j e => by have := Option.some.inj e; have := HRB.out; omega))
      have H4 := Lib.hid (show ((W0.setCell ⟨rb, 1, none⟩ (.bool true)).setCell ⟨rb, 0, none⟩ (.string ⟨(rest).toArray⟩)).heap[rb + 1]? = some (.cells #[.string ⟨#[]⟩, .bool false] 82 (0, 0)) from (set_oth _ (by omega)).trans ((set_oth _ (by omega)).trans H2.out))
      clear c0 c1 f0 f1 d0 d1 g0 g1
      generalize (W0.setCell ⟨rb, 1, none⟩ (.bool true)).setCell ⟨rb, 0, none⟩ (.string ⟨(rest).toArray⟩) = W5 at *
      obtain ⟨c0, c1, f0, f1⟩ := dcel2 H3.out
      obtain ⟨d0, d1, g0, g1⟩ := dcel2 H4.out
      go_region
      all_goals go_wp2
      all_goals have H5 := Lib.hid (show ((W5.drew.setCell ⟨rb + 1, 0, none⟩ (.string ⟨(rest).toArray⟩)).setCell ⟨rb + 1, 1, none⟩ (.bool true)).heap[rb + 1]? = some (.cells #[.string ⟨(rest).toArray⟩, .bool true] 82 (0, 0)) from (dset2 (dset2 H4.out _).1 _).2)
      all_goals obtain ⟨r0, r1, -, -⟩ := dcel2 H5.out
      all_goals (try simp only [Exit.inBlock, Exit.then])
      all_goals refine bodyPost_ret (results_tc rfl _ _ ⟨rb + 1, 0, none⟩ (.string ⟨(rest).toArray⟩) (.bool true) _ rfl rfl r0 r1) rfl ?_
      all_goals exact ⟨rfl, gr_but (gr_but (G3.out.trans (gr_drew _)) (grown_set (rb + 1) 0 _) (fun j e => by have := Option.some.inj e; have := HRB.out; omega)) (grown_set (rb + 1) 1 _) (fun j e => by have := Option.some.inj e; have := HRB.out; omega)⟩
    ·
      go_upto_region 4 with (go_at_call 56; refine (GI.out _).mono ?_; rintro e w' ⟨rfl, rfl⟩)
      try rw [ed]
      have H3 := Lib.hid (show ((W0.setCell ⟨rb, 1, none⟩ (.bool true)).setCell ⟨rb, 0, none⟩ (.string ⟨(rest).toArray⟩)).heap[rb]? = some (.cells #[.string ⟨(rest).toArray⟩, .bool true] 82 (0, 0)) from (dset2 (dset2 H1.out _).2 _).1)
      have G3 := Lib.hid (show Gr V ((W0.setCell ⟨rb, 1, none⟩ (.bool true)).setCell ⟨rb, 0, none⟩ (.string ⟨(rest).toArray⟩)) from gr_but (gr_but GX.out (grown_set rb 1 _) (fun j e => by have := Option.some.inj e; have := HRB.out; omega)) (grown_set rb 0 _) (fun j e => by have := Option.some.inj e; have := HRB.out; omega))
      have H4 := Lib.hid (show ((W0.setCell ⟨rb, 1, none⟩ (.bool true)).setCell ⟨rb, 0, none⟩ (.string ⟨(rest).toArray⟩)).heap[rb + 1]? = some (.cells #[.string ⟨#[]⟩, .bool false] 82 (0, 0)) from (set_oth _ (by omega)).trans ((set_oth _ (by omega)).trans H2.out))
      clear c0 c1 f0 f1 d0 d1 g0 g1
      generalize (W0.setCell ⟨rb, 1, none⟩ (.bool true)).setCell ⟨rb, 0, none⟩ (.string ⟨(rest).toArray⟩) = W5 at *
      obtain ⟨c0, c1, f0, f1⟩ := dcel2 H3.out
      obtain ⟨d0, d1, g0, g1⟩ := dcel2 H4.out
      go_region
      all_goals go_wp2
      all_goals have H5 := Lib.hid (show ((W5.drew.setCell ⟨rb + 1, 0, none⟩ (.string ⟨(rest).toArray⟩)).setCell ⟨rb + 1, 1, none⟩ (.bool true)).heap[rb + 1]? = some (.cells #[.string ⟨(rest).toArray⟩, .bool true] 82 (0, 0)) from (dset2 (dset2 H4.out _).1 _).2)
      all_goals obtain ⟨r0, r1, -, -⟩ := dcel2 H5.out
      all_goals (try simp only [Exit.inBlock, Exit.then])
      all_goals refine bodyPost_ret (results_tc rfl _ _ ⟨rb + 1, 0, none⟩ (.string ⟨(rest).toArray⟩) (.bool true) _ rfl rfl r0 r1) rfl ?_
      all_goals exact ⟨rfl, gr_but (gr_but (G3.out.trans (gr_drew _)) (grown_set (rb + 1) 0 _) (fun j e => by have := Option.some.inj e; have := HRB.out; omega)) (grown_set (rb + 1) 1 _) (fun j e => by have := Option.some.inj e; have := HRB.out; omega)⟩
end Go.Proofs.YtgboboljgcfggaaGreatDoor

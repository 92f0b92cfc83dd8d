/- Walk: fits of edit, where an edit is as described. -/
import Derived.Test.YtiaenhlflgobfaaGreatDoorM1
import Derived.Test.YtiaenhlflgobfaaGreatDoorM11
import Derived.Test.YtiaenhlflgobfaaGreatDoorM12
import Derived.Deep.RegionHeld3
namespace Go.Proofs.YtiaenhlflgobfaaGreatDoor
open Go.RowKit
theorem edtCells {V : World} {b : Nat} {e : Edt} (h : V.heap[b]? = some (.cells #[iv e.kind, tv e.pack, tv e.text, .slice e.oA e.old.length e.oc, .slice e.nA e.new.length e.nc] 32 (0, 0))) : V.cell? ⟨b, 0, none⟩ = some (iv e.kind) ∧ V.cell? ⟨b, 1, none⟩ = some (tv e.pack) ∧ V.cell? ⟨b, 2, none⟩ = some (tv e.text) ∧ V.cell? ⟨b, 3, none⟩ = some (.slice e.oA e.old.length e.oc) ∧ V.cell? ⟨b, 4, none⟩ = some (.slice e.nA e.new.length e.nc) := by
  refine ⟨?_, ?_, ?_, ?_, ?_⟩ <;> (rw [Lib.cell_of_heap h]; rfl)
theorem ment_er (k : Int) (d : Dec) : (d.ment k).er = ment k d.er := by
  unfold Dec.ment ment Dec.er
  have hz : Ex.zero.er = zE := by simp [Ex.zero, Ex.er, zE]
  by_cases h7 : k = 7
  · rw [if_pos h7, if_pos h7]; simp [hz]
  rw [if_neg h7, if_neg h7]
  by_cases h8 : k = 8
  · rw [if_pos h8, if_pos h8]
  rw [if_neg h8, if_neg h8]
  by_cases h9 : k = 9
  · rw [if_pos h9, if_pos h9]; simp [hz]
  rw [if_neg h9, if_neg h9]
theorem ment_rd {w : World} (k : Int) {d : Dec} (h : d.Rd w) : (d.ment k).Rd w := by
  have hz : Ex.zero.Rd w := ⟨XRd.nil w, by simp [Ex.zero, Ex.name, sOk], by simp [Ex.zero, Ex.more, sOk]⟩
  unfold Dec.ment
  split
  · exact ⟨h.n, hz⟩
  split
  · exact ⟨SRd.nil w, h.b⟩
  split
  · exact ⟨SRd.nil w, hz⟩
  · exact h
theorem zE_pre : (zE.pre 1).length = 1 := by simp [pre_eq, zE, PE.sub]
theorem ment_small (k : Int) {d : PD} (h : (d.body.pre 1).length ≤ 400) : ((ment k d).body.pre 1).length ≤ 400 := by
  unfold ment
  split
  · simp [zE_pre]
  split
  · exact h
  split
  · simp [zE_pre]
  · exact h
set_option maxRecDepth 100000 in
set_option maxHeartbeats 4000000 in
attribute [local irreducible] Calls in
theorem fits_few (e : Edt) (w : World) (h1 : 1 ≤ e.kind) (h7 : e.kind < 7) (hf : fits e.er = true) : Calls Tryz.prog 66 #[e.v] w fun x w' => x = .returned (.bool true) ∧ Gr w w' := by
  obtain ⟨q1, q2, q3, -⟩ := fits_parts hf
  replace q1 : e.old.length = if e.kind = 6 ∨ 7 ≤ e.kind then 1 else 0 := by have h := q1; simp only [Edt.er, List.length_map] at h; exact h
  replace q2 : e.new.length = if e.kind = 5 ∨ 7 ≤ e.kind then 1 else 0 := by have h := q2; simp only [Edt.er, List.length_map] at h; exact h
  replace q3 : e.text = [] ∨ e.kind = 3 ∨ e.kind = 4 := q3
  obtain ⟨c0, c1, c2, c3, c4⟩ := edtCells (al_new w (.cells #[iv e.kind, tv e.pack, tv e.text, .slice e.oA e.old.length e.oc, .slice e.nA e.new.length e.nc] 32))
  have GW := Lib.hid (gr_al w (.cells #[iv e.kind, tv e.pack, tv e.text, .slice e.oA e.old.length e.oc, .slice e.nA e.new.length e.nc] 32))
  unfold Edt.v
  have hc : e.kind = 1 ∨ e.kind = 2 ∨ e.kind = 3 ∨ e.kind = 4 ∨ e.kind = 5 ∨ e.kind = 6 := by omega
  clear hf h1 h7
  obtain ⟨K, hK⟩ : ∃ K, e.kind = K := ⟨_, rfl⟩
  obtain ⟨X, hX⟩ : ∃ X, e.text = X := ⟨_, rfl⟩
  rw [hK] at c0 c1 c2 c3 c4 q1 q2 q3 hc GW ⊢
  rw [hX] at c0 c1 c2 c3 c4 q3 GW ⊢
  clear hK hX
  rcases hc with rfl | rfl | rfl | rfl | rfl | rfl
  all_goals simp only [Int.reduceEq, Int.reduceLE, or_self, or_false, or_true, if_true, if_false] at q1 q2 q3
  all_goals rw [q1] at c0 c1 c2 c3 c4 GW ⊢
  all_goals rw [q2] at c0 c1 c2 c3 c4 GW ⊢
  all_goals clear q1 q2
  case inl => subst q3; go_enter Tryz.func66, Tryz.ntmps66; go_wp2; go_ret; exact ⟨rfl, GW.out⟩
  case inr.inl => subst q3; go_enter Tryz.func66, Tryz.ntmps66; go_wp2; go_ret; exact ⟨rfl, GW.out⟩
  case inr.inr.inl =>
    clear q3
    cases hE : X.isEmpty with
    | true => go_enter Tryz.func66, Tryz.ntmps66; go_wp2; go_ret; exact ⟨rfl, GW.out⟩
    | false => go_enter Tryz.func66, Tryz.ntmps66; go_wp2; go_ret; exact ⟨rfl, GW.out⟩
  case inr.inr.inr.inl =>
    clear q3
    cases hE : X.isEmpty with
    | true => go_enter Tryz.func66, Tryz.ntmps66; go_wp2; go_ret; exact ⟨rfl, GW.out⟩
    | false => go_enter Tryz.func66, Tryz.ntmps66; go_wp2; go_ret; exact ⟨rfl, GW.out⟩
  case inr.inr.inr.inr.inl => subst q3; go_enter Tryz.func66, Tryz.ntmps66; go_wp2; go_ret; exact ⟨rfl, GW.out⟩
  case inr.inr.inr.inr.inr => subst q3; go_enter Tryz.func66, Tryz.ntmps66; go_wp2; go_ret; exact ⟨rfl, GW.out⟩
set_option maxRecDepth 100000 in
set_option maxHeartbeats 4000000 in
attribute [local irreducible] Calls in
theorem fits_many (e : Edt) (w : World) (he : e.Rd w) (h7 : 7 ≤ e.kind) (hf : fits e.er = true) (hs : ∀ d ∈ e.old ++ e.new, (d.body.er.pre 1).length ≤ 400) : Calls Tryz.prog 66 #[e.v] w fun x w' => x = .returned (.bool true) ∧ Gr w w' := by
  obtain ⟨o, n, ho, hn, hx1, hx2, hx3, hx4⟩ := fits_last hf h7
  obtain ⟨O, hO, rfl⟩ : ∃ O, e.old = [O] ∧ O.er = o := by
    match hh : e.old with
    | [] => simp [Edt.er, hh] at ho
    | [O] => refine ⟨O, rfl, ?_⟩; simpa [Edt.er, hh] using ho
    | _ :: _ :: _ => simp [Edt.er, hh] at ho
  obtain ⟨M, hM, rfl⟩ : ∃ M, e.new = [M] ∧ M.er = n := by
    match hh : e.new with
    | [] => simp [Edt.er, hh] at hn
    | [M] => refine ⟨M, rfl, ?_⟩; simpa [Edt.er, hh] using hn
    | _ :: _ :: _ => simp [Edt.er, hh] at hn
  have hte : e.text = [] := by
    rcases (fits_parts hf).2.2.1 with h | h | h
    · exact h
    · exfalso; have h : e.kind = 3 := h; omega
    · exfalso; have h : e.kind = 4 := h; omega
  replace hx1 : O.er = ment e.kind O.er := hx1
  replace hx2 : M.er = ment e.kind M.er := hx2
  replace hx3 : O.id = M.id := hx3
  obtain ⟨W, hW⟩ : ∃ W, w.alloc (.cells #[iv e.kind, tv e.pack, tv e.text, .slice e.oA e.old.length e.oc, .slice e.nA e.new.length e.nc] 32) = W := ⟨_, rfl⟩
  have GW := Lib.hid (show Gr w W by rw [← hW]; exact gr_al _ _)
  have he2 : e.Rd W := he.gr GW.out
  have HO := he2.o
  have HM := he2.n
  rw [hO] at HO
  rw [hM] at HM
  have sO : (O.er.body.pre 1).length ≤ 400 := hs O (by simp [hO])
  have sM : (M.er.body.pre 1).length ≤ 400 := hs M (by simp [hM])
  have CB := Lib.hid (fun V (g : Gr W V) => edtCells (V := V) (b := w.heap.size) (e := e) (gr_h g (by rw [← hW]; exact al_new _ _)))
  obtain ⟨a, a1, ea, ha1, hba, o0, o1, o2, o3, o4, o5, o6, o7, o8, o9, o10⟩ := rdD HO.r (k := 0) (x := O) rfl
  obtain ⟨b, b1, eb, hb1, hbb, n0, n1, n2, n3, n4, n5, n6, n7, n8, n9, n10⟩ := rdD HM.r (k := 0) (x := M) rfl
  rw [Nat.zero_mul, add_zero'] at ha1 hb1
  subst ha1
  subst hb1
  have oR := HO.d O (by simp)
  have mR := HM.d M (by simp)
  obtain ⟨K, hK⟩ : ∃ K, e.kind = K := ⟨_, rfl⟩
  rw [hK] at hx1 hx2 h7
  have M1 := Lib.hid (fun V (_ : Gr W V) => mentioned_any K O V)
  have M2 := Lib.hid (fun V (_ : Gr W V) => mentioned_any K M V)
  have E1 := Lib.hid (fun V (g : Gr W V) => show Calls Tryz.prog 52 #[O.v, (O.ment K).v] V (fun e w' => e = .returned (.bool true) ∧ Gr V w') from by
    have h := equalDecl_any O (O.ment K) V (oR.gr g) (ment_rd K (oR.gr g)) sO
    rw [ment_er, ← hx1, decide_eq_true rfl] at h
    exact h)
  have E2 := Lib.hid (fun V (g : Gr W V) => show Calls Tryz.prog 52 #[M.v, (M.ment K).v] V (fun e w' => e = .returned (.bool true) ∧ Gr V w') from by
    have h := equalDecl_any M (M.ment K) V (mR.gr g) (ment_rd K (mR.gr g)) sM
    rw [ment_er, ← hx2, decide_eq_true rfl] at h
    exact h)
  have E3 := Lib.hid (fun V (g : Gr W V) => show Calls Tryz.prog 52 #[O.v, M.v] V (fun e w' => e = .returned (.bool false) ∧ Gr V w') from by
    have h := equalDecl_any O M V (oR.gr g) (mR.gr g) sO
    rw [decide_eq_false hx4] at h
    exact h)
  obtain ⟨vO, hvO⟩ : ∃ v, (O.ment K).v = v := ⟨_, rfl⟩
  obtain ⟨vM, hvM⟩ : ∃ v, (M.ment K).v = v := ⟨_, rfl⟩
  rw [hvO] at M1 E1
  rw [hvM] at M2 E2
  clear hvO hvM
  unfold Dec.v at M1 M2 E1 E2 E3
  unfold Edt.v
  rw [hK, hte, hO, hM, ea, eb] at CB hW ⊢
  simp only [List.length_cons, List.length_nil, Nat.zero_add] at CB hW ⊢
  have HW := Lib.hid hW
  have hid2 : (O.id == M.id) = true := by simpa using hx3
  have k6 : (K == 6) = false := by simp; omega
  have k5 : (K == 5) = false := by simp; omega
  have k7 : ¬ K < 7 := by omega
  clear hx1 hx2 hx3 hx4 hf he he2 HO HM sO sM oR mR ho hn hs hO hM hte hK hW ea eb
  go_enter Tryz.func66, Tryz.ntmps66
  go_upto_region 2 with fail
  rw [HW.out]
  obtain ⟨c0, c1, c2, c3, c4⟩ := CB.out _ (gr_refl _)
  go_upto_region 12 with fail
  have SS := Lib.hid (fun V (g : Gr W V) => show (V.cell? a = some (iv O.id) ∧ V.cell? ⟨a.block, a.off + 1, none⟩ = some (iv O.kind) ∧ V.cell? ⟨a.block, a.off + 2, none⟩ = some (.bool O.pub) ∧ V.cell? ⟨a.block, a.off + 3, none⟩ = some (.slice O.nA O.names.length O.nc) ∧ V.cell? ⟨a.block, a.off + 4, none⟩ = some (.bool O.doubt) ∧ V.cell? ⟨a.block, a.off + 5, none⟩ = some (iv O.body.kind) ∧ V.cell? ⟨a.block, a.off + 6, none⟩ = some (tv O.body.name) ∧ V.cell? ⟨a.block, a.off + 7, none⟩ = some (tv O.body.more) ∧ V.cell? ⟨a.block, a.off + 8, none⟩ = some (iv O.body.int) ∧ V.cell? ⟨a.block, a.off + 9, none⟩ = some (iv O.body.den) ∧ V.cell? ⟨a.block, a.off + 10, none⟩ = some (.slice O.body.A O.body.sub.length O.body.c)) ∧ (V.cell? b = some (iv M.id) ∧ V.cell? ⟨b.block, b.off + 1, none⟩ = some (iv M.kind) ∧ V.cell? ⟨b.block, b.off + 2, none⟩ = some (.bool M.pub) ∧ V.cell? ⟨b.block, b.off + 3, none⟩ = some (.slice M.nA M.names.length M.nc) ∧ V.cell? ⟨b.block, b.off + 4, none⟩ = some (.bool M.doubt) ∧ V.cell? ⟨b.block, b.off + 5, none⟩ = some (iv M.body.kind) ∧ V.cell? ⟨b.block, b.off + 6, none⟩ = some (tv M.body.name) ∧ V.cell? ⟨b.block, b.off + 7, none⟩ = some (tv M.body.more) ∧ V.cell? ⟨b.block, b.off + 8, none⟩ = some (iv M.body.int) ∧ V.cell? ⟨b.block, b.off + 9, none⟩ = some (iv M.body.den) ∧ V.cell? ⟨b.block, b.off + 10, none⟩ = some (.slice M.body.A M.body.sub.length M.body.c)) ∧ V.cell? ⟨w.heap.size, 3, none⟩ = some (.slice (some a) 1 e.oc) ∧ V.cell? ⟨w.heap.size, 4, none⟩ = some (.slice (some b) 1 e.nc) from
    ⟨⟨gr_c g o0, gr_c g o1, gr_c g o2, gr_c g o3, gr_c g o4, gr_c g o5, gr_c g o6, gr_c g o7, gr_c g o8, gr_c g o9, gr_c g o10⟩, ⟨gr_c g n0, gr_c g n1, gr_c g n2, gr_c g n3, gr_c g n4, gr_c g n5, gr_c g n6, gr_c g n7, gr_c g n8, gr_c g n9, gr_c g n10⟩, gr_c g c3, gr_c g c4⟩)
  clear o0 o1 o2 o3 o4 o5 o6 o7 o8 o9 o10 n0 n1 n2 n3 n4 n5 n6 n7 n8 n9 n10 c0 c1 c2 c3 c4
  go_region_held3 (fun V => (V.cell? a = some (iv O.id) ∧ V.cell? ⟨a.block, a.off + 1, none⟩ = some (iv O.kind) ∧ V.cell? ⟨a.block, a.off + 2, none⟩ = some (.bool O.pub) ∧ V.cell? ⟨a.block, a.off + 3, none⟩ = some (.slice O.nA O.names.length O.nc) ∧ V.cell? ⟨a.block, a.off + 4, none⟩ = some (.bool O.doubt) ∧ V.cell? ⟨a.block, a.off + 5, none⟩ = some (iv O.body.kind) ∧ V.cell? ⟨a.block, a.off + 6, none⟩ = some (tv O.body.name) ∧ V.cell? ⟨a.block, a.off + 7, none⟩ = some (tv O.body.more) ∧ V.cell? ⟨a.block, a.off + 8, none⟩ = some (iv O.body.int) ∧ V.cell? ⟨a.block, a.off + 9, none⟩ = some (iv O.body.den) ∧ V.cell? ⟨a.block, a.off + 10, none⟩ = some (.slice O.body.A O.body.sub.length O.body.c)) ∧ (V.cell? b = some (iv M.id) ∧ V.cell? ⟨b.block, b.off + 1, none⟩ = some (iv M.kind) ∧ V.cell? ⟨b.block, b.off + 2, none⟩ = some (.bool M.pub) ∧ V.cell? ⟨b.block, b.off + 3, none⟩ = some (.slice M.nA M.names.length M.nc) ∧ V.cell? ⟨b.block, b.off + 4, none⟩ = some (.bool M.doubt) ∧ V.cell? ⟨b.block, b.off + 5, none⟩ = some (iv M.body.kind) ∧ V.cell? ⟨b.block, b.off + 6, none⟩ = some (tv M.body.name) ∧ V.cell? ⟨b.block, b.off + 7, none⟩ = some (tv M.body.more) ∧ V.cell? ⟨b.block, b.off + 8, none⟩ = some (iv M.body.int) ∧ V.cell? ⟨b.block, b.off + 9, none⟩ = some (iv M.body.den) ∧ V.cell? ⟨b.block, b.off + 10, none⟩ = some (.slice M.body.A M.body.sub.length M.body.c)) ∧ V.cell? ⟨w.heap.size, 3, none⟩ = some (.slice (some a) 1 e.oc) ∧ V.cell? ⟨w.heap.size, 4, none⟩ = some (.slice (some b) 1 e.nc))
    (first
      | with_reducible exact SS.out _ (gr_drew _)
      | with_reducible exact SS.out _ ((gr_drew _).trans (gr_al _ _))
      | with_reducible exact SS.out _ (((gr_drew _).trans (gr_al _ _)).trans (gr_al _ _))
      | with_reducible exact SS.out _ ((gr_al _ _).trans (gr_drew _))
      | with_reducible exact SS.out _ (((gr_al _ _).trans (gr_al _ _)).trans (gr_drew _))
      | go_keep) (fail)
  · generalize hV : World.drew _ = V0
    have GV := Lib.hid (show Gr W V0 from by rw [← hV]; exact ((gr_al _ _).trans (gr_al _ _)).trans (gr_drew _))
    have BO := Lib.hid (show V0.heap[W.heap.size]? = some (.cells #[iv O.id, iv O.kind, .bool O.pub, .slice O.nA O.names.length O.nc, .bool O.doubt, iv O.body.kind, tv O.body.name, tv O.body.more, iv O.body.int, iv O.body.den, .slice O.body.A O.body.sub.length O.body.c] 45 (0, 0)) from by rw [← hV]; exact gr_h (gr_drew _) (gr_h (gr_al _ _) (al_new _ _)))
    have BM := Lib.hid (show V0.heap[W.heap.size + 1]? = some (.cells #[iv M.id, iv M.kind, .bool M.pub, .slice M.nA M.names.length M.nc, .bool M.doubt, iv M.body.kind, tv M.body.name, tv M.body.more, iv M.body.int, iv M.body.den, .slice M.body.A M.body.sub.length M.body.c] 45 (0, 0)) from by rw [← hV]; exact gr_h (gr_drew _) (al_at _ _ (by simp)))
    obtain ⟨po, hpo⟩ : ∃ p, W.heap.size = p := ⟨_, rfl⟩
    obtain ⟨pm, hpm⟩ : ∃ p, W.heap.size + 1 = p := ⟨_, rfl⟩
    rw [hpo] at BO
    rw [hpm] at BM
    rw [hpm, hpo]
    clear hV SS hpo hpm
    have F1 := Lib.hid (fun V (g : Gr V0 V) => M1.out V (GV.out.trans g))
    have F2 := Lib.hid (fun V (g : Gr V0 V) => M2.out V (GV.out.trans g))
    have F3 := Lib.hid (fun V (g : Gr V0 V) => E1.out V (GV.out.trans g))
    have F4 := Lib.hid (fun V (g : Gr V0 V) => E2.out V (GV.out.trans g))
    have F5 := Lib.hid (fun V (g : Gr V0 V) => E3.out V (GV.out.trans g))
    have SV := Lib.hid (fun V (g : Gr V0 V) => show (V.cell? ⟨po, 0, none⟩ = some (iv O.id) ∧ V.cell? ⟨po, 1, none⟩ = some (iv O.kind) ∧ V.cell? ⟨po, 2, none⟩ = some (.bool O.pub) ∧ V.cell? ⟨po, 3, none⟩ = some (.slice O.nA O.names.length O.nc) ∧ V.cell? ⟨po, 4, none⟩ = some (.bool O.doubt) ∧ V.cell? ⟨po, 5, none⟩ = some (iv O.body.kind) ∧ V.cell? ⟨po, 6, none⟩ = some (tv O.body.name) ∧ V.cell? ⟨po, 7, none⟩ = some (tv O.body.more) ∧ V.cell? ⟨po, 8, none⟩ = some (iv O.body.int) ∧ V.cell? ⟨po, 9, none⟩ = some (iv O.body.den) ∧ V.cell? ⟨po, 10, none⟩ = some (.slice O.body.A O.body.sub.length O.body.c)) ∧ (V.cell? ⟨pm, 0, none⟩ = some (iv M.id) ∧ V.cell? ⟨pm, 1, none⟩ = some (iv M.kind) ∧ V.cell? ⟨pm, 2, none⟩ = some (.bool M.pub) ∧ V.cell? ⟨pm, 3, none⟩ = some (.slice M.nA M.names.length M.nc) ∧ V.cell? ⟨pm, 4, none⟩ = some (.bool M.doubt) ∧ V.cell? ⟨pm, 5, none⟩ = some (iv M.body.kind) ∧ V.cell? ⟨pm, 6, none⟩ = some (tv M.body.name) ∧ V.cell? ⟨pm, 7, none⟩ = some (tv M.body.more) ∧ V.cell? ⟨pm, 8, none⟩ = some (iv M.body.int) ∧ V.cell? ⟨pm, 9, none⟩ = some (iv M.body.den) ∧ V.cell? ⟨pm, 10, none⟩ = some (.slice M.body.A M.body.sub.length M.body.c)) ∧ V.cell? ⟨w.heap.size, 0, none⟩ = some (iv K) from ⟨decCells (gr_h g BO.out), decCells (gr_h g BM.out), (CB.out _ (GV.out.trans g)).1⟩)
    clear M1 M2 E1 E2 E3 BO BM CB
    go_upto_region 13 with fail
    go_region_held3 (fun V => (V.cell? ⟨po, 0, none⟩ = some (iv O.id) ∧ V.cell? ⟨po, 1, none⟩ = some (iv O.kind) ∧ V.cell? ⟨po, 2, none⟩ = some (.bool O.pub) ∧ V.cell? ⟨po, 3, none⟩ = some (.slice O.nA O.names.length O.nc) ∧ V.cell? ⟨po, 4, none⟩ = some (.bool O.doubt) ∧ V.cell? ⟨po, 5, none⟩ = some (iv O.body.kind) ∧ V.cell? ⟨po, 6, none⟩ = some (tv O.body.name) ∧ V.cell? ⟨po, 7, none⟩ = some (tv O.body.more) ∧ V.cell? ⟨po, 8, none⟩ = some (iv O.body.int) ∧ V.cell? ⟨po, 9, none⟩ = some (iv O.body.den) ∧ V.cell? ⟨po, 10, none⟩ = some (.slice O.body.A O.body.sub.length O.body.c)) ∧ (V.cell? ⟨pm, 0, none⟩ = some (iv M.id) ∧ V.cell? ⟨pm, 1, none⟩ = some (iv M.kind) ∧ V.cell? ⟨pm, 2, none⟩ = some (.bool M.pub) ∧ V.cell? ⟨pm, 3, none⟩ = some (.slice M.nA M.names.length M.nc) ∧ V.cell? ⟨pm, 4, none⟩ = some (.bool M.doubt) ∧ V.cell? ⟨pm, 5, none⟩ = some (iv M.body.kind) ∧ V.cell? ⟨pm, 6, none⟩ = some (tv M.body.name) ∧ V.cell? ⟨pm, 7, none⟩ = some (tv M.body.more) ∧ V.cell? ⟨pm, 8, none⟩ = some (iv M.body.int) ∧ V.cell? ⟨pm, 9, none⟩ = some (iv M.body.den) ∧ V.cell? ⟨pm, 10, none⟩ = some (.slice M.body.A M.body.sub.length M.body.c)) ∧ V.cell? ⟨w.heap.size, 0, none⟩ = some (iv K))
      (first | with_reducible exact SV.out _ G5.out | with_reducible exact SV.out _ G4.out | with_reducible exact SV.out _ G3.out | with_reducible exact SV.out _ G2.out | with_reducible exact SV.out _ G1.out | with_reducible exact SV.out _ (gr_drew _) | go_keep)
      (first | (go_at_call 51; (with_reducible refine (F1.out _ (gr_drew _)).mono ?_); rintro e w1 ⟨rfl, g1⟩; have G1 := Lib.hid (show Gr V0 w1 from (gr_drew _).trans g1); clear g1) | (go_at_call 52; (with_reducible refine (F3.out _ G1.out).mono ?_); rintro e w2 ⟨rfl, g2⟩; have G2 := Lib.hid (show Gr V0 w2 from G1.out.trans g2); clear g2) | (go_at_call 51; (with_reducible refine (F2.out _ G2.out).mono ?_); rintro e w3 ⟨rfl, g3⟩; have G3 := Lib.hid (show Gr V0 w3 from G2.out.trans g3); clear g3) | (go_at_call 52; (with_reducible refine (F4.out _ G3.out).mono ?_); rintro e w4 ⟨rfl, g4⟩; have G4 := Lib.hid (show Gr V0 w4 from G3.out.trans g4); clear g4) | (go_at_call 52; (with_reducible refine (F5.out _ G4.out).mono ?_); rintro e w5 ⟨rfl, g5⟩; have G5 := Lib.hid (show Gr V0 w5 from G4.out.trans g5); clear g5))
    go_wp2
    go_ret
    exact ⟨rfl, GW.out.trans (GV.out.trans G5.out)⟩
  · generalize hV : World.drew _ = V0
    have GV := Lib.hid (show Gr W V0 from by rw [← hV]; exact ((gr_al _ _).trans (gr_al _ _)).trans (gr_drew _))
    have BO := Lib.hid (show V0.heap[W.heap.size + 1]? = some (.cells #[iv O.id, iv O.kind, .bool O.pub, .slice O.nA O.names.length O.nc, .bool O.doubt, iv O.body.kind, tv O.body.name, tv O.body.more, iv O.body.int, iv O.body.den, .slice O.body.A O.body.sub.length O.body.c] 45 (0, 0)) from by rw [← hV]; exact gr_h (gr_drew _) (al_at _ _ (by simp)))
    have BM := Lib.hid (show V0.heap[W.heap.size]? = some (.cells #[iv M.id, iv M.kind, .bool M.pub, .slice M.nA M.names.length M.nc, .bool M.doubt, iv M.body.kind, tv M.body.name, tv M.body.more, iv M.body.int, iv M.body.den, .slice M.body.A M.body.sub.length M.body.c] 45 (0, 0)) from by rw [← hV]; exact gr_h (gr_drew _) (gr_h (gr_al _ _) (al_new _ _)))
    obtain ⟨po, hpo⟩ : ∃ p, W.heap.size + 1 = p := ⟨_, rfl⟩
    obtain ⟨pm, hpm⟩ : ∃ p, W.heap.size = p := ⟨_, rfl⟩
    rw [hpo] at BO
    rw [hpm] at BM
    rw [hpo, hpm]
    clear hV SS hpo hpm
    have F1 := Lib.hid (fun V (g : Gr V0 V) => M1.out V (GV.out.trans g))
    have F2 := Lib.hid (fun V (g : Gr V0 V) => M2.out V (GV.out.trans g))
    have F3 := Lib.hid (fun V (g : Gr V0 V) => E1.out V (GV.out.trans g))
    have F4 := Lib.hid (fun V (g : Gr V0 V) => E2.out V (GV.out.trans g))
    have F5 := Lib.hid (fun V (g : Gr V0 V) => E3.out V (GV.out.trans g))
    have SV := Lib.hid (fun V (g : Gr V0 V) => show (V.cell? ⟨po, 0, none⟩ = some (iv O.id) ∧ V.cell? ⟨po, 1, none⟩ = some (iv O.kind) ∧ V.cell? ⟨po, 2, none⟩ = some (.bool O.pub) ∧ V.cell? ⟨po, 3, none⟩ = some (.slice O.nA O.names.length O.nc) ∧ V.cell? ⟨po, 4, none⟩ = some (.bool O.doubt) ∧ V.cell? ⟨po, 5, none⟩ = some (iv O.body.kind) ∧ V.cell? ⟨po, 6, none⟩ = some (tv O.body.name) ∧ V.cell? ⟨po, 7, none⟩ = some (tv O.body.more) ∧ V.cell? ⟨po, 8, none⟩ = some (iv O.body.int) ∧ V.cell? ⟨po, 9, none⟩ = some (iv O.body.den) ∧ V.cell? ⟨po, 10, none⟩ = some (.slice O.body.A O.body.sub.length O.body.c)) ∧ (V.cell? ⟨pm, 0, none⟩ = some (iv M.id) ∧ V.cell? ⟨pm, 1, none⟩ = some (iv M.kind) ∧ V.cell? ⟨pm, 2, none⟩ = some (.bool M.pub) ∧ V.cell? ⟨pm, 3, none⟩ = some (.slice M.nA M.names.length M.nc) ∧ V.cell? ⟨pm, 4, none⟩ = some (.bool M.doubt) ∧ V.cell? ⟨pm, 5, none⟩ = some (iv M.body.kind) ∧ V.cell? ⟨pm, 6, none⟩ = some (tv M.body.name) ∧ V.cell? ⟨pm, 7, none⟩ = some (tv M.body.more) ∧ V.cell? ⟨pm, 8, none⟩ = some (iv M.body.int) ∧ V.cell? ⟨pm, 9, none⟩ = some (iv M.body.den) ∧ V.cell? ⟨pm, 10, none⟩ = some (.slice M.body.A M.body.sub.length M.body.c)) ∧ V.cell? ⟨w.heap.size, 0, none⟩ = some (iv K) from ⟨decCells (gr_h g BO.out), decCells (gr_h g BM.out), (CB.out _ (GV.out.trans g)).1⟩)
    clear M1 M2 E1 E2 E3 BO BM CB
    go_upto_region 13 with fail
    go_region_held3 (fun V => (V.cell? ⟨po, 0, none⟩ = some (iv O.id) ∧ V.cell? ⟨po, 1, none⟩ = some (iv O.kind) ∧ V.cell? ⟨po, 2, none⟩ = some (.bool O.pub) ∧ V.cell? ⟨po, 3, none⟩ = some (.slice O.nA O.names.length O.nc) ∧ V.cell? ⟨po, 4, none⟩ = some (.bool O.doubt) ∧ V.cell? ⟨po, 5, none⟩ = some (iv O.body.kind) ∧ V.cell? ⟨po, 6, none⟩ = some (tv O.body.name) ∧ V.cell? ⟨po, 7, none⟩ = some (tv O.body.more) ∧ V.cell? ⟨po, 8, none⟩ = some (iv O.body.int) ∧ V.cell? ⟨po, 9, none⟩ = some (iv O.body.den) ∧ V.cell? ⟨po, 10, none⟩ = some (.slice O.body.A O.body.sub.length O.body.c)) ∧ (V.cell? ⟨pm, 0, none⟩ = some (iv M.id) ∧ V.cell? ⟨pm, 1, none⟩ = some (iv M.kind) ∧ V.cell? ⟨pm, 2, none⟩ = some (.bool M.pub) ∧ V.cell? ⟨pm, 3, none⟩ = some (.slice M.nA M.names.length M.nc) ∧ V.cell? ⟨pm, 4, none⟩ = some (.bool M.doubt) ∧ V.cell? ⟨pm, 5, none⟩ = some (iv M.body.kind) ∧ V.cell? ⟨pm, 6, none⟩ = some (tv M.body.name) ∧ V.cell? ⟨pm, 7, none⟩ = some (tv M.body.more) ∧ V.cell? ⟨pm, 8, none⟩ = some (iv M.body.int) ∧ V.cell? ⟨pm, 9, none⟩ = some (iv M.body.den) ∧ V.cell? ⟨pm, 10, none⟩ = some (.slice M.body.A M.body.sub.length M.body.c)) ∧ V.cell? ⟨w.heap.size, 0, none⟩ = some (iv K))
      (first | with_reducible exact SV.out _ G5.out | with_reducible exact SV.out _ G4.out | with_reducible exact SV.out _ G3.out | with_reducible exact SV.out _ G2.out | with_reducible exact SV.out _ G1.out | with_reducible exact SV.out _ (gr_drew _) | go_keep)
      (first | (go_at_call 51; (with_reducible refine (F1.out _ (gr_drew _)).mono ?_); rintro e w1 ⟨rfl, g1⟩; have G1 := Lib.hid (show Gr V0 w1 from (gr_drew _).trans g1); clear g1) | (go_at_call 52; (with_reducible refine (F3.out _ G1.out).mono ?_); rintro e w2 ⟨rfl, g2⟩; have G2 := Lib.hid (show Gr V0 w2 from G1.out.trans g2); clear g2) | (go_at_call 51; (with_reducible refine (F2.out _ G2.out).mono ?_); rintro e w3 ⟨rfl, g3⟩; have G3 := Lib.hid (show Gr V0 w3 from G2.out.trans g3); clear g3) | (go_at_call 52; (with_reducible refine (F4.out _ G3.out).mono ?_); rintro e w4 ⟨rfl, g4⟩; have G4 := Lib.hid (show Gr V0 w4 from G3.out.trans g4); clear g4) | (go_at_call 52; (with_reducible refine (F5.out _ G4.out).mono ?_); rintro e w5 ⟨rfl, g5⟩; have G5 := Lib.hid (show Gr V0 w5 from G4.out.trans g5); clear g5))
    go_wp2
    go_ret
    exact ⟨rfl, GW.out.trans (GV.out.trans G5.out)⟩
end Go.Proofs.YtiaenhlflgobfaaGreatDoor

/- Walks and words: LkB, Lnk. -/
import Derived.Test.YtgboboljgcfggaaGreatDoorMa3
namespace Go.Proofs.YtgboboljgcfggaaGreatDoor
open Go.RowKit Go.Maps
def metL (L : List Cod) : MK T := L.map fun c => (c.label, .bool true)
theorem metL_snoc (L : List Cod) (c : Cod) : metL (L ++ [c]) = metL L ++ [(c.label, .bool true)] := by simp [metL]
theorem metL_get (L : List Cod) (t : T) : (kget (metL L) t).getD (.bool false) = .bool (decide (t ∈ L.map Cod.label)) := by
  unfold kget
  induction L with
  | nil => simp [metL, fndK]
  | cons c L ih =>
    unfold metL at ih ⊢
    rw [List.map_cons, fndK]
    by_cases h : t = c.label
    · simp [h]
    · rw [if_neg h]
      simp only [List.map_cons, List.mem_cons, h, false_or]
      rw [← ih]
      have sh : ∀ (l : MK T) (i j : Nat), (fndK t l i).map (·.2) = (fndK t l j).map (·.2) := by
        intro l
        induction l with
        | nil => intro i j; rfl
        | cons p l ihl => intro i j; simp only [fndK]; split; rfl; exact ihl _ _
      rw [sh _ _ 0]
theorem metL_no {L : List Cod} {t : T} (h : t ∉ L.map Cod.label) : fndK t (metL L) 0 = none := by
  refine fndK_mem.2 fun p hp e => h ?_
  unfold metL at hp
  obtain ⟨c, hc, rfl⟩ := List.mem_map.1 hp
  rw [← e]
  exact List.mem_map.2 ⟨c, hc, rfl⟩
theorem errK_at {L : List Cod} {k : Nat} {c : Cod} (h : L[k]? = some c) : ((List.range L.length).map (errK L))[k]? = some (if errC c ≠ 0 then errC c else if c.label ∈ (L.take k).map Cod.label then 7 else 0) := by
  rw [List.getElem?_map, List.getElem?_range (List.getElem?_eq_some_iff.1 h).1]
  simp only [Option.map_some, errK, h]
structure MK1 (w : World) (mb : Nat) (L : List Cod) (k : Nat) (V : World) : Prop where
  gr : Gr w V
  ge : w.heap.size ≤ mb
  m : MP (fun t : T => tv t) V mb (metL (L.take k))
  lk : LK (fun t : T => t.length ≤ maxLen) (metL (L.take k))
theorem MK1.grow {w : World} {mb : Nat} {L : List Cod} {k : Nat} {V U : World} (h : MK1 w mb L k V) (g : Gr V U) : MK1 w mb L k U := ⟨h.gr.trans g, h.ge, h.m.keep (g.block _ h.m.lt (by simp)), h.lk⟩
theorem MK1.put {w : World} {mb : Nat} {L : List Cod} {k : Nat} {V : World} (h : MK1 w mb L k V) {c : Cod} (hc : L[k]? = some c) (hl : c.label.length ≤ maxLen) (hn : c.label ∉ (L.take k).map Cod.label) : MK1 w mb L (k + 1) (setM (fun t : T => tv t) V mb (metL (L.take k) ++ [(c.label, .bool true)])) := by
  have e : metL (L.take (k + 1)) = metL (L.take k) ++ [(c.label, .bool true)] := by rw [List.take_add_one, hc, Option.toList_some, metL_snoc]
  refine ⟨⟨h.gr.os, h.gr.tape, h.gr.output, by rw [setM_size]; exact h.gr.size, fun j hj hn => (setM_other (by have := h.ge; omega)).trans (h.gr.block j hj hn)⟩, h.ge, by rw [e]; exact h.m.set, by rw [e]; exact h.lk.snoc hl (metL_no hn) _⟩
attribute [local irreducible] Calls in
set_option maxRecDepth 100000 in
set_option maxHeartbeats 2000000 in
theorem checkCodes_any (Ad : Option Addr) (cp : Nat) (L : List Cod) (w : World) (hL : CRd w Ad L) (hl : L.length ≤ 9223372036854775807) (hi : ∀ x ∈ L, x.Lim) : Calls Tryz.prog 40 #[.slice Ad L.length cp] w fun e w' => e = .returned (.int .i64 (errL L)) ∧ Gr w w' := by
  have HC := Lib.hid (fun V (g : Gr w V) => (hL.gr g).rd)
  have CK := Lib.hid (fun V (g : Gr w V) (x : Cod) (hx : x ∈ L) => show Calls Tryz.prog 69 #[.agg #[.string ⟨x.label.toArray⟩, .slice x.bA x.bs.length x.bc, .slice x.dA x.ds.length x.dc]] V (fun e w' => e = .returned (.int .i64 (errC x)) ∧ Gr V w') from check8_any x V ((hL.gr g).c x hx) (hi x hx))
  have HLM := Lib.hid hi
  have EK := Lib.hid (fun k x (h : L[k]? = some x) => errK_at h)
  have EL := Lib.hid (show ((List.range L.length).map (errK L)).length = L.length from by rw [List.length_map, List.length_range])
  obtain ⟨r, hr⟩ : ∃ r, errL L = r := ⟨_, rfl⟩
  have ER := Lib.hid (show r = fe8 ((List.range L.length).map (errK L)) from by rw [← hr]; rfl)
  obtain ⟨E, hE⟩ : ∃ E, (List.range L.length).map (errK L) = E := ⟨_, rfl⟩
  simp only [hE] at EK EL ER
  rw [hr]
  obtain ⟨n, hn⟩ : ∃ n, L.length = n := ⟨_, rfl⟩
  have HN := Lib.hid hn
  rw [hn] at hl EL ⊢
  have M0 := Lib.hid (show MK1 w w.heap.size L 0 (w.alloc (.map #[] 0)) from ⟨gr_al _ _, Nat.le_refl _, MP.made _ w, LK.nil⟩)
  clear hL hi hE hr hn
  obtain ⟨mb, hmb⟩ : ∃ m, w.heap.size = m := ⟨_, rfl⟩
  have hmm := @run_makeMap Tryz.prog
  go_enter Tryz.func40, Tryz.ntmps40
  go_wp2
  clear hmm
  rw [hmb] at M0
  clear hmb
  go_loopw [10] (fun i V => ∃ k : Nat, k ≤ n ∧ i = .int .i64 k ∧ Hid (MK1 w mb L k V ∧ fe8 (E.take k) = 0)) (fun i _ => n - (intOf i).toNat)
  case atStart => exact ⟨0, Nat.zero_le _, rfl, Lib.hid ⟨M0.out, rfl⟩⟩
  case round =>
    clear M0
    obtain ⟨k, hk, rfl, HK⟩ := hrel
    obtain ⟨gm, hfe⟩ := HK.out
    have GM := Lib.hid gm
    have FE := Lib.hid hfe
    clear gm hfe HK
    by_cases hlt : k < n
    · obtain ⟨a, a1, eA, ha, hab, y0, y1, y2⟩ := (HC.out _ GM.out.gr).cod (k := k) (by rw [HN.out]; exact hlt)
      obtain rfl := eA
      obtain ⟨x, hx⟩ : ∃ x, L[k]'(by rw [HN.out]; exact hlt) = x := ⟨_, rfl⟩
      have HXI := Lib.hid (show L[k]? = some x from by rw [List.getElem?_eq_getElem (by rw [HN.out]; exact hlt), hx])
      rw [hx] at y0 y1 y2
      have CX := Lib.hid (fun V (g : Gr wr V) => CK.out V (GM.out.gr.trans g) x (List.mem_of_getElem? HXI.out))
      have FA := Lib.hid (fe8_fail (EK.out k x HXI.out) FE.out)
      have HLX := Lib.hid (show x.label.length ≤ maxLen from by have := (HLM.out x (List.mem_of_getElem? HXI.out)).l; unfold maxLen; omega)
      have HGM := Lib.hid (metL_get (L.take k) x.label)
      obtain ⟨z, hz⟩ : ∃ z, errC x = z := ⟨_, rfl⟩
      simp only [hz] at CX FA
      obtain ⟨bm, hbm⟩ : ∃ b, decide (x.label ∈ (L.take k).map Cod.label) = b := ⟨_, rfl⟩
      rw [hbm] at HGM
      have HBM := Lib.hid hbm
      clear hx hz hbm
      go_upto_region 5 with (fail)
      have HI := Lib.hid (fun V (g : Gr (wr.alloc (.cells #[.string ⟨x.label.toArray⟩, .slice x.bA x.bs.length x.bc, .slice x.dA x.ds.length x.dc] 65)) V) => cells3 (gr_h g (al_new wr (.cells #[.string ⟨x.label.toArray⟩, .slice x.bA x.bs.length x.bc, .slice x.dA x.ds.length x.dc] 65))))
      have G7 := Lib.hid (gr_al wr (.cells #[.string ⟨x.label.toArray⟩, .slice x.bA x.bs.length x.bc, .slice x.dA x.ds.length x.dc] 65))
      obtain ⟨q, hq⟩ : ∃ q, wr.heap.size = q := ⟨_, rfl⟩
      rw [hq] at HI ⊢
      clear hq
      generalize World.alloc wr _ = W7 at *
      clear y0 y1 y2 ha hab
      obtain ⟨i0, i1, i2⟩ := HI.out _ (gr_refl _)
      by_cases hz0 : z = 0
      · subst hz0
        go_upto_region 8 with (first | (go_at_call 69; (with_reducible refine (CX.out _ G7.out).mono ?_); rintro e w6 ⟨rfl, g6⟩; have G6 := Lib.hid g6; clear g6))
        have GM6 := Lib.hid (GM.out.grow (G7.out.trans G6.out))
        clear i0 i1 i2
        obtain ⟨i0, i1, i2⟩ := HI.out _ G6.out
        have lk := (lookup_k ktT GM6.out.m GM6.out.lk Tryz.underlying146 (z := .bool false) (by kernel_rfl) HLX.out).1
        rw [HGM.out] at lk
        cases bm with
        | true =>
          have hfin : r = 7 := ER.out.trans (by have h := FA.out.1; rw [if_neg (by simp), if_pos (of_decide_eq_true HBM.out)] at h; exact h (by decide))
          subst hfin
          clear FA ER
          go_wp2
          go_ret
          exact ⟨rfl, GM6.out.gr⟩
        | false =>
          have hno := of_decide_eq_false HBM.out
          have hok : fe8 (E.take (k + 1)) = 0 := by have h := FA.out.2; rw [if_neg (by simp), if_neg hno] at h; exact h rfl
          have HOK := Lib.hid hok
          have HP := Lib.hid (GM6.out.put HXI.out HLX.out hno)
          have up := update_k ktT GM6.out.m GM6.out.lk Tryz.underlying146 HLX.out (metL_no hno) (.bool true)
          clear hno hok FA
          go_wp2
          exact ⟨⟨k + 1, hlt, by simp, Lib.hid ⟨HP.out, HOK.out⟩⟩, by simp [intOf]; omega⟩
      · have hb0 : (z != 0) = true := by simpa using hz0
        have hfin : r = z := ER.out.trans (by have h := FA.out.1; rw [if_pos hz0] at h; exact h hz0)
        subst hfin
        clear hz0 FA ER
        go_wp2_with (first | (go_at_call 69; (with_reducible refine (CX.out _ G7.out).mono ?_); rintro e w6 ⟨rfl, g6⟩; have G6 := Lib.hid g6; clear g6))
        go_ret
        exact ⟨rfl, GM.out.gr.trans (G7.out.trans G6.out)⟩
    · obtain rfl : n = k := by omega
      have h0 := FE.out
      rw [List.take_of_length_le (by rw [EL.out]; exact Nat.le_refl _), ← ER.out] at h0
      subst h0
      go_wp2
      go_ret
      exact ⟨rfl, GM.out.gr⟩
end Go.Proofs.YtgboboljgcfggaaGreatDoor
namespace Go.Proofs.YtgboboljgcfggaaGreatDoor
open Go.RowKit Go.Maps Go.Shelf
attribute [local go_sem] Oper.semAt_some
theorem set1c {W : World} {k : Nat} {v : Value} {t : TypeId} (h : W.heap[k]? = some (.cells #[v] t (0, 0))) (u : Value) : (W.setCell ⟨k, 0, none⟩ u).heap[k]? = some (.cells #[u] t (0, 0)) := by
  simp [World.setCell, Array.getElem?_modify, h]
theorem rootsK_snoc (l : List PC) (n : T × Int) : ∀ (r : List (T × Int)) (k : List Sp), rootsK l k (r ++ [n]) = (rootsK l k r).bind fun k' => (findC l 0 n.1 n.2).map (addS k')
  | [], k => by
    simp only [List.nil_append, rootsK, Option.bind_some]
    cases findC l 0 n.1 n.2 <;> rfl
  | m :: r, k => by
    simp only [List.cons_append, rootsK]
    cases findC l 0 m.1 m.2 with
    | none => rfl
    | some s => exact rootsK_snoc l n r _
theorem addAll_app : ∀ (r m : List (Option Sp)) (k : List Sp), addAll k (r ++ m) = (addAll k r).bind fun k' => addAll k' m
  | [], m, k => rfl
  | none :: _, _, _ => rfl
  | some x :: r, m, k => by
    rw [List.cons_append, addAll, addAll]
    exact addAll_app r m _
theorem bfs_step {l : List PC} {f i : Nat} {k k' : List Sp} {s : Sp} (hs : k[i]? = some s) (h : addAll k ((blkAt l s).ins.filterMap (tgt l s)) = some k') : bfs l (f + 1) i k = bfs l f (i + 1) k' := by
  rw [bfs, hs]
  simp only [h]
theorem bfs_bad {l : List PC} {f i : Nat} {k : List Sp} {s : Sp} (hs : k[i]? = some s) (h : addAll k ((blkAt l s).ins.filterMap (tgt l s)) = none) : bfs l (f + 1) i k = some none := by
  rw [bfs, hs]
  simp only [h]
theorem bfs_end {l : List PC} {f i : Nat} {k : List Sp} (hs : k[i]? = none) : bfs l (f + 1) i k = some (some k) := by
  rw [bfs, hs]
theorem wf_nat {a : Int} (h1 : 0 ≤ a) (h2 : a ≤ 9223372036854775807) : (Lit.int .i64 a).wf = true := by
  have e : IntKind.i64.min = -9223372036854775808 := by decide
  have e2 : IntKind.i64.max = 9223372036854775807 := by decide
  simp [Lit.wf, e]
  omega
theorem key_sp {L : List Cod} (hn : L.length ≤ 100000) (hl : ∀ x ∈ L, x.Lim) {s : Sp} (h : SpOk (pls L) s) : s.Key := by
  obtain ⟨c, sb, b, h1, h2, h3, -⟩ := spot_at h
  have h4 := (List.getElem?_eq_some_iff.1 h1).1
  have h5 := (List.getElem?_eq_some_iff.1 h3).1
  have h6 := (hl c (List.mem_of_getElem? h1)).b
  exact ⟨wf_nat (by omega) (by omega), wf_nat (by omega) (by omega)⟩
theorem Kn.add {l : List PC} {k : List Sp} {s : Sp} (h : Kn l k) (hs : SpOk l s) : Kn l (addS k s) := ⟨nodup_addS h.nd, fun y hy => by
  rcases mem_addS.1 hy with h1 | rfl
  · exact h.ok y h1
  · exact hs⟩
structure LrI (w : World) (b7 kb m1 m2 base cp n : Nat) (Ad : Option Addr) (L : List Cod) (ds : List Deferred) (K : List Sp) (V6 : World) (b4 : Nat) (o1 o2 : Obj) (pre : List Tg) (own : Nat → Prop) (K' : List Sp) (v' : Value) (W : World) : Prop where
  s : LkS w b7 kb m1 m2 base cp n Ad L ds K' v' W
  a : addAll K (pre.map (·.2)) = some K'
  kn : Kn (pls L) K'
  o : ∀ k, own k ↔ v'.ownBlock = some k ∧ V6.heap.size ≤ k
  x1 : W.heap[b4]? = some o1
  x2 : W.heap[b4 + 1]? = some o2
  n1 : v'.ownBlock ≠ some b4
  n2 : v'.ownBlock ≠ some (b4 + 1)
  sz : V6.heap.size ≤ W.heap.size
structure LrE (w : World) (ds : List Deferred) (K : List Sp) (pre : List Tg) (y : Tg) (W : World) : Prop where
  y : y.2 = none
  a : ∃ K', addAll K (pre.map (·.2)) = some K'
  gr : Gr w W
  r4 : W.heap[w.heap.size]? = some (.cells #[.slice none 0 0, .slice none 0 0] 26 (0, 0))
  r5 : W.heap[w.heap.size + 1]? = some (.cells #[iv 21] 27 (0, 0))
  mks : Mks (w.heap.size + 2) W ds
theorem LrI.kp {w : World} {b7 kb m1 m2 base cp n : Nat} {Ad : Option Addr} {L : List Cod} {ds : List Deferred} {K : List Sp} {V6 : World} {b4 : Nat} {o1 o2 : Obj} {pre : List Tg} {own : Nat → Prop} {K' : List Sp} {v' : Value} {W W' : World} (h : LrI w b7 kb m1 m2 base cp n Ad L ds K V6 b4 o1 o2 pre own K' v' W) (hb : b4 + 2 ≤ V6.heap.size) (h7 : b7 < V6.heap.size) (hd : ∀ r, (⟨.collected r, #[]⟩ : Deferred) ∈ ds → r < V6.heap.size) (hw : w.heap.size + 2 ≤ V6.heap.size) (g : Kp V6.heap.size own W W') : LrI w b7 kb m1 m2 base cp n Ad L ds K V6 b4 o1 o2 pre own K' v' W' :=
  ⟨h.s.same g.os g.tape g.output g.size h7 hd hw (fun k hk => g.same k (.inl hk)) (fun j hj => g.same j (by
    by_cases hl : j < V6.heap.size
    · exact .inl hl
    · exact .inr ((h.o j).2 ⟨hj, by omega⟩))), h.a, h.kn, h.o, (g.same _ (.inl (by omega))).trans h.x1, (g.same _ (.inl (by omega))).trans h.x2, h.n1, h.n2, Nat.le_trans h.sz g.size⟩
theorem Mks.low {B0 B : Nat} {W W' : World} (hk : ∀ k, k < B → W'.heap[k]? = W.heap[k]?) : ∀ {es : List Deferred}, (∀ r, (⟨.collected r, #[]⟩ : Deferred) ∈ es → r < B) → Mks B0 W es → Mks B0 W' es
  | [], _, _ => trivial
  | e :: es, hr, ⟨⟨r, h1, h2, h3, h4⟩, h5⟩ => ⟨⟨r, h1, h2, (hk r (hr r (by rw [h1]; simp))).trans h3, h4⟩, Mks.low hk (fun r hm => hr r (by simp [hm])) h5⟩
theorem but_kp {W W' : World} {l B : Nat} {own : Nat → Prop} (h : But l W W') (hl : B ≤ l) (hn : ¬ own l) : Kp B own W W' := h.kp hl hn
theorem insS_len (s : Stt) : ∀ l : List Stt, (insS l s).length ≤ l.length + 1
  | [] => by simp [insS]
  | x :: l => by
    have := insS_len s l
    rw [insS]
    split
    · simp; omega
    · split <;> simp
theorem starts_len (b : T × Int → Int) : ∀ (r : List (T × Int)) (l : List Stt), (r.foldl (fun l n => insS l (stOf b n)) l).length ≤ l.length + r.length
  | [], l => by simp
  | n :: r, l => by
    have h1 := starts_len b r (insS l (stOf b n))
    have h2 := insS_len (stOf b n) l
    simp only [List.foldl_cons, List.length_cons]
    omega
theorem names_ok {L : List Cod} (hl : ∀ x ∈ L, x.Lim) {K : List Sp} (kn : Kn (pls L) K) {b : Blk} (hb : b.pb ∈ progB (pls L) K) : ∀ x ∈ b.ins, x.name.length ≤ 9223372036854775807 := by
  unfold progB at hb
  obtain ⟨s, hs, e⟩ := List.mem_map.1 hb
  obtain ⟨c, sb, b', h1, -, h3, h4⟩ := spot_at (kn.ok s hs)
  intro x hx
  have h5 : b.ins = (blkAt (pls L) s).ins.map (relab (pls L) K s) := (congrArg PB.ins e).symm
  rw [h5, h4] at hx
  obtain ⟨y, hy, rfl⟩ := List.mem_map.1 hx
  have h6 := (hl c (List.mem_of_getElem? h1)).n b' (List.mem_of_getElem? h3) y hy
  unfold relab
  split
  · simp
  · exact h6
theorem rootsK_none (l : List PC) (n : T × Int) (e : findC l 0 n.1 n.2 = none) : ∀ (r : List (T × Int)) (k : List Sp), n ∈ r → rootsK l k r = none
  | [], _, h => by cases h
  | m :: r, k, h => by
    rw [rootsK]
    cases hm : findC l 0 m.1 m.2 with
    | none => rfl
    | some s =>
      rcases List.mem_cons.1 h with h | h
      · subst h; rw [e] at hm; cases hm
      · exact rootsK_none l n e r _ h
set_option maxRecDepth 100000 in
set_option maxHeartbeats 8000000 in
theorem link_any (w : World) (Ad Ar : Option Addr) (cp cr nr nc : Nat) (L : List Cod) (R : List Nam) (hL : CRd w Ad L) (hnc : L.length = nc) (hncl : nc ≤ 100000) (hlim : ∀ x ∈ L, x.Lim) (hil : ∀ c ∈ L, ∀ b ∈ c.bs, b.ins.length ≤ 100000) (hsp : (spots (pls L)).length ≤ 100000)
    (hR : RD 2 Nam.cs w Ar R) (hnr : R.length = nr) (hrl : nr ≤ 12) (hok : ∀ n ∈ R, n.Ok) :
    Calls Tryz.prog 16 #[.slice Ad nc cp, .slice Ar nr cr] w (LkP L R w) := by
  have HL := Lib.hid (fun V (g : Gr w V) => hL.gr g)
  have HLW := Lib.hid hL
  have HR := Lib.hid (fun V (g : Gr w V) => hR.gr g)
  have HRW := Lib.hid hR
  have HNR := Lib.hid hnr
  have HC := Lib.hid hnc
  have HLIM := Lib.hid hlim
  have HI := Lib.hid hil
  have HSP := Lib.hid hsp
  have HOK := Lib.hid hok
  clear hL hR hnr hlim hil hsp hok
  obtain ⟨e0, he0⟩ : ∃ e, errL L = e := ⟨_, rfl⟩
  have CC := Lib.hid (fun V (g : Gr w V) => show Calls Tryz.prog 40 #[.slice Ad nc cp] V (fun e w' => e = .returned (.int .i64 e0) ∧ Gr V w') from by have h := checkCodes_any Ad cp L V (HL.out V g) (by omega) HLIM.out; rw [hnc, he0] at h; exact h)
  have HE0 := Lib.hid he0
  clear he0 hnc
  refine (callsIn_wide (n := 5)).1 ?_
  refine callsIn_of_wp_marks Tryz.func16 rfl trivial ?_ rfl
  simp only [Tryz.ntmps16, List.size_toArray, List.length_cons, List.length_nil, Nat.reduceAdd, Nat.reduceSub, Array.replicate_succ, Array.replicate_zero, List.push_toArray, List.append_toArray, List.nil_append, List.cons_append]
  gi_upto_region 1 with (fail)
  obtain ⟨W0, hW0⟩ : ∃ W0, (w.alloc (.cells #[.slice none 0 0, .slice none 0 0] 26)).alloc (.cells #[.int .i64 0] 27) = W0 := ⟨_, rfl⟩
  have G0 := Lib.hid (show Gr w W0 from by rw [← hW0]; exact (gr_al _ _).trans (gr_al _ _))
  have R4 := Lib.hid (show W0.heap[w.heap.size]? = some (.cells #[.slice none 0 0, .slice none 0 0] 26 (0, 0)) from by rw [← hW0]; exact gr_h (gr_al _ _) (al_new w _))
  have R5 := Lib.hid (show W0.heap[w.heap.size + 1]? = some (.cells #[.int .i64 0] 27 (0, 0)) from by rw [← hW0]; exact al_at _ _ (by simp))
  rw [hW0]
  clear hW0
  by_cases e00 : e0 = 0
  · have t0 : (e0 != 0) = false := by simp [e00]
    have OK := Lib.hid (okl_of (HE0.out.trans e00))
    have E00 := Lib.hid (show errL L = 0 from HE0.out.trans e00)
    clear e00
    gi_upto_region 4 with (refine ⟨trivial, ?_⟩; gi_at_call 40; refine (callsIn_wide.2 (CC.out _ G0.out)).mono ?_; rintro e W1 ⟨rfl, g1⟩; have G1 := Lib.hid g1; clear g1)
    have R4' := Lib.hid (gr_h G1.out R4.out)
    have R5' := Lib.hid (gr_h G1.out R5.out)
    have GW1 := Lib.hid (G0.out.trans G1.out)
    have NL := Lib.hid (by have h := newLinker_any Ad cp L W1 (HL.out _ GW1.out) (by rw [HC.out]; omega) HLIM.out OK.out.keys OK.out.wf; rw [HC.out] at h; exact h)
    have Z1 := Lib.hid (heap_lt R5'.out)
    clear CC HE0 R4 R5 G0 G1 t0
    gi_upto_region 6 with (refine ⟨trivial, ?_⟩; gi_at_call 41; refine (callsIn_wide.2 NL.out).mono ?_; rintro e W2 ⟨rfl, l2, g2, z2⟩; have L2 := Lib.hid l2; have G2 := Lib.hid g2; have Z2 := Lib.hid z2; clear l2 g2 z2)
    obtain ⟨kb, hkb⟩ : ∃ k, W1.heap.size + 2 = k := ⟨_, rfl⟩
    obtain ⟨m2, hm2⟩ : ∃ k, W1.heap.size + 1 = k := ⟨_, rfl⟩
    obtain ⟨base, hbs⟩ : ∃ k, W1.heap.size + 3 = k := ⟨_, rfl⟩
    rw [hkb, hm2, hbs] at L2
    rw [hkb]
    obtain ⟨m1, hm1⟩ : ∃ k, W1.heap.size = k := ⟨_, rfl⟩
    rw [hm1] at L2
    obtain ⟨b7, hb7⟩ : ∃ k, W2.heap.size = k := ⟨_, rfl⟩
    rw [hb7]
    obtain ⟨V0, hV0⟩ : ∃ V0, W2.alloc (.cells #[.pointer (some ⟨kb, 0, none⟩)] 104) = V0 := ⟨_, rfl⟩
    rw [hV0]
    have S0 := Lib.hid (show LkS w b7 kb m1 m2 base cp nc Ad L [] [] (.slice none 0 0) V0 from by
      have hz := Z1.out
      have hz2 := Z2.out
      refine ⟨?_, ?_, ?_, ?_, ?_, by omega, (fun e => by cases e), trivial⟩
      · rw [← hV0]; exact GW1.out.trans (G2.out.trans (gr_al _ _))
      · rw [← hV0]; exact gr_h (G2.out.trans (gr_al _ _)) R4'.out
      · rw [← hV0]; exact gr_h (G2.out.trans (gr_al _ _)) R5'.out
      · rw [← hV0, ← hb7]; exact al_new _ _
      · rw [← hV0]; exact L2.out.gr (gr_al _ _))
    clear hkb hm2 hbs hm1 hb7 hV0 L2 G2 Z2 Z1 NL R4' R5' GW1
    gi_loopw [27] (fun u V => ∃ j : Nat, j ≤ nr ∧ u = .int .i64 j ∧ ∃ (K : List Sp) (v : Value), Hid (LkS w b7 kb m1 m2 base cp nc Ad L [] K v V ∧ rootsK (pls L) [] ((R.take j).map Nam.pr) = some K ∧ Kn (pls L) K)) (fun u _ => nr - (intOf u).toNat)
    case atStart => exact ⟨0, Nat.zero_le _, rfl, [], .slice none 0 0, Lib.hid ⟨S0.out, rfl, List.nodup_nil, fun _ h => by cases h⟩⟩
    case round =>
      clear S0
      obtain ⟨j, hj, rfl, K, v, HS⟩ := hrel
      by_cases hlt : j < nr
      · obtain ⟨a, a1, rfl, ha, hab, y0, y1⟩ := (HR.out _ HS.out.1.gr).nam (k := j) (by rw [HNR.out]; exact hlt)
        obtain ⟨n, hn⟩ : ∃ n, R[j]? = some n := ⟨_, List.getElem?_eq_getElem (by rw [HNR.out]; exact hlt)⟩
        have hni : R[j]'(by rw [HNR.out]; exact hlt) = n := by rw [List.getElem?_eq_getElem (by rw [HNR.out]; exact hlt)] at hn; exact Option.some.inj hn
        rw [hni] at y0 y1
        have HNJ := Lib.hid hn
        have HNO := Lib.hid (HOK.out n (List.mem_of_getElem? hn))
        clear hni hn
        gi_upto_region 8 with (fail)
        clear y0 y1
        obtain ⟨W3, hW3⟩ : ∃ W3, wr.alloc (.cells #[.string ⟨n.pack.toArray⟩, .int .i64 n.id] 33) = W3 := ⟨_, rfl⟩
        have S3 := Lib.hid (show LkS w b7 kb m1 m2 base cp nc Ad L [] K v W3 from by rw [← hW3]; exact HS.out.1.go (gr_al _ _))
        have HK := Lib.hid HS.out.2
        have NB := Lib.hid (show W3.heap[wr.heap.size]? = some (.cells #[.string ⟨n.pack.toArray⟩, .int .i64 n.id] 33 (0, 0)) from by rw [← hW3]; exact al_new _ _)
        rw [hW3]
        obtain ⟨n9, hn9⟩ : ∃ m, wr.heap.size = m := ⟨_, rfl⟩
        rw [hn9] at NB ⊢
        clear hW3 hn9 HS
        obtain ⟨r0, -⟩ := S3.out.c
        obtain ⟨⟨-, k1, -, -⟩, -⟩ := S3.out.lm.hd
        have x0 : W3.cell? ⟨n9, 0, none⟩ = some (.string ⟨n.pack.toArray⟩) := by rw [Lib.cell_of_heap NB.out]; rfl
        have x1 : W3.cell? ⟨n9, 1, none⟩ = some (.int .i64 n.id) := by rw [Lib.cell_of_heap NB.out]; rfl
        obtain ⟨cz, bz, okz, lkf, hyes, hno⟩ : ∃ (cz bz : Int) (okz : Bool), (∀ V', Gr W3 V' → (Instr.lookup 109 (.map (some m1)) (.agg #[.string ⟨n.pack.toArray⟩, .int .i64 n.id]) true).run Tryz.prog V' = .ok (.tuple #[.agg #[.int .i64 cz, .int .i64 bz], .bool okz]) V') ∧ (okz = true → ∃ s, findC (pls L) 0 n.pack n.id = some s ∧ cz = s.code ∧ bz = s.block) ∧ (okz = false → findC (pls L) 0 n.pack n.id = none) := by
          have hg := Okl.get (L := L) n.pack n.id
          have hlk : ∀ V', Gr W3 V' → _ := fun V' g => (lookup_k ktN (S3.out.go g).lm.d (S3.out.go g).lm.ld Tryz.underlying109 (z := .agg #[iv 0, iv 0]) (by kernel_rfl) HNO.out).2
          cases hf : findC (pls L) 0 n.pack n.id with
          | none =>
            refine ⟨0, 0, false, fun V' g => ?_, (fun h => by cases h), fun _ => rfl⟩
            have h := hlk V' g
            rw [show kget (dlF 0 L) n = none from by rw [hf] at hg; exact hg] at h
            exact h
          | some s =>
            refine ⟨s.code, s.block, true, fun V' g => ?_, (fun _ => ⟨s, rfl, rfl, rfl⟩), fun h => by cases h⟩
            have h := hlk V' g
            rw [show kget (dlF 0 L) n = some (Sp.v s) from by rw [hf] at hg; exact hg] at h
            exact h
        have HY := Lib.hid hyes
        have HNN := Lib.hid hno
        have GA := Lib.hid ((gr_drew W3).trans (gr_al W3.drew (.cells #[iv 0, iv 0] 107)))
        have x0a := gr_c GA.out x0
        have x1a := gr_c GA.out x1
        have r0a := gr_c GA.out r0
        have k1a := gr_c GA.out k1
        have lk := lkf _ (gr_drew _)
        have lka := lkf _ GA.out
        clear hyes hno lkf
        refine wpIn_wide.2 ?_
        refine wp_phaseT [false, false, false, false, false, false, false, false, false, true, true, false] [[], [9], [9, 10]] [Value.pointer (some ⟨kb, 0, none⟩), Value.pointer (some ⟨kb, 0, none⟩), Value.pointer (some ⟨kb, 1, none⟩), Value.map (some m1), Value.agg #[.string ⟨n.pack.toArray⟩, .int .i64 n.id], Value.tuple #[.agg #[.int .i64 cz, .int .i64 bz], .bool okz], Value.tuple #[.agg #[.int .i64 cz, .int .i64 bz], .bool okz], Value.agg #[.int .i64 cz, .int .i64 bz], Value.bool okz, Value.pointer (some ⟨W3.drew.heap.size, 0, none⟩), undef, Value.bool okz] [W3.drew, W3.drew.alloc (.cells #[iv 0, iv 0] 107), ((W3.drew.alloc (.cells #[iv 0, iv 0] 107)).setCell ⟨W3.drew.heap.size, 0, none⟩ (iv cz)).setCell ⟨W3.drew.heap.size, 1, none⟩ (iv bz)] 2 12 (by decide) (by kernel_rfl) (by kernel_rfl) (by kernel_rfl) (by kernel_rfl) rfl (by kernel_rfl) (fun h => absurd h (by decide)) (fun h => absurd h (by decide)) rfl rfl ⟨?_, ?_, ?_, ?_, ?_, ?_, ?_, ?_, ?_, ?_, ?_, ?_, trivial⟩ rfl (by kernel_rfl) ?_
        · intro kk aa hk E
          have h7 : aa.eval (.tmp 7) = Value.pointer (some ⟨b7, 0, none⟩) := (E 7 (by kernel_rfl)).trans (by kernel_rfl)
          refine obl_read (ks := [0, 1]) (by kernel_rfl) (by kernel_rfl) rfl hk ⟨?_, ?_, trivial⟩
          · intro w' hw; cases hw; exact op_ldP rfl (.inr (.inl rfl)) rfl h7 r0
          · intro w' hw; cases hw; exact op_ldP rfl (.inr (.inl rfl)) rfl h7 r0a
        · intro kk aa hk E
          have h32 : aa.eval (.tmp 32) = Value.pointer (some ⟨kb, 0, none⟩) := (E 32 (by kernel_rfl)).trans (by kernel_rfl)
          exact obl_pure (by kernel_rfl) rfl hk fun w => op_nil rfl rfl h32
        · intro kk aa hk E
          have h33 : aa.eval (.tmp 33) = Value.pointer (some ⟨kb, 0, none⟩) := (E 33 (by kernel_rfl)).trans (by kernel_rfl)
          exact obl_pure (by kernel_rfl) rfl hk fun w => op_faL rfl (.inl rfl) rfl h33
        · intro kk aa hk E
          have h34 : aa.eval (.tmp 34) = Value.pointer (some ⟨kb, 1, none⟩) := (E 34 (by kernel_rfl)).trans (by kernel_rfl)
          refine obl_read (ks := [0, 1]) (by kernel_rfl) (by kernel_rfl) rfl hk ⟨?_, ?_, trivial⟩
          · intro w' hw; cases hw; exact op_ldP rfl (.inr (.inr (.inl rfl))) rfl h34 k1
          · intro w' hw; cases hw; exact op_ldP rfl (.inr (.inr (.inl rfl))) rfl h34 k1a
        · intro kk aa hk E
          have h9 : aa.eval (.tmp 9) = Value.pointer (some ⟨n9, 0, none⟩) := (E 9 (by kernel_rfl)).trans (by kernel_rfl)
          refine obl_read (ks := [0, 1]) (by kernel_rfl) (by kernel_rfl) rfl hk ⟨?_, ?_, trivial⟩
          · intro w' hw; cases hw; exact op_ldN rfl rfl h9 x0 x1
          · intro w' hw; cases hw; exact op_ldN rfl rfl h9 x0a x1a
        · intro kk aa hk E
          have h35 : aa.eval (.tmp 35) = Value.map (some m1) := (E 35 (by kernel_rfl)).trans (by kernel_rfl)
          have h36 : aa.eval (.tmp 36) = Value.agg #[.string ⟨n.pack.toArray⟩, .int .i64 n.id] := (E 36 (by kernel_rfl)).trans (by kernel_rfl)
          refine obl_read (ks := [0, 1]) (by kernel_rfl) (by kernel_rfl) rfl hk ⟨?_, ?_, trivial⟩
          · intro w' hw; cases hw; exact op_lk2 rfl rfl h35 h36 lk
          · intro w' hw; cases hw; exact op_lk2 rfl rfl h35 h36 lka
        · intro kk aa hk E
          have h37 : aa.eval (.tmp 37) = Value.tuple #[.agg #[.int .i64 cz, .int .i64 bz], .bool okz] := (E 37 (by kernel_rfl)).trans (by kernel_rfl)
          exact obl_pure (by kernel_rfl) rfl hk fun w => op_move rfl rfl h37
        · intro kk aa hk E
          have h31 : aa.eval (.tmp 31) = Value.tuple #[.agg #[.int .i64 cz, .int .i64 bz], .bool okz] := (E 31 (by kernel_rfl)).trans (by kernel_rfl)
          exact obl_pure (by kernel_rfl) rfl hk fun w => op_ext rfl (.inl ⟨rfl, rfl⟩) rfl h31
        · intro kk aa hk E
          have h31 : aa.eval (.tmp 31) = Value.tuple #[.agg #[.int .i64 cz, .int .i64 bz], .bool okz] := (E 31 (by kernel_rfl)).trans (by kernel_rfl)
          exact obl_pure (by kernel_rfl) rfl hk fun w => op_ext rfl (.inr ⟨rfl, rfl⟩) rfl h31
        · intro kk aa hk E
          exact obl_write (ks := [0]) (by kernel_rfl) (by kernel_rfl) hk ⟨⟨1, _, _, by kernel_rfl, rfl, rfl, op_al rfl rfl rfl⟩, trivial⟩
        · intro kk aa hk E
          have h10 : aa.eval (.tmp 10) = Value.pointer (some ⟨W3.drew.heap.size, 0, none⟩) := (E 10 (by kernel_rfl)).trans (by kernel_rfl)
          have h38 : aa.eval (.tmp 38) = Value.agg #[.int .i64 cz, .int .i64 bz] := (E 38 (by kernel_rfl)).trans (by kernel_rfl)
          exact obl_write (ks := [1]) (by kernel_rfl) (by kernel_rfl) hk ⟨⟨2, _, _, by kernel_rfl, rfl, rfl, op_st rfl rfl h10 h38 (al_new _ _)⟩, trivial⟩
        · intro kk aa hk E
          have h39 : aa.eval (.tmp 39) = Value.bool okz := (E 39 (by kernel_rfl)).trans (by kernel_rfl)
          exact obl_pure (by kernel_rfl) rfl hk fun w => op_assign rfl rfl h39
        intro af haf
        simp only [List.take_succ_cons, List.take_zero, finA, Act.put, List.setIfInBounds_toArray, List.set_cons_succ, List.set_cons_zero] at haf
        subst haf
        simp only [List.drop_succ_cons, List.drop_zero]
        have G34 := Lib.hid (show Gr W3 (((W3.drew.alloc (.cells #[iv 0, iv 0] 107)).setCell ⟨W3.drew.heap.size, 0, none⟩ (iv cz)).setCell ⟨W3.drew.heap.size, 1, none⟩ (iv bz)) from gr_cell (gr_cell GA.out (Nat.le_refl _) _) (Nat.le_refl _) _)
        have T10 := Lib.hid (show (((W3.drew.alloc (.cells #[iv 0, iv 0] 107)).setCell ⟨W3.drew.heap.size, 0, none⟩ (iv cz)).setCell ⟨W3.drew.heap.size, 1, none⟩ (iv bz)).heap[W3.drew.heap.size]? = some (.cells #[.int .i64 cz, .int .i64 bz] 107 (0, 0)) from set2c (al_new W3.drew _) _ _)
        obtain ⟨n10, hn10⟩ : ∃ m, W3.drew.heap.size = m := ⟨_, rfl⟩
        rw [hn10] at G34 T10 ⊢
        clear r0 k1 x0 x1 x0a x1a r0a k1a lk lka GA NB hn10
        generalize ((W3.drew.alloc (.cells #[iv 0, iv 0] 107)).setCell ⟨n10, 0, none⟩ (iv cz)).setCell ⟨n10, 1, none⟩ (iv bz) = W4 at *
        have S4 := Lib.hid (S3.out.go G34.out)
        obtain ⟨r0, c0, c1, c2, ff4, ff5⟩ := S4.out.c
        cases okz with
        | false =>
          have HV := Lib.hid (show linkV L R = (8, [], []) from by
            unfold linkV
            rw [if_neg (fun h => h E00.out), rootsK_none (pls L) (n.pack, n.id) (HNN.out rfl) _ _ (List.mem_map.2 ⟨n, List.mem_of_getElem? HNJ.out, rfl⟩)])
          have f0 := ff4 0
          have f1 := ff4 1
          have f2 := ff5 0
          clear ff4 ff5 r0
          go_wp2
          gi_wp2
          have h4 : (((W4.setCell ⟨w.heap.size, 0, none⟩ (.slice none 0 0)).setCell ⟨w.heap.size, 1, none⟩ (.slice none 0 0)).setCell ⟨w.heap.size + 1, 0, none⟩ (.int .i64 8)).heap[w.heap.size]? = some (.cells #[.slice none 0 0, .slice none 0 0] 26 (0, 0)) := (Below.heap_setCell _ _ _ _ (by show w.heap.size ≠ w.heap.size + 1; omega)).trans (set2c S4.out.r4 (.slice none 0 0) (.slice none 0 0))
          have h5 : (((W4.setCell ⟨w.heap.size, 0, none⟩ (.slice none 0 0)).setCell ⟨w.heap.size, 1, none⟩ (.slice none 0 0)).setCell ⟨w.heap.size + 1, 0, none⟩ (.int .i64 8)).heap[w.heap.size + 1]? = some (.cells #[.int .i64 8] 27 (0, 0)) := set1c ((Below.heap_setCell _ _ _ _ (by show w.heap.size + 1 ≠ w.heap.size; omega)).trans ((Below.heap_setCell _ _ _ _ (by show w.heap.size + 1 ≠ w.heap.size; omega)).trans S4.out.r5)) (.int .i64 8)
          exact lnk_err h4 h5 (gr_cell (gr_cell (gr_cell S4.out.gr (Nat.le_refl _) _) (Nat.le_refl _) _) (by omega) _) trivial HV.out.symm rfl rfl
        | true =>
          obtain ⟨s, hfs, rfl, rfl⟩ := HY.out rfl
          have HFS := Lib.hid hfs
          have hso := findC_ok OK.out.cs (pls L) 0 n.pack n.id s (fun j c hj => by simpa using hj) hfs
          have HSO := Lib.hid hso
          have hkl : K.length ≤ 100000 := Nat.le_trans HK.out.2.len HSP.out
          have x0 : W4.cell? ⟨n10, 0, none⟩ = some (.int .i64 s.code) := by rw [Lib.cell_of_heap T10.out]; rfl
          have x1 : W4.cell? ⟨n10, 1, none⟩ = some (.int .i64 s.block) := by rw [Lib.cell_of_heap T10.out]; rfl
          have ND := Lib.hid (need2_any kb m1 m2 base Ad cp nc (dlF 0 L) K v s W4 S4.out.lm (key_sp (by rw [HC.out]; exact hncl) HLIM.out hso) hkl (by have := heap_lt S4.out.k7; have := S4.out.lt; omega))
          clear hfs hso hkl c0 c1 c2 ff4 ff5
          go_wp2
          gi_wp2_with (refine ⟨trivial, ?_⟩; gi_at_call 42; refine (callsIn_wide.2 ND.out).mono ?_; rintro e W5 ⟨rfl, v', l5, f5, o5⟩; have S5 := Lib.hid (S4.out.need l5 f5 o5); clear l5 f5 o5)
          refine ⟨⟨j + 1, by omega, by simp, addS K s, v', Lib.hid ⟨S5.out, ?_, HK.out.2.add HSO.out⟩⟩, by simp [intOf]; omega⟩
          rw [List.take_add_one, HNJ.out, Option.toList_some, List.map_append, List.map_cons, List.map_nil, rootsK_snoc, HK.out.1, Option.bind_some]
          show Option.map _ (findC (pls L) 0 n.pack n.id) = _
          rw [HFS.out]
          rfl
      · obtain rfl : nr = j := by omega
        have HKR := Lib.hid (show rootsK (pls L) [] (R.map Nam.pr) = some K from by have h := HS.out.2.1; rwa [List.take_of_length_le (Nat.le_of_eq HNR.out)] at h)
        have S6 := Lib.hid HS.out.1
        have KN := Lib.hid HS.out.2.2
        clear HS
        gi_upto_region 14 with (fail)
        obtain ⟨K0, hK0⟩ : ∃ K0, K = K0 := ⟨_, rfl⟩
        rw [hK0] at HKR S6 KN
        clear hK0
        have HF := Lib.hid (show (spots (pls L)).length < fuelL L from by unfold fuelL; omega)
        refine wpIn_loop (fun a' V => ∃ (i : Nat) (K : List Sp) (v : Value) (ds : List Deferred) (x47 x48 x49 x50 x51 x52 x53 x54 x55 x56 x57 x58 x59 x60 x61 x62 x63 x64 : Value), Hid (LkS w b7 kb m1 m2 base cp nc Ad L ds K v V ∧ Kn (pls L) K ∧ i ≤ K.length ∧ bfs (pls L) (fuelL L) 0 K0 = bfs (pls L) (fuelL L - i) i K) ∧ a' = { tmps := #[.slice Ad nc cp, .slice Ar nr cr, undef, undef, .pointer (some ⟨w.heap.size, 0, none⟩), .pointer (some ⟨w.heap.size + 1, 0, none⟩), .int .i64 e0, .pointer (some ⟨b7, 0, none⟩), undef, u9, u10, u11, .int .i64 i, undef, undef, undef, undef, .slice Ad nc cp, .int .i64 e0, .int .i64 e0, .bool false, undef, undef, .slice Ad nc cp, .pointer (some ⟨kb, 0, none⟩), .slice Ar nr cr, .int .i64 nr, .int .i64 nr, .bool false, u29, u30, u31, u32, u33, u34, u35, u36, u37, u38, u39, u40, u41, u42, u43, u44, u45, u46, x47, x48, x49, x50, x51, x52, x53, x54, x55, x56, x57, x58, x59, x60, x61, x62, x63, x64, undef, undef, undef, undef, undef, undef, undef, undef, undef, undef, undef, undef, undef, undef, undef, undef, undef, undef, undef, undef], defers := ds }) (fun a' _ => fuelL L - (intOf (a'.tmps.getD 12 undef)).toNat) ?_ ?_
        · exact ⟨0, K0, v, [], undef, undef, undef, undef, undef, undef, undef, undef, undef, undef, undef, undef, undef, undef, undef, undef, undef, undef, Lib.hid ⟨S6.out, KN.out, Nat.zero_le _, rfl⟩, rfl⟩
        · rintro a' V ⟨i, K, v, ds, x47, x48, x49, x50, x51, x52, x53, x54, x55, x56, x57, x58, x59, x60, x61, x62, x63, x64, HP, rfl⟩
          clear S6 KN
          have S := Lib.hid HP.out.1
          have KN := Lib.hid HP.out.2.1
          have HB := Lib.hid HP.out.2.2
          clear HP
          obtain ⟨nk, hnk⟩ : ∃ n, K.length = n := ⟨_, rfl⟩
          have hkl : nk ≤ 100000 := by rw [← hnk]; exact Nat.le_trans KN.out.len HSP.out
          have hik : i ≤ nk := by rw [← hnk]; exact HB.out.1
          obtain ⟨Av, cv, e1, hrd⟩ := S.out.lm.o.form elS.hn
          rw [hnk] at e1
          subst e1
          have HNK := Lib.hid hnk
          have HRD := Lib.hid hrd
          clear hnk hrd
          obtain ⟨r0, -⟩ := S.out.c
          obtain ⟨⟨-, -, -, k3⟩, -⟩ := S.out.lm.hd
          by_cases hlt : i < nk
          · obtain ⟨s, hs⟩ : ∃ s, K[i]? = some s := ⟨_, List.getElem?_eq_getElem (by rw [HNK.out]; exact hlt)⟩
            obtain ⟨a, a1, rfl, ha, hab, y0, y1⟩ := HRD.out.sp (k := i) (by rw [HNK.out]; exact hlt)
            have hsi : K[i]'(by rw [HNK.out]; exact hlt) = s := by rw [List.getElem?_eq_getElem (by rw [HNK.out]; exact hlt)] at hs; exact Option.some.inj hs
            rw [hsi] at y0 y1
            obtain ⟨c, sb, b, hc, hsb, hb, hbp⟩ := spot_at (KN.out.ok s (List.mem_of_getElem? hs))
            rw [hsb] at y1
            obtain ⟨sc, hsc⟩ : ∃ m : Nat, s.code = m := ⟨_, rfl⟩
            rw [hsc] at y0 hc
            have HCB := Lib.hid (show L[sc]? = some c ∧ c.bs[sb]? = some b ∧ blkAt (pls L) s = b.pb ∧ s = ⟨sc, (sb : Int)⟩ from ⟨hc, hb, hbp, by rw [← hsb, ← hsc]⟩)
            have HS := Lib.hid hs
            clear hs hsi hc hsb hb hbp hsc
            gi_upto_region 16 with (fail)
            refine wpIn_wide.2 ?_
            go_still_tail 8, (by kernel_rfl)
            change wpList _ _ _ _ _ V.drew
            have S1 := Lib.hid (S.out.go (gr_drew V))
            clear r0 k3 y0 y1 hab
            generalize V.drew = V1 at *
            have RF := Lib.hid (refs_any kb sc sb V1)
            go_wp2_with (go_at_call 43; refine RF.out.mono ?_; rintro e V5 ⟨rfl, rfl⟩)
            clear RF
            obtain ⟨b4, hb4⟩ : ∃ m, V1.heap.size = m := ⟨_, rfl⟩
            rw [hb4]
            obtain ⟨V6, hV6⟩ : ∃ V6, (V1.alloc (.cells #[.pointer (some ⟨kb, 0, none⟩)] 104)).alloc (.cells #[.int .i64 sc, .int .i64 sb] 107) = V6 := ⟨_, rfl⟩
            rw [hV6]
            have S6 := Lib.hid (show LkS w b7 kb m1 m2 base cp nc Ad L ds K (.slice (some a) nk cv) V6 from by rw [← hV6]; exact S1.out.go ((gr_al _ _).trans (gr_al _ _)))
            have BX := Lib.hid (show V6.heap[b4]? = some (.cells #[.pointer (some ⟨kb, 0, none⟩)] 104 (0, 0)) ∧ V6.heap[b4 + 1]? = some (.cells #[.int .i64 sc, .int .i64 sb] 107 (0, 0)) ∧ V6.heap.size = b4 + 2 from by
              rw [← hV6, ← hb4]
              exact ⟨gr_h (gr_al _ _) (al_new V1 _), al_at _ _ (by simp), by simp⟩)
            have LT := Lib.hid (show b7 < b4 ∧ w.heap.size + 2 ≤ b4 ∧ (∀ r, (⟨.collected r, #[]⟩ : Deferred) ∈ ds → r < b4) ∧ ∀ j, (Value.slice (some a) nk cv).ownBlock = some j → j < b4 from by
              rw [← hb4]
              have h1 := heap_lt S1.out.k7
              have h2 := S1.out.lt
              have h3 := S1.out.lm.lt
              exact ⟨h1, by omega, fun r hr => heap_lt (S1.out.mks.lt r hr), fun j hj => (S1.out.lm.o.lt j hj).2⟩)
            have hsc0 := HCB.out.1
            have hcm : c ∈ L := List.mem_of_getElem? HCB.out.1
            have hbm : b ∈ c.bs := List.mem_of_getElem? HCB.out.2.1
            have kpx : ∀ pre own K' v' W W', LrI w b7 kb m1 m2 base cp nc Ad L ds K V6 b4 (.cells #[.pointer (some ⟨kb, 0, none⟩)] 104 (0, 0)) (.cells #[.int .i64 sc, .int .i64 sb] 107 (0, 0)) pre own K' v' W → Kp V6.heap.size own W W' → LrI w b7 kb m1 m2 base cp nc Ad L ds K V6 b4 (.cells #[.pointer (some ⟨kb, 0, none⟩)] 104 (0, 0)) (.cells #[.int .i64 sc, .int .i64 sb] 107 (0, 0)) pre own K' v' W' := fun pre own K' v' W W' h g =>
              h.kp (by have := BX.out.2.2; omega) (by have := BX.out.2.2; have := LT.out.1; omega) (fun r hr => by have := BX.out.2.2; have := LT.out.2.2.1 r hr; omega) (by have := BX.out.2.2; have := LT.out.2.1; omega) g
            have KPX := Lib.hid kpx
            clear hV6 hb4 S S1
            gi_wp2
            refine range_r (n := 5) (w0 := w) (dl := dlF 0 L) (sc := sc) (sb := sb) (b1 := b4) (b2 := b4 + 1) (by omega) rfl rfl L HLW.out HC.out c hsc0 b HCB.out.2.1 (by have := HI.out c hcm b hbm; omega) S6.out.lm.ld (Okl.get (L := L)) (OK.out.four hcm hbm)
              (fun pre own W => ∃ K' v', LrI w b7 kb m1 m2 base cp nc Ad L ds K V6 b4 (.cells #[.pointer (some ⟨kb, 0, none⟩)] 104 (0, 0)) (.cells #[.int .i64 sc, .int .i64 sb] 107 (0, 0)) pre own K' v' W) (fun pre y W => LrE w ds K pre y W)
              (fun pre own W ⟨K', v', h⟩ => ⟨h.s.gr, h.sz, ⟨h.x1, h.x2⟩, ⟨h.s.lm.d, _, _, h.s.lm.h⟩, fun k hk => (h.s.lm.o.lt k ((h.o k).1 hk).1).2⟩)
              (fun pre own W W' ⟨K', v', h⟩ hb => ⟨K', v', kpx _ _ _ _ _ _ h hb⟩) ?_ ?_ ?_ ?_ ?_
            · intro pre y W W' h hb
              have h1 := BX.out.2.2
              have h2 := LT.out
              exact ⟨h.y, h.a, but_gr h.gr hb (by omega), (hb.same _ (by omega)).trans h.r4, (hb.same _ (by omega)).trans h.r5, h.mks.low (B := b4) (fun k hk => hb.same k (by omega)) h2.2.2.1⟩
            · have h1 := BX.out.2.2
              exact ⟨K, .slice (some a) nk cv, S6.out, rfl, KN.out, fun k => ⟨False.elim, fun ⟨q1, q2⟩ => by have := LT.out.2.2.2 k q1; omega⟩, BX.out.1, BX.out.2.1, (fun e => by have := LT.out.2.2.2 _ e; omega), (fun e => by have := LT.out.2.2.2 _ e; omega), Nat.le_refl _⟩
            · intro l pre own y W ⟨K', v', hI⟩ hsz hown hpost hl
              obtain ⟨jx, t⟩ := y
              obtain ⟨post, hpost⟩ := hpost
              obtain ⟨x, hx, -, htg⟩ := trg_mem b.ins 0 jx t (by rw [hpost]; simp)
              rw [Nat.sub_zero] at hx
              have hxm : x ∈ (blkAt (pls L) s).ins := by rw [HCB.out.2.2.1]; exact List.mem_of_getElem? hx
              rw [← HCB.out.2.2.2] at htg
              have HII := Lib.hid hI
              have HOW := Lib.hid hown
              have HLL := Lib.hid hl
              have HSZ := Lib.hid hsz
              cases t with
              | none =>
                clear hI hl hsz hx hxm htg hpost kpx hown
                simp only [tgV]
                gi_wp2
                refine ⟨⟨fun k _ hk _ => Below.heap_alloc _ _ _ hk, by simp⟩, fun W₂ hb => ?_⟩
                have TB := Lib.hid (show W₂.heap[W.heap.size]? = some (.cells #[.int .i64 0, .int .i64 0, .bool false] 119 (0, 0)) from (hb.same _ (by have := HSZ.out; have := HLL.out; omega)).trans (al_new W _))
                have H2 := Lib.hid (KPX.out _ _ _ _ _ _ (KPX.out _ _ _ _ _ _ HII.out (Kp.of (gr_al W (.cells #[.int .i64 0, .int .i64 0, .bool false] 119)) HII.out.sz (fun k hk => (HII.out.s.lm.o.lt k ((HII.out.o k).1 hk).1).2))) (but_kp hb (by have := HLL.out; omega) (fun h => by have := HOW.out l h; have := HLL.out; omega)))
                have SZ2 := Lib.hid (show W₂.heap.size = W.heap.size + 1 from by rw [hb.size]; simp)
                clear hb
                obtain ⟨r0, c0, c1, c2, ff4, ff5⟩ := H2.out.s.c
                have t2 : W₂.cell? ⟨W.heap.size, 2, none⟩ = some (.bool false) := by rw [Lib.cell_of_heap TB.out]; rfl
                have f0 := ff4 0
                have f1 := ff4 1
                have f2 := ff5 0
                clear ff4 ff5 r0
                gi_wp2
                intro _
                have h1 := BX.out.2.2
                have h2 := LT.out
                have ot : ∀ k, k ≠ w.heap.size → k ≠ w.heap.size + 1 → (((W₂.setCell ⟨w.heap.size, 0, none⟩ (.slice none 0 0)).setCell ⟨w.heap.size, 1, none⟩ (.slice none 0 0)).setCell ⟨w.heap.size + 1, 0, none⟩ (.int .i64 21)).heap[k]? = W₂.heap[k]? := fun k q1 q2 => (Below.heap_setCell _ _ _ _ (by show k ≠ w.heap.size + 1; exact q2)).trans ((Below.heap_setCell _ _ _ _ (by show k ≠ w.heap.size; exact q1)).trans (Below.heap_setCell _ _ _ _ (by show k ≠ w.heap.size; exact q1)))
                refine ⟨⟨fun k q1 q2 _ => ot k (by omega) (by omega), by simp [World.setCell]⟩, rfl, ⟨_, H2.out.a⟩, gr_cell (gr_cell (gr_cell H2.out.s.gr (Nat.le_refl _) _) (Nat.le_refl _) _) (by omega) _, (Below.heap_setCell _ _ _ _ (by show w.heap.size ≠ w.heap.size + 1; omega)).trans (set2c H2.out.s.r4 (.slice none 0 0) (.slice none 0 0)), set1c ((Below.heap_setCell _ _ _ _ (by show w.heap.size + 1 ≠ w.heap.size; omega)).trans ((Below.heap_setCell _ _ _ _ (by show w.heap.size + 1 ≠ w.heap.size; omega)).trans H2.out.s.r5)) (.int .i64 21), H2.out.s.mks.keep fun q hq hr => (ot q (by omega) (by omega)).trans hr⟩
              | some u =>
                have huo := tgt_ok OK.out.cs (KN.out.ok s (List.mem_of_getElem? HS.out)) hxm htg
                have HUO := Lib.hid huo
                clear hI hl hsz hx hxm htg hpost kpx hown huo
                simp only [tgV]
                gi_wp2
                refine ⟨⟨fun k _ hk _ => Below.heap_alloc _ _ _ hk, by simp⟩, fun W₂ hb => ?_⟩
                have TB := Lib.hid (show W₂.heap[W.heap.size]? = some (.cells #[.int .i64 u.code, .int .i64 u.block, .bool true] 119 (0, 0)) from (hb.same _ (by have := HSZ.out; have := HLL.out; omega)).trans (al_new W _))
                have H2 := Lib.hid (KPX.out _ _ _ _ _ _ (KPX.out _ _ _ _ _ _ HII.out (Kp.of (gr_al W (.cells #[.int .i64 u.code, .int .i64 u.block, .bool true] 119)) HII.out.sz (fun k hk => (HII.out.s.lm.o.lt k ((HII.out.o k).1 hk).1).2))) (but_kp hb (by have := HLL.out; omega) (fun h => by have := HOW.out l h; have := HLL.out; omega)))
                have SZ2 := Lib.hid (show W₂.heap.size = W.heap.size + 1 from by rw [hb.size]; simp)
                clear hb
                obtain ⟨r0, c0, c1, c2, ff4, ff5⟩ := H2.out.s.c
                have t0 : W₂.cell? ⟨W.heap.size, 0, none⟩ = some (.int .i64 u.code) := by rw [Lib.cell_of_heap TB.out]; rfl
                have t1 : W₂.cell? ⟨W.heap.size, 1, none⟩ = some (.int .i64 u.block) := by rw [Lib.cell_of_heap TB.out]; rfl
                have t2 : W₂.cell? ⟨W.heap.size, 2, none⟩ = some (.bool true) := by rw [Lib.cell_of_heap TB.out]; rfl
                have ND := Lib.hid (need2_any kb m1 m2 base Ad cp nc (dlF 0 L) K' v' u W₂ H2.out.s.lm (key_sp (by rw [HC.out]; exact hncl) HLIM.out HUO.out) (Nat.le_trans H2.out.kn.len HSP.out) (by have := heap_lt H2.out.s.k7; have := H2.out.s.lt; omega))
                clear ff4 ff5 c0 c1 c2
                gi_wp2_with (refine ⟨trivial, ?_⟩; gi_at_call 42; refine (CallsIn.inRound _ (callsIn_wide.2 ND.out)).mono ?_; rintro e W5 ⟨rfl, v'', l5, f5, o5⟩; have S5 := Lib.hid (H2.out.s.need l5 f5 o5); have F5 := Lib.hid f5; have O5 := Lib.hid o5; clear l5 f5 o5)
                intro _
                have h1 := BX.out.2.2
                have h2 := LT.out
                have h3 := H2.out.s.lt
                have h4 := H2.out.s.lm.lt
                have s1 := H2.out.sz
                have hpm : (pre ++ [(jx, some u)]).map (·.2) = pre.map (·.2) ++ [some u] := by simp
                refine ⟨⟨fun k q1 q2 q3 => F5.out.same k q2 (by omega) (by omega) (fun e => q3 ((H2.out.o k).2 ⟨e, q1⟩)), F5.out.size⟩, fun k => v''.ownBlock = some k ∧ V6.heap.size ≤ k, fun k ⟨q1, q2⟩ => ?_, addS K' u, v'', S5.out, ?_, H2.out.kn.add HUO.out, fun k => Iff.rfl, ?_, ?_, ?_, ?_, Nat.le_trans s1 F5.out.size⟩
                · rcases O5.out k q1 with e | e
                  · exact .inl ((H2.out.o k).2 ⟨e, q2⟩)
                  · exact .inr e
                · rw [hpm, addAll_app, H2.out.a]
                  rfl
                · exact (F5.out.same _ (heap_lt H2.out.x1) (by omega) (by omega) H2.out.n1).trans H2.out.x1
                · exact (F5.out.same _ (heap_lt H2.out.x2) (by omega) (by omega) H2.out.n2).trans H2.out.x2
                · intro e
                  rcases O5.out _ e with e | e
                  · exact H2.out.n1 e
                  · have := heap_lt H2.out.x1; omega
                · intro e
                  rcases O5.out _ e with e | e
                  · exact H2.out.n2 e
                  · have := heap_lt H2.out.x2; omega
            · intro own W' ⟨K', v', h⟩ _ hd
              have hif : i < fuelL L := by have h1 := KN.out.len; have h2 := HNK.out; have h3 := HF.out; omega
              have hbs := bfs_step (l := pls L) (f := fuelL L - (i + 1)) HS.out (by
                have h1 := h.a
                rw [trg_snd, ← HCB.out.2.2.2] at h1
                rw [HCB.out.2.2.1]
                exact h1)
              rw [show fuelL L - (i + 1) + 1 = fuelL L - i from by omega] at hbs
              obtain ⟨e, he⟩ := addAll_pre _ _ _ h.a
              have SN := Lib.hid (show LkS w b7 kb m1 m2 base cp nc Ad L (⟨.collected V6.heap.size, #[]⟩ :: ds) K' v' W' ∧ Kn (pls L) K' ∧ i + 1 ≤ K'.length ∧ bfs (pls L) (fuelL L) 0 K0 = bfs (pls L) (fuelL L - (i + 1)) (i + 1) K' from ⟨⟨h.s.gr, h.s.r4, h.s.r5, h.s.k7, h.s.lm, h.s.lt, h.s.ow, h.s.mks.push (by have := BX.out.2.2; have := LT.out.2.1; omega) hd (fun hm => by have := LT.out.2.2.1 _ hm; have := BX.out.2.2; omega)⟩, h.kn, by have := HNK.out; rw [he, List.length_append]; omega, by rw [HB.out.2, hbs]⟩)
              clear h hbs he hd kpx
              gi_wp2
              exact ⟨⟨i + 1, K', v', ⟨.collected V6.heap.size, #[]⟩ :: ds, _, _, _, _, _, _, _, _, _, _, _, _, _, _, _, _, _, _, SN, rfl⟩, by simp [intOf]; omega⟩
            · intro pre y post W' hpost hE hd
              have hif : i < fuelL L := by have h1 := KN.out.len; have h2 := HNK.out; have h3 := HF.out; omega
              have hbs := bfs_bad (l := pls L) (f := fuelL L - (i + 1)) HS.out (by
                obtain ⟨Kx, hx⟩ := hE.a
                have h1 := congrArg (List.map (·.2)) hpost
                rw [trg_snd, ← HCB.out.2.2.2, List.map_append, List.map_cons, hE.y] at h1
                rw [HCB.out.2.2.1]
                show addAll K (b.ins.filterMap _) = none
                rw [h1, addAll_app, hx]
                rfl)
              rw [show fuelL L - (i + 1) + 1 = fuelL L - i from by omega] at hbs
              have HV := Lib.hid (show linkV L R = (21, [], []) from by
                unfold linkV
                rw [if_neg (fun h => h E00.out), HKR.out]
                simp only [HB.out.2, hbs])
              have MK := Lib.hid (hE.mks.push (by have := BX.out.2.2; have := LT.out.2.1; omega) hd (fun hm => by have := LT.out.2.2.1 _ hm; have := BX.out.2.2; omega))
              have HE := Lib.hid hE
              clear hbs hE hd kpx hpost
              gi_wp2
              exact lnk_err HE.out.r4 HE.out.r5 HE.out.gr MK.out HV.out.symm rfl rfl
          · obtain rfl : nk = i := by omega
            have hif : nk < fuelL L := by have h1 := KN.out.len; have h2 := HNK.out; have h3 := HF.out; omega
            have hbe := bfs_end (l := pls L) (f := fuelL L - (nk + 1)) (i := nk) (k := K) (List.getElem?_eq_none (Nat.le_of_eq HNK.out))
            rw [show fuelL L - (nk + 1) + 1 = fuelL L - nk from by omega] at hbe
            have hb0 : bfs (pls L) (fuelL L) 0 K0 = some (some K) := by rw [HB.out.2, hbe]
            have hkn0 : Kn (pls L) K0 := rootsK_kn OK.out.cs _ [] K0 ⟨List.nodup_nil, fun _ h => by cases h⟩ HKR.out
            have fnd := bfs_fnd OK.out.cs _ 0 K0 K hkn0 (Nat.zero_le _) hb0
            obtain ⟨e0', he0'⟩ := fnd.pre
            have hroots := (rootsK_mem _ _ _ HKR.out).1
            have PG := Lib.hid (program_any V Ad Ar Av cp cr cv kb m1 m2 base nk nr nc L K R (HL.out _ S.out.gr) HC.out S.out.lm HNK.out OK.out HI.out KN.out
              (fun s hs x hx t ht => by obtain ⟨j, hj⟩ := List.getElem?_of_mem hs; exact fnd.cl j s (Nat.zero_le _) hj x hx t ht) hkl (HR.out _ S.out.gr) HNR.out hrl
              (fun n hn => ⟨HOK.out n hn, by
                obtain ⟨s, h1, h2⟩ := hroots n.pr (List.mem_map.2 ⟨n, hn, rfl⟩)
                exact ⟨s, h1, by rw [he0']; simp [h2]⟩⟩))
            have HB0 := Lib.hid hb0
            clear hif hbe hb0 hkn0 fnd he0' hroots
            gi_upto_region 22 with (refine ⟨trivial, ?_⟩; gi_at_call 44; refine (callsIn_wide.2 PG.out).mono ?_; rintro e W7 ⟨X, rfl, x1, x2, x3, x4, x5⟩; unfold Prg.v; have XR := Lib.hid x1; have XB := Lib.hid x2; have XS := Lib.hid x3; have XG := Lib.hid x4; have XL := Lib.hid x5; clear x1 x2 x3 x4 x5)
            have hbl : X.bs.length = nk := by have h := congrArg List.length XB.out; unfold progB at h; simp only [List.length_map] at h; rw [h]; exact HNK.out
            have hsl : X.ss.length ≤ nr := by
              have h := starts_len (rootN L K) (R.map fun n => (n.pack, n.id)) []
              rw [XS.out]
              unfold startsOf
              simp only [List.length_map, List.length_nil] at h
              have := HNR.out
              omega
            obtain ⟨ex, hex⟩ : ∃ e, errP X = e := ⟨_, rfl⟩
            have HEX := Lib.hid (show errQ (progB (pls L) K) (startsOf (rootN L K) (R.map Nam.pr)) = ex from by rw [← hex, errP_pl, XB.out, XS.out]; rfl)
            have S8 := Lib.hid (S.out.go (XG.out.trans (gr_al W7 (.cells #[.slice X.bA X.bs.length X.bc, .slice X.sA X.ss.length X.sc] 26))))
            have X8 := Lib.hid (al_new W7 (.cells #[.slice X.bA X.bs.length X.bc, .slice X.sA X.ss.length X.sc] 26))
            have XR8 := Lib.hid (show X.Rd (W7.alloc (.cells #[.slice X.bA X.bs.length X.bc, .slice X.sA X.ss.length X.sc] 26)) from XR.out.below (below_of (gr_al _ _)))
            have CK := Lib.hid (fun V (hV : X.Rd V) => check_any X V hV (by omega) (by omega) (fun b hb => by have := XL.out b hb; omega) (fun b hb => names_ok HLIM.out KN.out (by rw [← XB.out]; exact List.mem_map.2 ⟨b, hb, rfl⟩)) (fun s hs => by
              rw [XS.out] at hs
              obtain ⟨n, hn, rfl⟩ := (startsOf_mem _ _ s).1 hs
              obtain ⟨m, hm, rfl⟩ := List.mem_map.1 hn
              have := (HOK.out m hm).1
              unfold maxLen at this
              show m.pack.length ≤ _
              omega))
            unfold Prg.v at CK
            rw [hex] at CK
            have XQ := Lib.hid (show X.v = .agg #[.slice X.bA X.bs.length X.bc, .slice X.sA X.ss.length X.sc] from rfl)
            obtain ⟨nb, hnb⟩ : ∃ n, X.bs.length = n := ⟨_, rfl⟩
            obtain ⟨ns, hns⟩ : ∃ n, X.ss.length = n := ⟨_, rfl⟩
            rw [hnb, hns] at X8 XR8 CK S8 XQ
            rw [hnb, hns]
            obtain ⟨b15, hb15⟩ : ∃ m, W7.heap.size = m := ⟨_, rfl⟩
            rw [hb15] at X8 ⊢
            generalize W7.alloc (.cells #[.slice X.bA nb X.bc, .slice X.sA ns X.sc] 26) = W8 at *
            have p0 : W8.cell? ⟨b15, 0, none⟩ = some (.slice X.bA nb X.bc) := by rw [Lib.cell_of_heap X8.out]; rfl
            have p1 : W8.cell? ⟨b15, 1, none⟩ = some (.slice X.sA ns X.sc) := by rw [Lib.cell_of_heap X8.out]; rfl
            clear hbl hsl hex hnb hns hb15 r0 k3 XR XG HRD HB
            by_cases hx0 : ex = 0
            · have t1 : (ex != 0) = false := by simp [hx0]
              have HV := Lib.hid (show linkV L R = (0, progB (pls L) K, startsOf (rootN L K) (R.map Nam.pr)) from by
                unfold linkV
                rw [if_neg (fun h => h E00.out), HKR.out]
                simp only [HB0.out]
                rw [if_neg (fun h => h (HEX.out.trans hx0))])
              clear hx0
              gi_upto_region 23 with (refine ⟨trivial, ?_⟩; gi_at_call 26; refine (callsIn_wide.2 (CK.out _ XR8.out)).mono ?_; rintro e W9 ⟨rfl, b9⟩; have G9 := Lib.hid (gr_of b9); clear b9)
              have S9 := Lib.hid (S8.out.go G9.out)
              have p0 := gr_c G9.out p0
              have p1 := gr_c G9.out p1
              obtain ⟨-, c0, c1, c2, ff4, ff5⟩ := S9.out.c
              have f0 := ff4 0
              have f1 := ff4 1
              have f2 := ff5 0
              clear ff4 ff5
              gi_wp2
              have h4 : (((W9.setCell ⟨w.heap.size, 0, none⟩ (.slice X.bA nb X.bc)).setCell ⟨w.heap.size, 1, none⟩ (.slice X.sA ns X.sc)).setCell ⟨w.heap.size + 1, 0, none⟩ (.int .i64 0)).heap[w.heap.size]? = some (.cells #[.slice X.bA nb X.bc, .slice X.sA ns X.sc] 26 (0, 0)) := (Below.heap_setCell _ _ _ _ (by show w.heap.size ≠ w.heap.size + 1; omega)).trans (set2c S9.out.r4 (.slice X.bA nb X.bc) (.slice X.sA ns X.sc))
              have h5 : (((W9.setCell ⟨w.heap.size, 0, none⟩ (.slice X.bA nb X.bc)).setCell ⟨w.heap.size, 1, none⟩ (.slice X.sA ns X.sc)).setCell ⟨w.heap.size + 1, 0, none⟩ (.int .i64 0)).heap[w.heap.size + 1]? = some (.cells #[.int .i64 0] 27 (0, 0)) := set1c ((Below.heap_setCell _ _ _ _ (by show w.heap.size + 1 ≠ w.heap.size; omega)).trans ((Below.heap_setCell _ _ _ _ (by show w.heap.size + 1 ≠ w.heap.size; omega)).trans S9.out.r5)) (.int .i64 0)
              have g4 := gr_cell (k := w.heap.size + 1) (j := 0) (gr_cell (k := w.heap.size) (j := 1) (gr_cell (k := w.heap.size) (j := 0) S9.out.gr (Nat.le_refl _) (.slice X.bA nb X.bc)) (Nat.le_refl _) (.slice X.sA ns X.sc)) (by omega) (.int .i64 0)
              have mk4 : Mks (w.heap.size + 2) (((W9.setCell ⟨w.heap.size, 0, none⟩ (.slice X.bA nb X.bc)).setCell ⟨w.heap.size, 1, none⟩ (.slice X.sA ns X.sc)).setCell ⟨w.heap.size + 1, 0, none⟩ (.int .i64 0)) ds := S9.out.mks.keep fun q hq hr => (Below.heap_setCell _ _ _ _ (by show q ≠ w.heap.size + 1; omega)).trans ((Below.heap_setCell _ _ _ _ (by show q ≠ w.heap.size; omega)).trans ((Below.heap_setCell _ _ _ _ (by show q ≠ w.heap.size; omega)).trans hr))
              have x4 := (XR8.out.below (below_of G9.out)).res (y0 := .slice X.bA nb X.bc) (y1 := .slice X.sA ns X.sc) (e1 := 0) S9.out.r4 S9.out.r5 ⟨_, _, _, rfl⟩ ⟨_, _, _, rfl⟩ ⟨_, _, _, rfl⟩
              exact lnk_end X h4 h5 g4 mk4 XQ.out x4 (by rw [HV.out, XB.out, XS.out]; rfl) XL.out rfl rfl
            · have t1 : (ex != 0) = true := by simpa using hx0
              have HV := Lib.hid (show linkV L R = (ex, [], []) from by
                unfold linkV
                rw [if_neg (fun h => h E00.out), HKR.out]
                simp only [HB0.out]
                rw [if_pos (by rw [HEX.out]; exact hx0), HEX.out])
              clear hx0
              gi_upto_region 23 with (refine ⟨trivial, ?_⟩; gi_at_call 26; refine (callsIn_wide.2 (CK.out _ XR8.out)).mono ?_; rintro e W9 ⟨rfl, b9⟩; have G9 := Lib.hid (gr_of b9); clear b9)
              have S9 := Lib.hid (S8.out.go G9.out)
              obtain ⟨-, c0, c1, c2, ff4, ff5⟩ := S9.out.c
              have f0 := ff4 0
              have f1 := ff4 1
              have f2 := ff5 0
              clear ff4 ff5 p0 p1
              gi_wp2
              have h4 : (((W9.setCell ⟨w.heap.size, 0, none⟩ (.slice none 0 0)).setCell ⟨w.heap.size, 1, none⟩ (.slice none 0 0)).setCell ⟨w.heap.size + 1, 0, none⟩ (.int .i64 ex)).heap[w.heap.size]? = some (.cells #[.slice none 0 0, .slice none 0 0] 26 (0, 0)) := (Below.heap_setCell _ _ _ _ (by show w.heap.size ≠ w.heap.size + 1; omega)).trans (set2c S9.out.r4 (.slice none 0 0) (.slice none 0 0))
              have h5 : (((W9.setCell ⟨w.heap.size, 0, none⟩ (.slice none 0 0)).setCell ⟨w.heap.size, 1, none⟩ (.slice none 0 0)).setCell ⟨w.heap.size + 1, 0, none⟩ (.int .i64 ex)).heap[w.heap.size + 1]? = some (.cells #[.int .i64 ex] 27 (0, 0)) := set1c ((Below.heap_setCell _ _ _ _ (by show w.heap.size + 1 ≠ w.heap.size; omega)).trans ((Below.heap_setCell _ _ _ _ (by show w.heap.size + 1 ≠ w.heap.size; omega)).trans S9.out.r5)) (.int .i64 ex)
              have g4 := gr_cell (k := w.heap.size + 1) (j := 0) (gr_cell (k := w.heap.size) (j := 1) (gr_cell (k := w.heap.size) (j := 0) S9.out.gr (Nat.le_refl _) (.slice none 0 0)) (Nat.le_refl _) (.slice none 0 0)) (by omega) (.int .i64 ex)
              have mk4 : Mks (w.heap.size + 2) (((W9.setCell ⟨w.heap.size, 0, none⟩ (.slice none 0 0)).setCell ⟨w.heap.size, 1, none⟩ (.slice none 0 0)).setCell ⟨w.heap.size + 1, 0, none⟩ (.int .i64 ex)) ds := S9.out.mks.keep fun q hq hr => (Below.heap_setCell _ _ _ _ (by show q ≠ w.heap.size + 1; omega)).trans ((Below.heap_setCell _ _ _ _ (by show q ≠ w.heap.size; omega)).trans ((Below.heap_setCell _ _ _ _ (by show q ≠ w.heap.size; omega)).trans hr))
              exact lnk_err h4 h5 g4 mk4 HV.out.symm rfl rfl
  · have t0 : (e0 != 0) = true := by simpa using e00
    have HV := Lib.hid (show linkV L R = (e0, [], []) from by unfold linkV; rw [if_pos (by rw [HE0.out]; exact e00), HE0.out])
    clear e00
    have r4 := fun V (g : Gr W0 V) => gr_h g R4.out
    gi_upto_region 3 with (refine ⟨trivial, ?_⟩; gi_at_call 40; refine (callsIn_wide.2 (CC.out _ G0.out)).mono ?_; rintro e W1 ⟨rfl, g1⟩; have G1 := Lib.hid g1; clear g1)
    have R4' := Lib.hid (gr_h G1.out R4.out)
    have R5' := Lib.hid (gr_h G1.out R5.out)
    have c0 : W1.cell? ⟨w.heap.size, 0, none⟩ = some (.slice none 0 0) := by rw [Lib.cell_of_heap R4'.out]; rfl
    have c1 : W1.cell? ⟨w.heap.size, 1, none⟩ = some (.slice none 0 0) := by rw [Lib.cell_of_heap R4'.out]; rfl
    have c2 : W1.cell? ⟨w.heap.size + 1, 0, none⟩ = some (.int .i64 0) := by rw [Lib.cell_of_heap R5'.out]; rfl
    have f0 := frz R4'.out 0
    have f1 := frz R4'.out 1
    have f2 := frz R5'.out 0
    clear r4
    gi_wp2
    have h4 : (((W1.setCell ⟨w.heap.size, 0, none⟩ (.slice none 0 0)).setCell ⟨w.heap.size, 1, none⟩ (.slice none 0 0)).setCell ⟨w.heap.size + 1, 0, none⟩ (.int .i64 e0)).heap[w.heap.size]? = some (.cells #[.slice none 0 0, .slice none 0 0] 26 (0, 0)) := (Below.heap_setCell _ _ _ _ (by show w.heap.size ≠ w.heap.size + 1; omega)).trans (set2c R4'.out (.slice none 0 0) (.slice none 0 0))
    have h5 : (((W1.setCell ⟨w.heap.size, 0, none⟩ (.slice none 0 0)).setCell ⟨w.heap.size, 1, none⟩ (.slice none 0 0)).setCell ⟨w.heap.size + 1, 0, none⟩ (.int .i64 e0)).heap[w.heap.size + 1]? = some (.cells #[.int .i64 e0] 27 (0, 0)) := set1c ((Below.heap_setCell _ _ _ _ (by show w.heap.size + 1 ≠ w.heap.size; omega)).trans ((Below.heap_setCell _ _ _ _ (by show w.heap.size + 1 ≠ w.heap.size; omega)).trans R5'.out)) (.int .i64 e0)
    exact lnk_err h4 h5 (gr_cell (gr_cell (gr_cell (G0.out.trans G1.out) (Nat.le_refl _) _) (Nat.le_refl _) _) (by omega) _) trivial HV.out.symm rfl rfl
end Go.Proofs.YtgboboljgcfggaaGreatDoor

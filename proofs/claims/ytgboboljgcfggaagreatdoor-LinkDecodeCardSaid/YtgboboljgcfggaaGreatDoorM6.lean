/- The walks and the words of the family link, part 6: Lnk, Sta, Awk, Awl, ChkF, Gre, Opn. -/
import Derived.Test.YtgboboljgcfggaaGreatDoorM5
import Derived.Test.YtgboboljgcfggaaGreatDoorTie
import Derived.Test.YtgboboljgcfggaaGreatDoorCards
import Derived.ProofKit
import Derived.OpenShut
import Derived.LaidMore
import Derived.Lay
import Derived.SevenTiedAt
import Derived.Stop.Joined
import Derived.Deep.Slices
import Derived.ChangeSlices
import Derived.Lib.SmallJoins
namespace Go.Proofs.YtgboboljgcfggaaGreatDoor
open Go.RowKit Go.Maps Go.Shelf
attribute [local go_sem] Oper.semAt_some

theorem set1c {W : World} {k : Nat} {v : Value} {t : TypeId} (h : W.heap[k]? = some (.cells #[v] t (0, 0))) (u : Value) : (W.setCell ⟨k, 0, none⟩ u).heap[k]? = some (.cells #[u] t (0, 0)) := by
  simp [World.setCell, Array.getElem?_modify, h]
theorem rootsK_snoc (l : List PC) (n : T × Int) : ∀ (r : List (T × Int)) (k : List Sp), rootsK l k (r ++ [n]) = (rootsK l k r).bind fun k' => (findC l 0 n.1 n.2).map (addS k')
  | [], k => by
    simp only [List.nil_append, rootsK, Option.bind_some]
    cases findC l 0 n.1 n.2 <;> rfl
  | m :: r, k => by
    simp only [List.cons_append, rootsK]
    cases findC l 0 m.1 m.2 with
    | none => rfl
    | some s => exact rootsK_snoc l n r _
theorem addAll_app : ∀ (r m : List (Option Sp)) (k : List Sp), addAll k (r ++ m) = (addAll k r).bind fun k' => addAll k' m
  | [], m, k => rfl
  | none :: _, _, _ => rfl
  | some x :: r, m, k => by
    rw [List.cons_append, addAll, addAll]
    exact addAll_app r m _
theorem bfs_step {l : List PC} {f i : Nat} {k k' : List Sp} {s : Sp} (hs : k[i]? = some s) (h : addAll k ((blkAt l s).ins.filterMap (tgt l s)) = some k') : bfs l (f + 1) i k = bfs l f (i + 1) k' := by
  rw [bfs, hs]
  simp only [h]
theorem bfs_bad {l : List PC} {f i : Nat} {k : List Sp} {s : Sp} (hs : k[i]? = some s) (h : addAll k ((blkAt l s).ins.filterMap (tgt l s)) = none) : bfs l (f + 1) i k = some none := by
  rw [bfs, hs]
  simp only [h]
theorem bfs_end {l : List PC} {f i : Nat} {k : List Sp} (hs : k[i]? = none) : bfs l (f + 1) i k = some (some k) := by
  rw [bfs, hs]
theorem addAll_kn {l : List PC} : ∀ (r : List (Option Sp)) (k k' : List Sp), Kn l k → (∀ u, some u ∈ r → SpOk l u) → addAll k r = some k' → Kn l k'
  | [], k, k', h, _, e => by cases e; exact h
  | none :: _, _, _, _, _, e => by cases e
  | some x :: r, k, k', h, hr, e => by
    rw [addAll] at e
    exact addAll_kn r _ k' ⟨nodup_addS h.nd, fun y hy => by
      rcases mem_addS.1 hy with h1 | rfl
      · exact h.ok y h1
      · exact hr y (by simp)⟩ (fun u hu => hr u (by simp [hu])) e
theorem wf_nat {a : Int} (h1 : 0 ≤ a) (h2 : a ≤ 9223372036854775807) : (Lit.int .i64 a).wf = true := by
  have e : IntKind.i64.min = -9223372036854775808 := by decide
  have e2 : IntKind.i64.max = 9223372036854775807 := by decide
  simp [Lit.wf, e]
  omega
theorem key_sp {L : List Cod} (hn : L.length ≤ 100000) (hl : ∀ x ∈ L, x.Lim) {s : Sp} (h : SpOk (pls L) s) : s.Key := by
  obtain ⟨c, sb, b, h1, h2, h3, -⟩ := spot_at h
  have h4 := (List.getElem?_eq_some_iff.1 h1).1
  have h5 := (List.getElem?_eq_some_iff.1 h3).1
  have h6 := (hl c (List.mem_of_getElem? h1)).b
  exact ⟨wf_nat (by omega) (by omega), wf_nat (by omega) (by omega)⟩
theorem Kn.add {l : List PC} {k : List Sp} {s : Sp} (h : Kn l k) (hs : SpOk l s) : Kn l (addS k s) := ⟨nodup_addS h.nd, fun y hy => by
  rcases mem_addS.1 hy with h1 | rfl
  · exact h.ok y h1
  · exact hs⟩
/-- Between the rounds of the range in Link. -/
structure LrI (w : World) (b7 kb m1 m2 base cp n : Nat) (Ad : Option Addr) (L : List Cod) (ds : List Deferred) (K : List Sp) (V6 : World) (b4 : Nat) (o1 o2 : Obj) (pre : List Tg) (own : Nat → Prop) (K' : List Sp) (v' : Value) (W : World) : Prop where
  s : LkS w b7 kb m1 m2 base cp n Ad L ds K' v' W
  a : addAll K (pre.map (·.2)) = some K'
  kn : Kn (pls L) K'
  o : ∀ k, own k ↔ v'.ownBlock = some k ∧ V6.heap.size ≤ k
  x1 : W.heap[b4]? = some o1
  x2 : W.heap[b4 + 1]? = some o2
  n1 : v'.ownBlock ≠ some b4
  n2 : v'.ownBlock ≠ some (b4 + 1)
  sz : V6.heap.size ≤ W.heap.size
/-- Where an error was found. -/
structure LrE (w : World) (ds : List Deferred) (K : List Sp) (pre : List Tg) (y : Tg) (W : World) : Prop where
  y : y.2 = none
  a : ∃ K', addAll K (pre.map (·.2)) = some K'
  gr : Gr w W
  r4 : W.heap[w.heap.size]? = some (.cells #[.slice none 0 0, .slice none 0 0] 26 (0, 0))
  r5 : W.heap[w.heap.size + 1]? = some (.cells #[iv 21] 27 (0, 0))
  mks : Mks (w.heap.size + 2) W ds
theorem LrI.kp {w : World} {b7 kb m1 m2 base cp n : Nat} {Ad : Option Addr} {L : List Cod} {ds : List Deferred} {K : List Sp} {V6 : World} {b4 : Nat} {o1 o2 : Obj} {pre : List Tg} {own : Nat → Prop} {K' : List Sp} {v' : Value} {W W' : World} (h : LrI w b7 kb m1 m2 base cp n Ad L ds K V6 b4 o1 o2 pre own K' v' W) (hb : b4 + 2 ≤ V6.heap.size) (h7 : b7 < V6.heap.size) (hd : ∀ r, (⟨.collected r, #[]⟩ : Deferred) ∈ ds → r < V6.heap.size) (hw : w.heap.size + 2 ≤ V6.heap.size) (g : Kp V6.heap.size own W W') : LrI w b7 kb m1 m2 base cp n Ad L ds K V6 b4 o1 o2 pre own K' v' W' :=
  ⟨h.s.same g.os g.tape g.output g.size h7 hd hw (fun k hk => g.same k (.inl hk)) (fun j hj => g.same j (by
    by_cases hl : j < V6.heap.size
    · exact .inl hl
    · exact .inr ((h.o j).2 ⟨hj, by omega⟩))), h.a, h.kn, h.o, (g.same _ (.inl (by omega))).trans h.x1, (g.same _ (.inl (by omega))).trans h.x2, h.n1, h.n2, Nat.le_trans h.sz g.size⟩
theorem Mks.low {B0 B : Nat} {W W' : World} (hk : ∀ k, k < B → W'.heap[k]? = W.heap[k]?) : ∀ {es : List Deferred}, (∀ r, (⟨.collected r, #[]⟩ : Deferred) ∈ es → r < B) → Mks B0 W es → Mks B0 W' es
  | [], _, _ => trivial
  | e :: es, hr, ⟨⟨r, h1, h2, h3, h4⟩, h5⟩ => ⟨⟨r, h1, h2, (hk r (hr r (by rw [h1]; simp))).trans h3, h4⟩, Mks.low hk (fun r hm => hr r (by simp [hm])) h5⟩
theorem but_kp {W W' : World} {l B : Nat} {own : Nat → Prop} (h : But l W W') (hl : B ≤ l) (hn : ¬ own l) : Kp B own W W' := h.kp hl hn
theorem insS_len (s : Stt) : ∀ l : List Stt, (insS l s).length ≤ l.length + 1
  | [] => by simp [insS]
  | x :: l => by
    have := insS_len s l
    rw [insS]
    split
    · simp; omega
    · split <;> simp
theorem starts_len (b : T × Int → Int) : ∀ (r : List (T × Int)) (l : List Stt), (r.foldl (fun l n => insS l (stOf b n)) l).length ≤ l.length + r.length
  | [], l => by simp
  | n :: r, l => by
    have h1 := starts_len b r (insS l (stOf b n))
    have h2 := insS_len (stOf b n) l
    simp only [List.foldl_cons, List.length_cons]
    omega
theorem names_ok {L : List Cod} (hl : ∀ x ∈ L, x.Lim) {K : List Sp} (kn : Kn (pls L) K) {b : Blk} (hb : b.pb ∈ progB (pls L) K) : ∀ x ∈ b.ins, x.name.length ≤ 9223372036854775807 := by
  unfold progB at hb
  obtain ⟨s, hs, e⟩ := List.mem_map.1 hb
  obtain ⟨c, sb, b', h1, -, h3, h4⟩ := spot_at (kn.ok s hs)
  intro x hx
  have h5 : b.ins = (blkAt (pls L) s).ins.map (relab (pls L) K s) := (congrArg PB.ins e).symm
  rw [h5, h4] at hx
  obtain ⟨y, hy, rfl⟩ := List.mem_map.1 hx
  have h6 := (hl c (List.mem_of_getElem? h1)).n b' (List.mem_of_getElem? h3) y hy
  unfold relab
  split
  · simp
  · exact h6
theorem rootsK_none (l : List PC) (n : T × Int) (e : findC l 0 n.1 n.2 = none) : ∀ (r : List (T × Int)) (k : List Sp), n ∈ r → rootsK l k r = none
  | [], _, h => by cases h
  | m :: r, k, h => by
    rw [rootsK]
    cases hm : findC l 0 m.1 m.2 with
    | none => rfl
    | some s =>
      rcases List.mem_cons.1 h with h | h
      · subst h; rw [e] at hm; cases hm
      · exact rootsK_none l n e r _ h
set_option maxRecDepth 100000 in
set_option maxHeartbeats 8000000 in
theorem link_any (w : World) (Ad Ar : Option Addr) (cp cr nr nc : Nat) (L : List Cod) (R : List Nam) (hL : CRd w Ad L) (hnc : L.length = nc) (hncl : nc ≤ 100000) (hlim : ∀ x ∈ L, x.Lim) (hil : ∀ c ∈ L, ∀ b ∈ c.bs, b.ins.length ≤ 100000) (hsp : (spots (pls L)).length ≤ 100000)
    (hR : RD 2 Nam.cs w Ar R) (hnr : R.length = nr) (hrl : nr ≤ 12) (hok : ∀ n ∈ R, n.Ok) :
    Calls Tryz.prog 16 #[.slice Ad nc cp, .slice Ar nr cr] w (LkP L R w) := by
  have HL := Lib.hid (fun V (g : Gr w V) => hL.gr g)
  have HLW := Lib.hid hL
  have HR := Lib.hid (fun V (g : Gr w V) => hR.gr g)
  have HRW := Lib.hid hR
  have HNR := Lib.hid hnr
  have HC := Lib.hid hnc
  have HLIM := Lib.hid hlim
  have HI := Lib.hid hil
  have HSP := Lib.hid hsp
  have HOK := Lib.hid hok
  clear hL hR hnr hlim hil hsp hok
  obtain ⟨e0, he0⟩ : ∃ e, errL L = e := ⟨_, rfl⟩
  have CC := Lib.hid (fun V (g : Gr w V) => show Calls Tryz.prog 40 #[.slice Ad nc cp] V (fun e w' => e = .returned (.int .i64 e0) ∧ Gr V w') from by have h := checkCodes_any Ad cp L V (HL.out V g) (by omega) HLIM.out; rw [hnc, he0] at h; exact h)
  have HE0 := Lib.hid he0
  clear he0 hnc
  refine (callsIn_wide (n := 5)).1 ?_
  refine callsIn_of_wp_marks Tryz.func16 rfl trivial ?_ rfl
  simp only [Tryz.ntmps16, List.size_toArray, List.length_cons, List.length_nil, Nat.reduceAdd, Nat.reduceSub, Array.replicate_succ, Array.replicate_zero, List.push_toArray, List.append_toArray, List.nil_append, List.cons_append]
  gi_upto_region 1 with (fail)
  obtain ⟨W0, hW0⟩ : ∃ W0, (w.alloc (.cells #[.slice none 0 0, .slice none 0 0] 26)).alloc (.cells #[.int .i64 0] 27) = W0 := ⟨_, rfl⟩
  have G0 := Lib.hid (show Gr w W0 from by rw [← hW0]; exact (gr_al _ _).trans (gr_al _ _))
  have R4 := Lib.hid (show W0.heap[w.heap.size]? = some (.cells #[.slice none 0 0, .slice none 0 0] 26 (0, 0)) from by rw [← hW0]; exact gr_h (gr_al _ _) (al_new w _))
  have R5 := Lib.hid (show W0.heap[w.heap.size + 1]? = some (.cells #[.int .i64 0] 27 (0, 0)) from by rw [← hW0]; exact al_at _ _ (by simp))
  rw [hW0]
  clear hW0
  by_cases e00 : e0 = 0
  · have t0 : (e0 != 0) = false := by simp [e00]
    have OK := Lib.hid (okl_of (HE0.out.trans e00))
    have E00 := Lib.hid (show errL L = 0 from HE0.out.trans e00)
    clear e00
    gi_upto_region 4 with (refine ⟨trivial, ?_⟩; gi_at_call 40; refine (callsIn_wide.2 (CC.out _ G0.out)).mono ?_; rintro e W1 ⟨rfl, g1⟩; have G1 := Lib.hid g1; clear g1)
    have R4' := Lib.hid (gr_h G1.out R4.out)
    have R5' := Lib.hid (gr_h G1.out R5.out)
    have GW1 := Lib.hid (G0.out.trans G1.out)
    have NL := Lib.hid (by have h := newLinker_any Ad cp L W1 (HL.out _ GW1.out) (by rw [HC.out]; omega) HLIM.out OK.out.keys OK.out.wf; rw [HC.out] at h; exact h)
    have Z1 := Lib.hid (heap_lt R5'.out)
    clear CC HE0 R4 R5 G0 G1 t0
    gi_upto_region 6 with (refine ⟨trivial, ?_⟩; gi_at_call 41; refine (callsIn_wide.2 NL.out).mono ?_; rintro e W2 ⟨rfl, l2, g2, z2⟩; have L2 := Lib.hid l2; have G2 := Lib.hid g2; have Z2 := Lib.hid z2; clear l2 g2 z2)
    obtain ⟨kb, hkb⟩ : ∃ k, W1.heap.size + 2 = k := ⟨_, rfl⟩
    obtain ⟨m2, hm2⟩ : ∃ k, W1.heap.size + 1 = k := ⟨_, rfl⟩
    obtain ⟨base, hbs⟩ : ∃ k, W1.heap.size + 3 = k := ⟨_, rfl⟩
    rw [hkb, hm2, hbs] at L2
    rw [hkb]
    obtain ⟨m1, hm1⟩ : ∃ k, W1.heap.size = k := ⟨_, rfl⟩
    rw [hm1] at L2
    obtain ⟨b7, hb7⟩ : ∃ k, W2.heap.size = k := ⟨_, rfl⟩
    rw [hb7]
    obtain ⟨V0, hV0⟩ : ∃ V0, W2.alloc (.cells #[.pointer (some ⟨kb, 0, none⟩)] 104) = V0 := ⟨_, rfl⟩
    rw [hV0]
    have S0 := Lib.hid (show LkS w b7 kb m1 m2 base cp nc Ad L [] [] (.slice none 0 0) V0 from by
      have hz := Z1.out
      have hz2 := Z2.out
      refine ⟨?_, ?_, ?_, ?_, ?_, by omega, (fun e => by cases e), trivial⟩
      · rw [← hV0]; exact GW1.out.trans (G2.out.trans (gr_al _ _))
      · rw [← hV0]; exact gr_h (G2.out.trans (gr_al _ _)) R4'.out
      · rw [← hV0]; exact gr_h (G2.out.trans (gr_al _ _)) R5'.out
      · rw [← hV0, ← hb7]; exact al_new _ _
      · rw [← hV0]; exact L2.out.gr (gr_al _ _))
    clear hkb hm2 hbs hm1 hb7 hV0 L2 G2 Z2 Z1 NL R4' R5' GW1
    gi_loopw [27] (fun u V => ∃ j : Nat, j ≤ nr ∧ u = .int .i64 j ∧ ∃ (K : List Sp) (v : Value), Hid (LkS w b7 kb m1 m2 base cp nc Ad L [] K v V ∧ rootsK (pls L) [] ((R.take j).map Nam.pr) = some K ∧ Kn (pls L) K)) (fun u _ => nr - (intOf u).toNat)
    case atStart => exact ⟨0, Nat.zero_le _, rfl, [], .slice none 0 0, Lib.hid ⟨S0.out, rfl, List.nodup_nil, fun _ h => by cases h⟩⟩
    case round =>
      clear S0
      obtain ⟨j, hj, rfl, K, v, HS⟩ := hrel
      by_cases hlt : j < nr
      · obtain ⟨a, a1, rfl, ha, hab, y0, y1⟩ := (HR.out _ HS.out.1.gr).nam (k := j) (by rw [HNR.out]; exact hlt)
        obtain ⟨n, hn⟩ : ∃ n, R[j]? = some n := ⟨_, List.getElem?_eq_getElem (by rw [HNR.out]; exact hlt)⟩
        have hni : R[j]'(by rw [HNR.out]; exact hlt) = n := by rw [List.getElem?_eq_getElem (by rw [HNR.out]; exact hlt)] at hn; exact Option.some.inj hn
        rw [hni] at y0 y1
        have HNJ := Lib.hid hn
        have HNO := Lib.hid (HOK.out n (List.mem_of_getElem? hn))
        clear hni hn
        gi_upto_region 8 with (fail)
        clear y0 y1
        obtain ⟨W3, hW3⟩ : ∃ W3, wr.alloc (.cells #[.string ⟨n.pack.toArray⟩, .int .i64 n.id] 33) = W3 := ⟨_, rfl⟩
        have S3 := Lib.hid (show LkS w b7 kb m1 m2 base cp nc Ad L [] K v W3 from by rw [← hW3]; exact HS.out.1.go (gr_al _ _))
        have HK := Lib.hid HS.out.2
        have NB := Lib.hid (show W3.heap[wr.heap.size]? = some (.cells #[.string ⟨n.pack.toArray⟩, .int .i64 n.id] 33 (0, 0)) from by rw [← hW3]; exact al_new _ _)
        rw [hW3]
        obtain ⟨n9, hn9⟩ : ∃ m, wr.heap.size = m := ⟨_, rfl⟩
        rw [hn9] at NB ⊢
        clear hW3 hn9 HS
        obtain ⟨r0, -⟩ := S3.out.c
        obtain ⟨⟨-, k1, -, -⟩, -⟩ := S3.out.lm.hd
        have x0 : W3.cell? ⟨n9, 0, none⟩ = some (.string ⟨n.pack.toArray⟩) := by rw [Lib.cell_of_heap NB.out]; rfl
        have x1 : W3.cell? ⟨n9, 1, none⟩ = some (.int .i64 n.id) := by rw [Lib.cell_of_heap NB.out]; rfl
        obtain ⟨cz, bz, okz, lkf, hyes, hno⟩ : ∃ (cz bz : Int) (okz : Bool), (∀ V', Gr W3 V' → (Instr.lookup 109 (.map (some m1)) (.agg #[.string ⟨n.pack.toArray⟩, .int .i64 n.id]) true).run Tryz.prog V' = .ok (.tuple #[.agg #[.int .i64 cz, .int .i64 bz], .bool okz]) V') ∧ (okz = true → ∃ s, findC (pls L) 0 n.pack n.id = some s ∧ cz = s.code ∧ bz = s.block) ∧ (okz = false → findC (pls L) 0 n.pack n.id = none) := by
          have hg := Okl.get (L := L) n.pack n.id
          have hlk : ∀ V', Gr W3 V' → _ := fun V' g => (lookup_k ktN (S3.out.go g).lm.d (S3.out.go g).lm.ld Tryz.underlying109 (z := .agg #[iv 0, iv 0]) (by kernel_rfl) HNO.out).2
          cases hf : findC (pls L) 0 n.pack n.id with
          | none =>
            refine ⟨0, 0, false, fun V' g => ?_, (fun h => by cases h), fun _ => rfl⟩
            have h := hlk V' g
            rw [show kget (dlF 0 L) n = none from by rw [hf] at hg; exact hg] at h
            exact h
          | some s =>
            refine ⟨s.code, s.block, true, fun V' g => ?_, (fun _ => ⟨s, rfl, rfl, rfl⟩), fun h => by cases h⟩
            have h := hlk V' g
            rw [show kget (dlF 0 L) n = some (Sp.v s) from by rw [hf] at hg; exact hg] at h
            exact h
        have HY := Lib.hid hyes
        have HNN := Lib.hid hno
        have GA := Lib.hid ((gr_drew W3).trans (gr_al W3.drew (.cells #[iv 0, iv 0] 107)))
        have x0a := gr_c GA.out x0
        have x1a := gr_c GA.out x1
        have r0a := gr_c GA.out r0
        have k1a := gr_c GA.out k1
        have lk := lkf _ (gr_drew _)
        have lka := lkf _ GA.out
        clear hyes hno lkf
        refine wpIn_wide.2 ?_
        refine wp_phaseT [false, false, false, false, false, false, false, false, false, true, true, false] [[], [9], [9, 10]] [Value.pointer (some ⟨kb, 0, none⟩), Value.pointer (some ⟨kb, 0, none⟩), Value.pointer (some ⟨kb, 1, none⟩), Value.map (some m1), Value.agg #[.string ⟨n.pack.toArray⟩, .int .i64 n.id], Value.tuple #[.agg #[.int .i64 cz, .int .i64 bz], .bool okz], Value.tuple #[.agg #[.int .i64 cz, .int .i64 bz], .bool okz], Value.agg #[.int .i64 cz, .int .i64 bz], Value.bool okz, Value.pointer (some ⟨W3.drew.heap.size, 0, none⟩), undef, Value.bool okz] [W3.drew, W3.drew.alloc (.cells #[iv 0, iv 0] 107), ((W3.drew.alloc (.cells #[iv 0, iv 0] 107)).setCell ⟨W3.drew.heap.size, 0, none⟩ (iv cz)).setCell ⟨W3.drew.heap.size, 1, none⟩ (iv bz)] 2 12 (by decide) (by kernel_rfl) (by kernel_rfl) (by kernel_rfl) (by kernel_rfl) rfl (by kernel_rfl) (fun h => absurd h (by decide)) (fun h => absurd h (by decide)) rfl rfl ⟨?_, ?_, ?_, ?_, ?_, ?_, ?_, ?_, ?_, ?_, ?_, ?_, trivial⟩ rfl (by kernel_rfl) ?_
        · intro kk aa hk E
          have h7 : aa.eval (.tmp 7) = Value.pointer (some ⟨b7, 0, none⟩) := (E 7 (by kernel_rfl)).trans (by kernel_rfl)
          refine obl_read (ks := [0, 1]) (by kernel_rfl) (by kernel_rfl) rfl hk ⟨?_, ?_, trivial⟩
          · intro w' hw; cases hw; exact op_ldP rfl (.inr (.inl rfl)) rfl h7 r0
          · intro w' hw; cases hw; exact op_ldP rfl (.inr (.inl rfl)) rfl h7 r0a
        · intro kk aa hk E
          have h32 : aa.eval (.tmp 32) = Value.pointer (some ⟨kb, 0, none⟩) := (E 32 (by kernel_rfl)).trans (by kernel_rfl)
          exact obl_pure (by kernel_rfl) rfl hk fun w => op_nil rfl rfl h32
        · intro kk aa hk E
          have h33 : aa.eval (.tmp 33) = Value.pointer (some ⟨kb, 0, none⟩) := (E 33 (by kernel_rfl)).trans (by kernel_rfl)
          exact obl_pure (by kernel_rfl) rfl hk fun w => op_faL rfl (.inl rfl) rfl h33
        · intro kk aa hk E
          have h34 : aa.eval (.tmp 34) = Value.pointer (some ⟨kb, 1, none⟩) := (E 34 (by kernel_rfl)).trans (by kernel_rfl)
          refine obl_read (ks := [0, 1]) (by kernel_rfl) (by kernel_rfl) rfl hk ⟨?_, ?_, trivial⟩
          · intro w' hw; cases hw; exact op_ldP rfl (.inr (.inr (.inl rfl))) rfl h34 k1
          · intro w' hw; cases hw; exact op_ldP rfl (.inr (.inr (.inl rfl))) rfl h34 k1a
        · intro kk aa hk E
          have h9 : aa.eval (.tmp 9) = Value.pointer (some ⟨n9, 0, none⟩) := (E 9 (by kernel_rfl)).trans (by kernel_rfl)
          refine obl_read (ks := [0, 1]) (by kernel_rfl) (by kernel_rfl) rfl hk ⟨?_, ?_, trivial⟩
          · intro w' hw; cases hw; exact op_ldN rfl rfl h9 x0 x1
          · intro w' hw; cases hw; exact op_ldN rfl rfl h9 x0a x1a
        · intro kk aa hk E
          have h35 : aa.eval (.tmp 35) = Value.map (some m1) := (E 35 (by kernel_rfl)).trans (by kernel_rfl)
          have h36 : aa.eval (.tmp 36) = Value.agg #[.string ⟨n.pack.toArray⟩, .int .i64 n.id] := (E 36 (by kernel_rfl)).trans (by kernel_rfl)
          refine obl_read (ks := [0, 1]) (by kernel_rfl) (by kernel_rfl) rfl hk ⟨?_, ?_, trivial⟩
          · intro w' hw; cases hw; exact op_lk2 rfl rfl h35 h36 lk
          · intro w' hw; cases hw; exact op_lk2 rfl rfl h35 h36 lka
        · intro kk aa hk E
          have h37 : aa.eval (.tmp 37) = Value.tuple #[.agg #[.int .i64 cz, .int .i64 bz], .bool okz] := (E 37 (by kernel_rfl)).trans (by kernel_rfl)
          exact obl_pure (by kernel_rfl) rfl hk fun w => op_move rfl rfl h37
        · intro kk aa hk E
          have h31 : aa.eval (.tmp 31) = Value.tuple #[.agg #[.int .i64 cz, .int .i64 bz], .bool okz] := (E 31 (by kernel_rfl)).trans (by kernel_rfl)
          exact obl_pure (by kernel_rfl) rfl hk fun w => op_ext rfl (.inl ⟨rfl, rfl⟩) rfl h31
        · intro kk aa hk E
          have h31 : aa.eval (.tmp 31) = Value.tuple #[.agg #[.int .i64 cz, .int .i64 bz], .bool okz] := (E 31 (by kernel_rfl)).trans (by kernel_rfl)
          exact obl_pure (by kernel_rfl) rfl hk fun w => op_ext rfl (.inr ⟨rfl, rfl⟩) rfl h31
        · intro kk aa hk E
          exact obl_write (ks := [0]) (by kernel_rfl) (by kernel_rfl) hk ⟨⟨1, _, _, by kernel_rfl, rfl, rfl, op_al rfl rfl rfl⟩, trivial⟩
        · intro kk aa hk E
          have h10 : aa.eval (.tmp 10) = Value.pointer (some ⟨W3.drew.heap.size, 0, none⟩) := (E 10 (by kernel_rfl)).trans (by kernel_rfl)
          have h38 : aa.eval (.tmp 38) = Value.agg #[.int .i64 cz, .int .i64 bz] := (E 38 (by kernel_rfl)).trans (by kernel_rfl)
          exact obl_write (ks := [1]) (by kernel_rfl) (by kernel_rfl) hk ⟨⟨2, _, _, by kernel_rfl, rfl, rfl, op_st rfl rfl h10 h38 (al_new _ _)⟩, trivial⟩
        · intro kk aa hk E
          have h39 : aa.eval (.tmp 39) = Value.bool okz := (E 39 (by kernel_rfl)).trans (by kernel_rfl)
          exact obl_pure (by kernel_rfl) rfl hk fun w => op_assign rfl rfl h39
        intro af haf
        simp only [List.take_succ_cons, List.take_zero, finA, Act.put, List.setIfInBounds_toArray, List.set_cons_succ, List.set_cons_zero] at haf
        subst haf
        simp only [List.drop_succ_cons, List.drop_zero]

        have G34 := Lib.hid (show Gr W3 (((W3.drew.alloc (.cells #[iv 0, iv 0] 107)).setCell ⟨W3.drew.heap.size, 0, none⟩ (iv cz)).setCell ⟨W3.drew.heap.size, 1, none⟩ (iv bz)) from gr_cell (gr_cell GA.out (Nat.le_refl _) _) (Nat.le_refl _) _)
        have T10 := Lib.hid (show (((W3.drew.alloc (.cells #[iv 0, iv 0] 107)).setCell ⟨W3.drew.heap.size, 0, none⟩ (iv cz)).setCell ⟨W3.drew.heap.size, 1, none⟩ (iv bz)).heap[W3.drew.heap.size]? = some (.cells #[.int .i64 cz, .int .i64 bz] 107 (0, 0)) from set2c (al_new W3.drew _) _ _)
        obtain ⟨n10, hn10⟩ : ∃ m, W3.drew.heap.size = m := ⟨_, rfl⟩
        rw [hn10] at G34 T10 ⊢
        clear r0 k1 x0 x1 x0a x1a r0a k1a lk lka GA NB hn10
        generalize ((W3.drew.alloc (.cells #[iv 0, iv 0] 107)).setCell ⟨n10, 0, none⟩ (iv cz)).setCell ⟨n10, 1, none⟩ (iv bz) = W4 at *
        have S4 := Lib.hid (S3.out.go G34.out)
        obtain ⟨r0, c0, c1, c2, ff4, ff5⟩ := S4.out.c
        cases okz with
        | false =>
          have HV := Lib.hid (show linkV L R = (8, [], []) from by
            unfold linkV
            rw [if_neg (fun h => h E00.out), rootsK_none (pls L) (n.pack, n.id) (HNN.out rfl) _ _ (List.mem_map.2 ⟨n, List.mem_of_getElem? HNJ.out, rfl⟩)])
          have f0 := ff4 0
          have f1 := ff4 1
          have f2 := ff5 0
          clear ff4 ff5 r0
          go_wp2
          gi_wp2
          have h4 : (((W4.setCell ⟨w.heap.size, 0, none⟩ (.slice none 0 0)).setCell ⟨w.heap.size, 1, none⟩ (.slice none 0 0)).setCell ⟨w.heap.size + 1, 0, none⟩ (.int .i64 8)).heap[w.heap.size]? = some (.cells #[.slice none 0 0, .slice none 0 0] 26 (0, 0)) := (Below.heap_setCell _ _ _ _ (by show w.heap.size ≠ w.heap.size + 1; omega)).trans (set2c S4.out.r4 (.slice none 0 0) (.slice none 0 0))
          have h5 : (((W4.setCell ⟨w.heap.size, 0, none⟩ (.slice none 0 0)).setCell ⟨w.heap.size, 1, none⟩ (.slice none 0 0)).setCell ⟨w.heap.size + 1, 0, none⟩ (.int .i64 8)).heap[w.heap.size + 1]? = some (.cells #[.int .i64 8] 27 (0, 0)) := set1c ((Below.heap_setCell _ _ _ _ (by show w.heap.size + 1 ≠ w.heap.size; omega)).trans ((Below.heap_setCell _ _ _ _ (by show w.heap.size + 1 ≠ w.heap.size; omega)).trans S4.out.r5)) (.int .i64 8)
          exact lnk_err h4 h5 (gr_cell (gr_cell (gr_cell S4.out.gr (Nat.le_refl _) _) (Nat.le_refl _) _) (by omega) _) trivial HV.out.symm rfl rfl
        | true =>
          obtain ⟨s, hfs, rfl, rfl⟩ := HY.out rfl
          have HFS := Lib.hid hfs
          have hso := findC_ok OK.out.cs (pls L) 0 n.pack n.id s (fun j c hj => by simpa using hj) hfs
          have HSO := Lib.hid hso
          have hkl : K.length ≤ 100000 := Nat.le_trans HK.out.2.len HSP.out
          have x0 : W4.cell? ⟨n10, 0, none⟩ = some (.int .i64 s.code) := by rw [Lib.cell_of_heap T10.out]; rfl
          have x1 : W4.cell? ⟨n10, 1, none⟩ = some (.int .i64 s.block) := by rw [Lib.cell_of_heap T10.out]; rfl
          have ND := Lib.hid (need2_any kb m1 m2 base Ad cp nc (dlF 0 L) K v s W4 S4.out.lm (key_sp (by rw [HC.out]; exact hncl) HLIM.out hso) hkl (by have := heap_lt S4.out.k7; have := S4.out.lt; omega))
          clear hfs hso hkl c0 c1 c2 ff4 ff5
          go_wp2
          gi_wp2_with (refine ⟨trivial, ?_⟩; gi_at_call 42; refine (callsIn_wide.2 ND.out).mono ?_; rintro e W5 ⟨rfl, v', l5, f5, o5⟩; have S5 := Lib.hid (S4.out.need l5 f5 o5); clear l5 f5 o5)
          refine ⟨⟨j + 1, by omega, by simp, addS K s, v', Lib.hid ⟨S5.out, ?_, HK.out.2.add HSO.out⟩⟩, by simp [intOf]; omega⟩
          rw [List.take_add_one, HNJ.out, Option.toList_some, List.map_append, List.map_cons, List.map_nil, rootsK_snoc, HK.out.1, Option.bind_some]
          show Option.map _ (findC (pls L) 0 n.pack n.id) = _
          rw [HFS.out]
          rfl
      · obtain rfl : nr = j := by omega
        have HKR := Lib.hid (show rootsK (pls L) [] (R.map Nam.pr) = some K from by have h := HS.out.2.1; rwa [List.take_of_length_le (Nat.le_of_eq HNR.out)] at h)
        have S6 := Lib.hid HS.out.1
        have KN := Lib.hid HS.out.2.2
        clear HS
        gi_upto_region 14 with (fail)
        obtain ⟨K0, hK0⟩ : ∃ K0, K = K0 := ⟨_, rfl⟩
        rw [hK0] at HKR S6 KN
        clear hK0
        have HF := Lib.hid (show (spots (pls L)).length < fuelL L from by unfold fuelL; omega)
        refine wpIn_loop (fun a' V => ∃ (i : Nat) (K : List Sp) (v : Value) (ds : List Deferred) (x47 x48 x49 x50 x51 x52 x53 x54 x55 x56 x57 x58 x59 x60 x61 x62 x63 x64 : Value), Hid (LkS w b7 kb m1 m2 base cp nc Ad L ds K v V ∧ Kn (pls L) K ∧ i ≤ K.length ∧ bfs (pls L) (fuelL L) 0 K0 = bfs (pls L) (fuelL L - i) i K) ∧ a' = { tmps := #[.slice Ad nc cp, .slice Ar nr cr, undef, undef, .pointer (some ⟨w.heap.size, 0, none⟩), .pointer (some ⟨w.heap.size + 1, 0, none⟩), .int .i64 e0, .pointer (some ⟨b7, 0, none⟩), undef, u9, u10, u11, .int .i64 i, undef, undef, undef, undef, .slice Ad nc cp, .int .i64 e0, .int .i64 e0, .bool false, undef, undef, .slice Ad nc cp, .pointer (some ⟨kb, 0, none⟩), .slice Ar nr cr, .int .i64 nr, .int .i64 nr, .bool false, u29, u30, u31, u32, u33, u34, u35, u36, u37, u38, u39, u40, u41, u42, u43, u44, u45, u46, x47, x48, x49, x50, x51, x52, x53, x54, x55, x56, x57, x58, x59, x60, x61, x62, x63, x64, undef, undef, undef, undef, undef, undef, undef, undef, undef, undef, undef, undef, undef, undef, undef, undef, undef, undef, undef, undef], defers := ds }) (fun a' _ => fuelL L - (intOf (a'.tmps.getD 12 undef)).toNat) ?_ ?_
        · exact ⟨0, K0, v, [], undef, undef, undef, undef, undef, undef, undef, undef, undef, undef, undef, undef, undef, undef, undef, undef, undef, undef, Lib.hid ⟨S6.out, KN.out, Nat.zero_le _, rfl⟩, rfl⟩
        · rintro a' V ⟨i, K, v, ds, x47, x48, x49, x50, x51, x52, x53, x54, x55, x56, x57, x58, x59, x60, x61, x62, x63, x64, HP, rfl⟩
          clear S6 KN
          have S := Lib.hid HP.out.1
          have KN := Lib.hid HP.out.2.1
          have HB := Lib.hid HP.out.2.2
          clear HP
          obtain ⟨nk, hnk⟩ : ∃ n, K.length = n := ⟨_, rfl⟩
          have hkl : nk ≤ 100000 := by rw [← hnk]; exact Nat.le_trans KN.out.len HSP.out
          have hik : i ≤ nk := by rw [← hnk]; exact HB.out.1
          obtain ⟨Av, cv, e1, hrd⟩ := S.out.lm.o.form elS.hn
          rw [hnk] at e1
          subst e1
          have HNK := Lib.hid hnk
          have HRD := Lib.hid hrd
          clear hnk hrd
          obtain ⟨r0, -⟩ := S.out.c
          obtain ⟨⟨-, -, -, k3⟩, -⟩ := S.out.lm.hd
          by_cases hlt : i < nk
          · obtain ⟨s, hs⟩ : ∃ s, K[i]? = some s := ⟨_, List.getElem?_eq_getElem (by rw [HNK.out]; exact hlt)⟩
            obtain ⟨a, a1, rfl, ha, hab, y0, y1⟩ := HRD.out.sp (k := i) (by rw [HNK.out]; exact hlt)
            have hsi : K[i]'(by rw [HNK.out]; exact hlt) = s := by rw [List.getElem?_eq_getElem (by rw [HNK.out]; exact hlt)] at hs; exact Option.some.inj hs
            rw [hsi] at y0 y1
            obtain ⟨c, sb, b, hc, hsb, hb, hbp⟩ := spot_at (KN.out.ok s (List.mem_of_getElem? hs))
            rw [hsb] at y1
            obtain ⟨sc, hsc⟩ : ∃ m : Nat, s.code = m := ⟨_, rfl⟩
            rw [hsc] at y0 hc
            have HCB := Lib.hid (show L[sc]? = some c ∧ c.bs[sb]? = some b ∧ blkAt (pls L) s = b.pb ∧ s = ⟨sc, (sb : Int)⟩ from ⟨hc, hb, hbp, by rw [← hsb, ← hsc]⟩)
            have HS := Lib.hid hs
            clear hs hsi hc hsb hb hbp hsc
            gi_upto_region 16 with (fail)
            refine wpIn_wide.2 ?_
            go_still_tail 8, (by kernel_rfl)
            change wpList _ _ _ _ _ V.drew
            have S1 := Lib.hid (S.out.go (gr_drew V))
            clear r0 k3 y0 y1 hab
            generalize V.drew = V1 at *
            have RF := Lib.hid (refs_any kb sc sb V1)
            go_wp2_with (go_at_call 43; refine RF.out.mono ?_; rintro e V5 ⟨rfl, rfl⟩)
            clear RF
            obtain ⟨b4, hb4⟩ : ∃ m, V1.heap.size = m := ⟨_, rfl⟩
            rw [hb4]
            obtain ⟨V6, hV6⟩ : ∃ V6, (V1.alloc (.cells #[.pointer (some ⟨kb, 0, none⟩)] 104)).alloc (.cells #[.int .i64 sc, .int .i64 sb] 107) = V6 := ⟨_, rfl⟩
            rw [hV6]
            have S6 := Lib.hid (show LkS w b7 kb m1 m2 base cp nc Ad L ds K (.slice (some a) nk cv) V6 from by rw [← hV6]; exact S1.out.go ((gr_al _ _).trans (gr_al _ _)))
            have BX := Lib.hid (show V6.heap[b4]? = some (.cells #[.pointer (some ⟨kb, 0, none⟩)] 104 (0, 0)) ∧ V6.heap[b4 + 1]? = some (.cells #[.int .i64 sc, .int .i64 sb] 107 (0, 0)) ∧ V6.heap.size = b4 + 2 from by
              rw [← hV6, ← hb4]
              exact ⟨gr_h (gr_al _ _) (al_new V1 _), al_at _ _ (by simp), by simp⟩)
            have LT := Lib.hid (show b7 < b4 ∧ w.heap.size + 2 ≤ b4 ∧ (∀ r, (⟨.collected r, #[]⟩ : Deferred) ∈ ds → r < b4) ∧ ∀ j, (Value.slice (some a) nk cv).ownBlock = some j → j < b4 from by
              rw [← hb4]
              have h1 := heap_lt S1.out.k7
              have h2 := S1.out.lt
              have h3 := S1.out.lm.lt
              exact ⟨h1, by omega, fun r hr => heap_lt (S1.out.mks.lt r hr), fun j hj => (S1.out.lm.o.lt j hj).2⟩)
            have hsc0 := HCB.out.1
            have hcm : c ∈ L := List.mem_of_getElem? HCB.out.1
            have hbm : b ∈ c.bs := List.mem_of_getElem? HCB.out.2.1
            have kpx : ∀ pre own K' v' W W', LrI w b7 kb m1 m2 base cp nc Ad L ds K V6 b4 (.cells #[.pointer (some ⟨kb, 0, none⟩)] 104 (0, 0)) (.cells #[.int .i64 sc, .int .i64 sb] 107 (0, 0)) pre own K' v' W → Kp V6.heap.size own W W' → LrI w b7 kb m1 m2 base cp nc Ad L ds K V6 b4 (.cells #[.pointer (some ⟨kb, 0, none⟩)] 104 (0, 0)) (.cells #[.int .i64 sc, .int .i64 sb] 107 (0, 0)) pre own K' v' W' := fun pre own K' v' W W' h g =>
              h.kp (by have := BX.out.2.2; omega) (by have := BX.out.2.2; have := LT.out.1; omega) (fun r hr => by have := BX.out.2.2; have := LT.out.2.2.1 r hr; omega) (by have := BX.out.2.2; have := LT.out.2.1; omega) g
            have KPX := Lib.hid kpx
            clear hV6 hb4 S S1
            gi_wp2
            refine range_r (n := 5) (w0 := w) (dl := dlF 0 L) (sc := sc) (sb := sb) (b1 := b4) (b2 := b4 + 1) (by omega) rfl rfl L HLW.out HC.out c hsc0 b HCB.out.2.1 (by have := HI.out c hcm b hbm; omega) S6.out.lm.ld (Okl.get (L := L)) (OK.out.four hcm hbm)
              (fun pre own W => ∃ K' v', LrI w b7 kb m1 m2 base cp nc Ad L ds K V6 b4 (.cells #[.pointer (some ⟨kb, 0, none⟩)] 104 (0, 0)) (.cells #[.int .i64 sc, .int .i64 sb] 107 (0, 0)) pre own K' v' W) (fun pre y W => LrE w ds K pre y W)
              (fun pre own W ⟨K', v', h⟩ => ⟨h.s.gr, h.sz, ⟨h.x1, h.x2⟩, ⟨h.s.lm.d, _, _, h.s.lm.h⟩, fun k hk => (h.s.lm.o.lt k ((h.o k).1 hk).1).2⟩)
              (fun pre own W W' ⟨K', v', h⟩ hb => ⟨K', v', kpx _ _ _ _ _ _ h hb⟩) ?_ ?_ ?_ ?_ ?_
            · intro pre y W W' h hb
              have h1 := BX.out.2.2
              have h2 := LT.out
              exact ⟨h.y, h.a, but_gr h.gr hb (by omega), (hb.same _ (by omega)).trans h.r4, (hb.same _ (by omega)).trans h.r5, h.mks.low (B := b4) (fun k hk => hb.same k (by omega)) h2.2.2.1⟩
            · have h1 := BX.out.2.2
              exact ⟨K, .slice (some a) nk cv, S6.out, rfl, KN.out, fun k => ⟨False.elim, fun ⟨q1, q2⟩ => by have := LT.out.2.2.2 k q1; omega⟩, BX.out.1, BX.out.2.1, (fun e => by have := LT.out.2.2.2 _ e; omega), (fun e => by have := LT.out.2.2.2 _ e; omega), Nat.le_refl _⟩
            · intro l pre own y W ⟨K', v', hI⟩ hsz hown hpost hl
              obtain ⟨jx, t⟩ := y
              obtain ⟨post, hpost⟩ := hpost
              obtain ⟨x, hx, -, htg⟩ := trg_mem b.ins 0 jx t (by rw [hpost]; simp)
              rw [Nat.sub_zero] at hx
              have hxm : x ∈ (blkAt (pls L) s).ins := by rw [HCB.out.2.2.1]; exact List.mem_of_getElem? hx
              rw [← HCB.out.2.2.2] at htg
              have HII := Lib.hid hI
              have HOW := Lib.hid hown
              have HLL := Lib.hid hl
              have HSZ := Lib.hid hsz
              cases t with
              | none =>
                clear hI hl hsz hx hxm htg hpost kpx hown
                simp only [tgV]
                gi_wp2
                refine ⟨⟨fun k _ hk _ => Below.heap_alloc _ _ _ hk, by simp⟩, fun W₂ hb => ?_⟩
                have TB := Lib.hid (show W₂.heap[W.heap.size]? = some (.cells #[.int .i64 0, .int .i64 0, .bool false] 119 (0, 0)) from (hb.same _ (by have := HSZ.out; have := HLL.out; omega)).trans (al_new W _))
                have H2 := Lib.hid (KPX.out _ _ _ _ _ _ (KPX.out _ _ _ _ _ _ HII.out (Kp.of (gr_al W (.cells #[.int .i64 0, .int .i64 0, .bool false] 119)) HII.out.sz (fun k hk => (HII.out.s.lm.o.lt k ((HII.out.o k).1 hk).1).2))) (but_kp hb (by have := HLL.out; omega) (fun h => by have := HOW.out l h; have := HLL.out; omega)))
                have SZ2 := Lib.hid (show W₂.heap.size = W.heap.size + 1 from by rw [hb.size]; simp)
                clear hb
                obtain ⟨r0, c0, c1, c2, ff4, ff5⟩ := H2.out.s.c
                have t2 : W₂.cell? ⟨W.heap.size, 2, none⟩ = some (.bool false) := by rw [Lib.cell_of_heap TB.out]; rfl
                have f0 := ff4 0
                have f1 := ff4 1
                have f2 := ff5 0
                clear ff4 ff5 r0
                gi_wp2
                intro _
                have h1 := BX.out.2.2
                have h2 := LT.out
                have ot : ∀ k, k ≠ w.heap.size → k ≠ w.heap.size + 1 → (((W₂.setCell ⟨w.heap.size, 0, none⟩ (.slice none 0 0)).setCell ⟨w.heap.size, 1, none⟩ (.slice none 0 0)).setCell ⟨w.heap.size + 1, 0, none⟩ (.int .i64 21)).heap[k]? = W₂.heap[k]? := fun k q1 q2 => (Below.heap_setCell _ _ _ _ (by show k ≠ w.heap.size + 1; exact q2)).trans ((Below.heap_setCell _ _ _ _ (by show k ≠ w.heap.size; exact q1)).trans (Below.heap_setCell _ _ _ _ (by show k ≠ w.heap.size; exact q1)))
                refine ⟨⟨fun k q1 q2 _ => ot k (by omega) (by omega), by simp [World.setCell]⟩, rfl, ⟨_, H2.out.a⟩, gr_cell (gr_cell (gr_cell H2.out.s.gr (Nat.le_refl _) _) (Nat.le_refl _) _) (by omega) _, (Below.heap_setCell _ _ _ _ (by show w.heap.size ≠ w.heap.size + 1; omega)).trans (set2c H2.out.s.r4 (.slice none 0 0) (.slice none 0 0)), set1c ((Below.heap_setCell _ _ _ _ (by show w.heap.size + 1 ≠ w.heap.size; omega)).trans ((Below.heap_setCell _ _ _ _ (by show w.heap.size + 1 ≠ w.heap.size; omega)).trans H2.out.s.r5)) (.int .i64 21), H2.out.s.mks.keep fun q hq hr => (ot q (by omega) (by omega)).trans hr⟩
              | some u =>
                have huo := tgt_ok OK.out.cs (KN.out.ok s (List.mem_of_getElem? HS.out)) hxm htg
                have HUO := Lib.hid huo
                clear hI hl hsz hx hxm htg hpost kpx hown huo
                simp only [tgV]
                gi_wp2
                refine ⟨⟨fun k _ hk _ => Below.heap_alloc _ _ _ hk, by simp⟩, fun W₂ hb => ?_⟩
                have TB := Lib.hid (show W₂.heap[W.heap.size]? = some (.cells #[.int .i64 u.code, .int .i64 u.block, .bool true] 119 (0, 0)) from (hb.same _ (by have := HSZ.out; have := HLL.out; omega)).trans (al_new W _))
                have H2 := Lib.hid (KPX.out _ _ _ _ _ _ (KPX.out _ _ _ _ _ _ HII.out (Kp.of (gr_al W (.cells #[.int .i64 u.code, .int .i64 u.block, .bool true] 119)) HII.out.sz (fun k hk => (HII.out.s.lm.o.lt k ((HII.out.o k).1 hk).1).2))) (but_kp hb (by have := HLL.out; omega) (fun h => by have := HOW.out l h; have := HLL.out; omega)))
                have SZ2 := Lib.hid (show W₂.heap.size = W.heap.size + 1 from by rw [hb.size]; simp)
                clear hb
                obtain ⟨r0, c0, c1, c2, ff4, ff5⟩ := H2.out.s.c
                have t0 : W₂.cell? ⟨W.heap.size, 0, none⟩ = some (.int .i64 u.code) := by rw [Lib.cell_of_heap TB.out]; rfl
                have t1 : W₂.cell? ⟨W.heap.size, 1, none⟩ = some (.int .i64 u.block) := by rw [Lib.cell_of_heap TB.out]; rfl
                have t2 : W₂.cell? ⟨W.heap.size, 2, none⟩ = some (.bool true) := by rw [Lib.cell_of_heap TB.out]; rfl
                have ND := Lib.hid (need2_any kb m1 m2 base Ad cp nc (dlF 0 L) K' v' u W₂ H2.out.s.lm (key_sp (by rw [HC.out]; exact hncl) HLIM.out HUO.out) (Nat.le_trans H2.out.kn.len HSP.out) (by have := heap_lt H2.out.s.k7; have := H2.out.s.lt; omega))
                clear ff4 ff5 c0 c1 c2
                gi_wp2_with (refine ⟨trivial, ?_⟩; gi_at_call 42; refine (CallsIn.inRound _ (callsIn_wide.2 ND.out)).mono ?_; rintro e W5 ⟨rfl, v'', l5, f5, o5⟩; have S5 := Lib.hid (H2.out.s.need l5 f5 o5); have F5 := Lib.hid f5; have O5 := Lib.hid o5; clear l5 f5 o5)
                intro _
                have h1 := BX.out.2.2
                have h2 := LT.out
                have h3 := H2.out.s.lt
                have h4 := H2.out.s.lm.lt
                have s1 := H2.out.sz
                have hpm : (pre ++ [(jx, some u)]).map (·.2) = pre.map (·.2) ++ [some u] := by simp
                refine ⟨⟨fun k q1 q2 q3 => F5.out.same k q2 (by omega) (by omega) (fun e => q3 ((H2.out.o k).2 ⟨e, q1⟩)), F5.out.size⟩, fun k => v''.ownBlock = some k ∧ V6.heap.size ≤ k, fun k ⟨q1, q2⟩ => ?_, addS K' u, v'', S5.out, ?_, H2.out.kn.add HUO.out, fun k => Iff.rfl, ?_, ?_, ?_, ?_, Nat.le_trans s1 F5.out.size⟩
                · rcases O5.out k q1 with e | e
                  · exact .inl ((H2.out.o k).2 ⟨e, q2⟩)
                  · exact .inr e
                · rw [hpm, addAll_app, H2.out.a]
                  rfl
                · exact (F5.out.same _ (heap_lt H2.out.x1) (by omega) (by omega) H2.out.n1).trans H2.out.x1
                · exact (F5.out.same _ (heap_lt H2.out.x2) (by omega) (by omega) H2.out.n2).trans H2.out.x2
                · intro e
                  rcases O5.out _ e with e | e
                  · exact H2.out.n1 e
                  · have := heap_lt H2.out.x1; omega
                · intro e
                  rcases O5.out _ e with e | e
                  · exact H2.out.n2 e
                  · have := heap_lt H2.out.x2; omega
            · intro own W' ⟨K', v', h⟩ _ hd
              have hif : i < fuelL L := by have h1 := KN.out.len; have h2 := HNK.out; have h3 := HF.out; omega
              have hbs := bfs_step (l := pls L) (f := fuelL L - (i + 1)) HS.out (by
                have h1 := h.a
                rw [trg_snd, ← HCB.out.2.2.2] at h1
                rw [HCB.out.2.2.1]
                exact h1)
              rw [show fuelL L - (i + 1) + 1 = fuelL L - i from by omega] at hbs
              obtain ⟨e, he⟩ := addAll_pre _ _ _ h.a
              have SN := Lib.hid (show LkS w b7 kb m1 m2 base cp nc Ad L (⟨.collected V6.heap.size, #[]⟩ :: ds) K' v' W' ∧ Kn (pls L) K' ∧ i + 1 ≤ K'.length ∧ bfs (pls L) (fuelL L) 0 K0 = bfs (pls L) (fuelL L - (i + 1)) (i + 1) K' from ⟨⟨h.s.gr, h.s.r4, h.s.r5, h.s.k7, h.s.lm, h.s.lt, h.s.ow, h.s.mks.push (by have := BX.out.2.2; have := LT.out.2.1; omega) hd (fun hm => by have := LT.out.2.2.1 _ hm; have := BX.out.2.2; omega)⟩, h.kn, by have := HNK.out; rw [he, List.length_append]; omega, by rw [HB.out.2, hbs]⟩)
              clear h hbs he hd kpx
              gi_wp2
              exact ⟨⟨i + 1, K', v', ⟨.collected V6.heap.size, #[]⟩ :: ds, _, _, _, _, _, _, _, _, _, _, _, _, _, _, _, _, _, _, SN, rfl⟩, by simp [intOf]; omega⟩
            · intro pre y post W' hpost hE hd
              have hif : i < fuelL L := by have h1 := KN.out.len; have h2 := HNK.out; have h3 := HF.out; omega
              have hbs := bfs_bad (l := pls L) (f := fuelL L - (i + 1)) HS.out (by
                obtain ⟨Kx, hx⟩ := hE.a
                have h1 := congrArg (List.map (·.2)) hpost
                rw [trg_snd, ← HCB.out.2.2.2, List.map_append, List.map_cons, hE.y] at h1
                rw [HCB.out.2.2.1]
                show addAll K (b.ins.filterMap _) = none
                rw [h1, addAll_app, hx]
                rfl)
              rw [show fuelL L - (i + 1) + 1 = fuelL L - i from by omega] at hbs
              have HV := Lib.hid (show linkV L R = (21, [], []) from by
                unfold linkV
                rw [if_neg (fun h => h E00.out), HKR.out]
                simp only [HB.out.2, hbs])
              have MK := Lib.hid (hE.mks.push (by have := BX.out.2.2; have := LT.out.2.1; omega) hd (fun hm => by have := LT.out.2.2.1 _ hm; have := BX.out.2.2; omega))
              have HE := Lib.hid hE
              clear hbs hE hd kpx hpost
              gi_wp2
              exact lnk_err HE.out.r4 HE.out.r5 HE.out.gr MK.out HV.out.symm rfl rfl
          · obtain rfl : nk = i := by omega
            have hif : nk < fuelL L := by have h1 := KN.out.len; have h2 := HNK.out; have h3 := HF.out; omega
            have hbe := bfs_end (l := pls L) (f := fuelL L - (nk + 1)) (i := nk) (k := K) (List.getElem?_eq_none (Nat.le_of_eq HNK.out))
            rw [show fuelL L - (nk + 1) + 1 = fuelL L - nk from by omega] at hbe
            have hb0 : bfs (pls L) (fuelL L) 0 K0 = some (some K) := by rw [HB.out.2, hbe]
            have hkn0 : Kn (pls L) K0 := rootsK_kn OK.out.cs _ [] K0 ⟨List.nodup_nil, fun _ h => by cases h⟩ HKR.out
            have fnd := bfs_fnd OK.out.cs _ 0 K0 K hkn0 (Nat.zero_le _) hb0
            obtain ⟨e0', he0'⟩ := fnd.pre
            have hroots := (rootsK_mem _ _ _ HKR.out).1
            have PG := Lib.hid (program_any V Ad Ar Av cp cr cv kb m1 m2 base nk nr nc L K R (HL.out _ S.out.gr) HC.out S.out.lm HNK.out OK.out HI.out KN.out
              (fun s hs x hx t ht => by obtain ⟨j, hj⟩ := List.getElem?_of_mem hs; exact fnd.cl j s (Nat.zero_le _) hj x hx t ht) hkl (HR.out _ S.out.gr) HNR.out hrl
              (fun n hn => ⟨HOK.out n hn, by
                obtain ⟨s, h1, h2⟩ := hroots n.pr (List.mem_map.2 ⟨n, hn, rfl⟩)
                exact ⟨s, h1, by rw [he0']; simp [h2]⟩⟩))
            have HB0 := Lib.hid hb0
            clear hif hbe hb0 hkn0 fnd he0' hroots
            gi_upto_region 22 with (refine ⟨trivial, ?_⟩; gi_at_call 44; refine (callsIn_wide.2 PG.out).mono ?_; rintro e W7 ⟨X, rfl, x1, x2, x3, x4, x5⟩; unfold Prg.v; have XR := Lib.hid x1; have XB := Lib.hid x2; have XS := Lib.hid x3; have XG := Lib.hid x4; have XL := Lib.hid x5; clear x1 x2 x3 x4 x5)
            have hbl : X.bs.length = nk := by have h := congrArg List.length XB.out; unfold progB at h; simp only [List.length_map] at h; rw [h]; exact HNK.out
            have hsl : X.ss.length ≤ nr := by
              have h := starts_len (rootN L K) (R.map fun n => (n.pack, n.id)) []
              rw [XS.out]
              unfold startsOf
              simp only [List.length_map, List.length_nil] at h
              have := HNR.out
              omega
            obtain ⟨ex, hex⟩ : ∃ e, errP X = e := ⟨_, rfl⟩
            have HEX := Lib.hid (show errQ (progB (pls L) K) (startsOf (rootN L K) (R.map Nam.pr)) = ex from by rw [← hex, errP_pl, XB.out, XS.out]; rfl)
            have S8 := Lib.hid (S.out.go (XG.out.trans (gr_al W7 (.cells #[.slice X.bA X.bs.length X.bc, .slice X.sA X.ss.length X.sc] 26))))
            have X8 := Lib.hid (al_new W7 (.cells #[.slice X.bA X.bs.length X.bc, .slice X.sA X.ss.length X.sc] 26))
            have XR8 := Lib.hid (show X.Rd (W7.alloc (.cells #[.slice X.bA X.bs.length X.bc, .slice X.sA X.ss.length X.sc] 26)) from XR.out.below (below_of (gr_al _ _)))
            have CK := Lib.hid (fun V (hV : X.Rd V) => check_any X V hV (by omega) (by omega) (fun b hb => by have := XL.out b hb; omega) (fun b hb => names_ok HLIM.out KN.out (by rw [← XB.out]; exact List.mem_map.2 ⟨b, hb, rfl⟩)) (fun s hs => by
              rw [XS.out] at hs
              obtain ⟨n, hn, rfl⟩ := (startsOf_mem _ _ s).1 hs
              obtain ⟨m, hm, rfl⟩ := List.mem_map.1 hn
              have := (HOK.out m hm).1
              unfold maxLen at this
              show m.pack.length ≤ _
              omega))
            unfold Prg.v at CK
            rw [hex] at CK
            have XQ := Lib.hid (show X.v = .agg #[.slice X.bA X.bs.length X.bc, .slice X.sA X.ss.length X.sc] from rfl)
            obtain ⟨nb, hnb⟩ : ∃ n, X.bs.length = n := ⟨_, rfl⟩
            obtain ⟨ns, hns⟩ : ∃ n, X.ss.length = n := ⟨_, rfl⟩
            rw [hnb, hns] at X8 XR8 CK S8 XQ
            rw [hnb, hns]
            obtain ⟨b15, hb15⟩ : ∃ m, W7.heap.size = m := ⟨_, rfl⟩
            rw [hb15] at X8 ⊢
            generalize W7.alloc (.cells #[.slice X.bA nb X.bc, .slice X.sA ns X.sc] 26) = W8 at *
            have p0 : W8.cell? ⟨b15, 0, none⟩ = some (.slice X.bA nb X.bc) := by rw [Lib.cell_of_heap X8.out]; rfl
            have p1 : W8.cell? ⟨b15, 1, none⟩ = some (.slice X.sA ns X.sc) := by rw [Lib.cell_of_heap X8.out]; rfl
            clear hbl hsl hex hnb hns hb15 r0 k3 XR XG HRD HB
            by_cases hx0 : ex = 0
            · have t1 : (ex != 0) = false := by simp [hx0]
              have HV := Lib.hid (show linkV L R = (0, progB (pls L) K, startsOf (rootN L K) (R.map Nam.pr)) from by
                unfold linkV
                rw [if_neg (fun h => h E00.out), HKR.out]
                simp only [HB0.out]
                rw [if_neg (fun h => h (HEX.out.trans hx0))])
              clear hx0
              gi_upto_region 23 with (refine ⟨trivial, ?_⟩; gi_at_call 26; refine (callsIn_wide.2 (CK.out _ XR8.out)).mono ?_; rintro e W9 ⟨rfl, b9⟩; have G9 := Lib.hid (gr_of b9); clear b9)
              have S9 := Lib.hid (S8.out.go G9.out)
              have p0 := gr_c G9.out p0
              have p1 := gr_c G9.out p1
              obtain ⟨-, c0, c1, c2, ff4, ff5⟩ := S9.out.c
              have f0 := ff4 0
              have f1 := ff4 1
              have f2 := ff5 0
              clear ff4 ff5
              gi_wp2
              have h4 : (((W9.setCell ⟨w.heap.size, 0, none⟩ (.slice X.bA nb X.bc)).setCell ⟨w.heap.size, 1, none⟩ (.slice X.sA ns X.sc)).setCell ⟨w.heap.size + 1, 0, none⟩ (.int .i64 0)).heap[w.heap.size]? = some (.cells #[.slice X.bA nb X.bc, .slice X.sA ns X.sc] 26 (0, 0)) := (Below.heap_setCell _ _ _ _ (by show w.heap.size ≠ w.heap.size + 1; omega)).trans (set2c S9.out.r4 (.slice X.bA nb X.bc) (.slice X.sA ns X.sc))
              have h5 : (((W9.setCell ⟨w.heap.size, 0, none⟩ (.slice X.bA nb X.bc)).setCell ⟨w.heap.size, 1, none⟩ (.slice X.sA ns X.sc)).setCell ⟨w.heap.size + 1, 0, none⟩ (.int .i64 0)).heap[w.heap.size + 1]? = some (.cells #[.int .i64 0] 27 (0, 0)) := set1c ((Below.heap_setCell _ _ _ _ (by show w.heap.size + 1 ≠ w.heap.size; omega)).trans ((Below.heap_setCell _ _ _ _ (by show w.heap.size + 1 ≠ w.heap.size; omega)).trans S9.out.r5)) (.int .i64 0)
              have g4 := gr_cell (k := w.heap.size + 1) (j := 0) (gr_cell (k := w.heap.size) (j := 1) (gr_cell (k := w.heap.size) (j := 0) S9.out.gr (Nat.le_refl _) (.slice X.bA nb X.bc)) (Nat.le_refl _) (.slice X.sA ns X.sc)) (by omega) (.int .i64 0)
              have mk4 : Mks (w.heap.size + 2) (((W9.setCell ⟨w.heap.size, 0, none⟩ (.slice X.bA nb X.bc)).setCell ⟨w.heap.size, 1, none⟩ (.slice X.sA ns X.sc)).setCell ⟨w.heap.size + 1, 0, none⟩ (.int .i64 0)) ds := S9.out.mks.keep fun q hq hr => (Below.heap_setCell _ _ _ _ (by show q ≠ w.heap.size + 1; omega)).trans ((Below.heap_setCell _ _ _ _ (by show q ≠ w.heap.size; omega)).trans ((Below.heap_setCell _ _ _ _ (by show q ≠ w.heap.size; omega)).trans hr))
              have x4 := (XR8.out.below (below_of G9.out)).res (y0 := .slice X.bA nb X.bc) (y1 := .slice X.sA ns X.sc) (e1 := 0) S9.out.r4 S9.out.r5 ⟨_, _, _, rfl⟩ ⟨_, _, _, rfl⟩ ⟨_, _, _, rfl⟩
              exact lnk_end X h4 h5 g4 mk4 XQ.out x4 (by rw [HV.out, XB.out, XS.out]; rfl) XL.out rfl rfl
            · have t1 : (ex != 0) = true := by simpa using hx0
              have HV := Lib.hid (show linkV L R = (ex, [], []) from by
                unfold linkV
                rw [if_neg (fun h => h E00.out), HKR.out]
                simp only [HB0.out]
                rw [if_pos (by rw [HEX.out]; exact hx0), HEX.out])
              clear hx0
              gi_upto_region 23 with (refine ⟨trivial, ?_⟩; gi_at_call 26; refine (callsIn_wide.2 (CK.out _ XR8.out)).mono ?_; rintro e W9 ⟨rfl, b9⟩; have G9 := Lib.hid (gr_of b9); clear b9)
              have S9 := Lib.hid (S8.out.go G9.out)
              obtain ⟨-, c0, c1, c2, ff4, ff5⟩ := S9.out.c
              have f0 := ff4 0
              have f1 := ff4 1
              have f2 := ff5 0
              clear ff4 ff5 p0 p1
              gi_wp2
              have h4 : (((W9.setCell ⟨w.heap.size, 0, none⟩ (.slice none 0 0)).setCell ⟨w.heap.size, 1, none⟩ (.slice none 0 0)).setCell ⟨w.heap.size + 1, 0, none⟩ (.int .i64 ex)).heap[w.heap.size]? = some (.cells #[.slice none 0 0, .slice none 0 0] 26 (0, 0)) := (Below.heap_setCell _ _ _ _ (by show w.heap.size ≠ w.heap.size + 1; omega)).trans (set2c S9.out.r4 (.slice none 0 0) (.slice none 0 0))
              have h5 : (((W9.setCell ⟨w.heap.size, 0, none⟩ (.slice none 0 0)).setCell ⟨w.heap.size, 1, none⟩ (.slice none 0 0)).setCell ⟨w.heap.size + 1, 0, none⟩ (.int .i64 ex)).heap[w.heap.size + 1]? = some (.cells #[.int .i64 ex] 27 (0, 0)) := set1c ((Below.heap_setCell _ _ _ _ (by show w.heap.size + 1 ≠ w.heap.size; omega)).trans ((Below.heap_setCell _ _ _ _ (by show w.heap.size + 1 ≠ w.heap.size; omega)).trans S9.out.r5)) (.int .i64 ex)
              have g4 := gr_cell (k := w.heap.size + 1) (j := 0) (gr_cell (k := w.heap.size) (j := 1) (gr_cell (k := w.heap.size) (j := 0) S9.out.gr (Nat.le_refl _) (.slice none 0 0)) (Nat.le_refl _) (.slice none 0 0)) (by omega) (.int .i64 ex)
              have mk4 : Mks (w.heap.size + 2) (((W9.setCell ⟨w.heap.size, 0, none⟩ (.slice none 0 0)).setCell ⟨w.heap.size, 1, none⟩ (.slice none 0 0)).setCell ⟨w.heap.size + 1, 0, none⟩ (.int .i64 ex)) ds := S9.out.mks.keep fun q hq hr => (Below.heap_setCell _ _ _ _ (by show q ≠ w.heap.size + 1; omega)).trans ((Below.heap_setCell _ _ _ _ (by show q ≠ w.heap.size; omega)).trans ((Below.heap_setCell _ _ _ _ (by show q ≠ w.heap.size; omega)).trans hr))
              exact lnk_err h4 h5 g4 mk4 HV.out.symm rfl rfl
  · have t0 : (e0 != 0) = true := by simpa using e00
    have HV := Lib.hid (show linkV L R = (e0, [], []) from by unfold linkV; rw [if_pos (by rw [HE0.out]; exact e00), HE0.out])
    clear e00
    have r4 := fun V (g : Gr W0 V) => gr_h g R4.out
    gi_upto_region 3 with (refine ⟨trivial, ?_⟩; gi_at_call 40; refine (callsIn_wide.2 (CC.out _ G0.out)).mono ?_; rintro e W1 ⟨rfl, g1⟩; have G1 := Lib.hid g1; clear g1)
    have R4' := Lib.hid (gr_h G1.out R4.out)
    have R5' := Lib.hid (gr_h G1.out R5.out)
    have c0 : W1.cell? ⟨w.heap.size, 0, none⟩ = some (.slice none 0 0) := by rw [Lib.cell_of_heap R4'.out]; rfl
    have c1 : W1.cell? ⟨w.heap.size, 1, none⟩ = some (.slice none 0 0) := by rw [Lib.cell_of_heap R4'.out]; rfl
    have c2 : W1.cell? ⟨w.heap.size + 1, 0, none⟩ = some (.int .i64 0) := by rw [Lib.cell_of_heap R5'.out]; rfl
    have f0 := frz R4'.out 0
    have f1 := frz R4'.out 1
    have f2 := frz R5'.out 0
    clear r4
    gi_wp2
    have h4 : (((W1.setCell ⟨w.heap.size, 0, none⟩ (.slice none 0 0)).setCell ⟨w.heap.size, 1, none⟩ (.slice none 0 0)).setCell ⟨w.heap.size + 1, 0, none⟩ (.int .i64 e0)).heap[w.heap.size]? = some (.cells #[.slice none 0 0, .slice none 0 0] 26 (0, 0)) := (Below.heap_setCell _ _ _ _ (by show w.heap.size ≠ w.heap.size + 1; omega)).trans (set2c R4'.out (.slice none 0 0) (.slice none 0 0))
    have h5 : (((W1.setCell ⟨w.heap.size, 0, none⟩ (.slice none 0 0)).setCell ⟨w.heap.size, 1, none⟩ (.slice none 0 0)).setCell ⟨w.heap.size + 1, 0, none⟩ (.int .i64 e0)).heap[w.heap.size + 1]? = some (.cells #[.int .i64 e0] 27 (0, 0)) := set1c ((Below.heap_setCell _ _ _ _ (by show w.heap.size + 1 ≠ w.heap.size; omega)).trans ((Below.heap_setCell _ _ _ _ (by show w.heap.size + 1 ≠ w.heap.size; omega)).trans R5'.out)) (.int .i64 e0)
    exact lnk_err h4 h5 (gr_cell (gr_cell (gr_cell (G0.out.trans G1.out) (Nat.le_refl _) _) (Nat.le_refl _) _) (by omega) _) trivial HV.out.symm rfl rfl
end Go.Proofs.YtgboboljgcfggaaGreatDoor
namespace Go.Proofs.YtgboboljgcfggaaGreatDoor
open Go.RowKit Go.Maps

/-- What Start answers. -/
def stR (p : Prg) (n : Nam) : Int × Int := if errP p ≠ 0 then (0, 1) else match p.ss.find? (fun s => s.pack == n.pack && s.id == n.id) with
  | some s => (s.block, 0)
  | none => (0, 8)
/-- What check_any asks. -/
structure Prg.Len (p : Prg) : Prop where
  b : p.bs.length ≤ 9223372036854775807
  s : p.ss.length ≤ 9223372036854775807
  i : ∀ b ∈ p.bs, b.ins.length ≤ 9223372036854775807
  n : ∀ b ∈ p.bs, ∀ x ∈ b.ins, x.name.length ≤ 9223372036854775807
  k : ∀ s ∈ p.ss, s.pack.length ≤ 9223372036854775807
attribute [local irreducible] Calls in
set_option maxRecDepth 100000 in
set_option maxHeartbeats 4000000 in
theorem start_any (p : Prg) (n : Nam) (w : World) (hp : p.Rd w) (hl : p.Len) : Calls Tryz.prog 11 #[p.v, .agg #[.string ⟨n.pack.toArray⟩, .int .i64 n.id]] w fun e w' => e = .returned (.tuple #[iv (stR p n).1, iv (stR p n).2]) ∧ Gr w w' := by
  unfold Prg.v
  obtain ⟨ns, hns⟩ : ∃ m, p.ss.length = m := ⟨_, rfl⟩
  obtain ⟨ex, hex⟩ : ∃ e, errP p = e := ⟨_, rfl⟩
  have hnl := hl.s
  rw [hns] at hnl
  have CK := Lib.hid (fun V (g : Gr w V) => show Calls Tryz.prog 26 #[.agg #[.slice p.bA p.bs.length p.bc, .slice p.sA ns p.sc]] V (fun e w' => e = .returned (.int .i64 ex) ∧ Below V.heap.size V w') from by
    have h := check_any p V (hp.below (below_of g)) hl.b hl.s hl.i hl.n hl.k
    unfold Prg.v at h
    rw [hns, hex] at h
    exact h)
  have HS := Lib.hid (fun V (g : Gr w V) => hp.s.gr g)
  have HNS := Lib.hid hns
  have HEX := Lib.hid hex
  rw [hns]
  clear hp hl hns hex
  have GW := Lib.hid ((gr_al w (.cells #[.slice p.bA p.bs.length p.bc, .slice p.sA ns p.sc] 26)).trans (gr_al _ (.cells #[.string ⟨n.pack.toArray⟩, .int .i64 n.id] 33)))
  have HB := Lib.hid (fun V (g : Gr ((w.alloc (.cells #[.slice p.bA p.bs.length p.bc, .slice p.sA ns p.sc] 26)).alloc (.cells #[.string ⟨n.pack.toArray⟩, .int .i64 n.id] 33)) V) => (show V.cell? ⟨w.heap.size, 0, none⟩ = some (.slice p.bA p.bs.length p.bc) ∧ V.cell? ⟨w.heap.size, 1, none⟩ = some (.slice p.sA ns p.sc) ∧ V.cell? ⟨w.heap.size + 1, 0, none⟩ = some (.string ⟨n.pack.toArray⟩) ∧ V.cell? ⟨w.heap.size + 1, 1, none⟩ = some (.int .i64 n.id) from by
    have h := gr_h g (gr_h (gr_al _ _) (al_new w (.cells #[.slice p.bA p.bs.length p.bc, .slice p.sA ns p.sc] 26)))
    have h2 := gr_h g (al_at (w.alloc (.cells #[.slice p.bA p.bs.length p.bc, .slice p.sA ns p.sc] 26)) (.cells #[.string ⟨n.pack.toArray⟩, .int .i64 n.id] 33) (A := w.heap.size + 1) (by simp))
    exact ⟨by rw [Lib.cell_of_heap h]; rfl, by rw [Lib.cell_of_heap h]; rfl, by rw [Lib.cell_of_heap h2]; rfl, by rw [Lib.cell_of_heap h2]; rfl⟩))
  go_enter Tryz.func11, Tryz.ntmps11
  go_upto_region 1 with (fail)
  generalize (w.alloc (.cells #[.slice p.bA p.bs.length p.bc, .slice p.sA ns p.sc] 26)).alloc (.cells #[.string ⟨n.pack.toArray⟩, .int .i64 n.id] 33) = W0 at *
  obtain ⟨p0, p1, n0, n1⟩ := HB.out _ (gr_refl _)
  by_cases h0 : ex = 0
  · have t1 : (ex != 0) = false := by simp [h0]
    have HX0 := Lib.hid (show errP p = 0 from HEX.out.trans h0)
    clear h0
    go_upto_region 3 with (go_at_call 26; refine (CK.out _ GW.out).mono ?_; rintro e W1 ⟨rfl, b1⟩; have G1 := Lib.hid (gr_of b1); clear b1)
    clear p0 p1 n0 n1
    obtain ⟨p0, p1, n0, n1⟩ := HB.out _ G1.out
    go_wp2
    go_loopw [14] (fun u V => ∃ k : Nat, k ≤ ns ∧ u = .int .i64 k ∧ Hid (Gr W0 V ∧ ∀ s ∈ p.ss.take k, (s.pack == n.pack && s.id == n.id) = false)) (fun u _ => ns - (intOf u).toNat)
    case atStart => exact ⟨0, Nat.zero_le _, rfl, Lib.hid ⟨G1.out, by simp⟩⟩
    case round =>
      clear p0 p1 n0 n1
      obtain ⟨k, hk, rfl, HR⟩ := hrel
      obtain ⟨-, -, n0, n1⟩ := HB.out _ HR.out.1
      by_cases hlt : k < ns
      · obtain ⟨s, hs⟩ : ∃ s, p.ss[k]? = some s := ⟨_, List.getElem?_eq_getElem (by rw [HNS.out]; exact hlt)⟩
        obtain ⟨a, a1, eA, ha, hab, y0, y1, y2⟩ := (HS.out _ (GW.out.trans HR.out.1)).stt (k := k) (by rw [HNS.out]; exact hlt)
        have hsi : p.ss[k]'(by rw [HNS.out]; exact hlt) = s := by rw [List.getElem?_eq_getElem (by rw [HNS.out]; exact hlt)] at hs; exact Option.some.inj hs
        rw [hsi] at y0 y1 y2
        rw [eA]
        have HSI := Lib.hid hs
        have FND := Lib.hid (show (s.pack == n.pack && s.id == n.id) = true → stR p n = (s.block, 0) from fun h => by
          unfold stR
          rw [if_neg (fun h2 => h2 HX0.out)]
          have h3 : p.ss.find? (fun s => s.pack == n.pack && s.id == n.id) = some s := by
            rw [← List.take_append_drop k p.ss, List.find?_append, List.find?_eq_none.2 (fun x hx => by rw [HR.out.2 x hx]; simp), Option.none_or]
            obtain ⟨hk', e⟩ := List.getElem?_eq_some_iff.1 hs
            rw [List.drop_eq_getElem_cons hk', e, List.find?_cons, h]
          rw [h3])
        have NXT := Lib.hid (show (s.pack == n.pack && s.id == n.id) = false → ∀ x ∈ p.ss.take (k + 1), (x.pack == n.pack && x.id == n.id) = false from fun h x hx => by
          rw [List.take_add_one, hs, List.mem_append] at hx
          rcases hx with hx | hx
          · exact HR.out.2 x hx
          · simp at hx; subst hx; exact h)
        clear hs hsi
        have n0a := gr_c (gr_al wr (.cells #[.string ⟨s.pack.toArray⟩, .int .i64 s.id, .int .i64 s.block] 79)) n0
        have n1a := gr_c (gr_al wr (.cells #[.string ⟨s.pack.toArray⟩, .int .i64 s.id, .int .i64 s.block] 79)) n1
        cases e1 : (s.pack == n.pack) with
        | false =>
          rw [e1] at FND NXT
          have NX := Lib.hid (NXT.out rfl)
          go_wp2
          exact ⟨⟨k + 1, by omega, by simp, Lib.hid ⟨HR.out.1.trans (gr_al _ _), NX.out⟩⟩, by simp [intOf]; omega⟩
        | true =>
          cases e2 : (s.id == n.id) with
          | false =>
            rw [e1, e2] at FND NXT
            have NX := Lib.hid (NXT.out rfl)
            go_wp2
            exact ⟨⟨k + 1, by omega, by simp, Lib.hid ⟨HR.out.1.trans (gr_al _ _), NX.out⟩⟩, by simp [intOf]; omega⟩
          | true =>
            rw [e1, e2] at FND NXT
            have FN := Lib.hid (FND.out rfl)
            go_wp2
            go_ret2
            exact ⟨by rw [FN.out]; rfl, GW.out.trans (HR.out.1.trans (gr_al _ _))⟩
      · obtain rfl : ns = k := by omega
        have FN := Lib.hid (show stR p n = (0, 8) from by
          unfold stR
          rw [if_neg (fun h2 => h2 HX0.out)]
          have h3 : p.ss.find? (fun s => s.pack == n.pack && s.id == n.id) = none := List.find?_eq_none.2 (fun x hx => by
            have h := HR.out.2
            rw [List.take_of_length_le (Nat.le_of_eq HNS.out)] at h
            rw [h x hx]; simp)
          rw [h3])
        go_wp2
        go_ret2
        exact ⟨by rw [FN.out]; rfl, GW.out.trans HR.out.1⟩
  · have t1 : (ex != 0) = true := by simpa using h0
    have HX0 := Lib.hid (show stR p n = (0, 1) from by unfold stR; rw [if_pos (by rw [HEX.out]; exact h0)])
    clear h0
    go_wp2_with (go_at_call 26; refine (CK.out _ GW.out).mono ?_; rintro e W1 ⟨rfl, b1⟩; have G1 := Lib.hid (gr_of b1); clear b1)
    go_ret2
    exact ⟨by rw [HX0.out]; rfl, GW.out.trans G1.out⟩
end Go.Proofs.YtgboboljgcfggaaGreatDoor
namespace Go.Proofs.YtgboboljgcfggaaGreatDoor
open Go.RowKit Go.Maps

def exR : Ins := ⟨7, 0, 0, []⟩
def exCod (bA A1 A2 dA : Option Addr) : Cod := ⟨[109], bA, 3, [⟨0, false, A1, 2, [⟨4, 2, 0, [109]⟩, exR]⟩, ⟨0, false, A2, 2, [⟨1, 1, 0, []⟩, exR]⟩, ⟨0, false, A2, 2, [⟨1, 1, 0, []⟩, exR]⟩], dA, 3, [⟨1, 1, 0⟩, ⟨2, 1, 2⟩, ⟨3, 1, 1⟩]⟩
def exN : Nam := ⟨[109], 1⟩
theorem exV (bA A1 A2 dA : Option Addr) : linkV [exCod bA A1 A2 dA] [exN] = (0, [⟨0, false, [⟨4, 1, 0, []⟩, exR]⟩, ⟨0, false, [⟨1, 1, 0, []⟩, exR]⟩], [⟨[109], 1, 0⟩]) := by kernel_rfl
theorem results_cell3 {fn : Func} {p : Tmp} (h : fn.results = #[.cell p 65]) (tmps : Array Value) (w : World) (a : Addr) (x y z : Value) (hp : tmps.getD p undef = .pointer (some a)) (h0 : w.cell? a = some x) (h1 : w.cell? ⟨a.block, a.off + 1, none⟩ = some y) (h2 : w.cell? ⟨a.block, a.off + 2, none⟩ = some z) : (results fn tmps).run Tryz.prog w = .ok (.agg #[x, y, z]) w := by
  have ha := Tryz.isAgg65
  have hz := Tryz.sizeOf65
  rw [results_cell1 h, hp]
  simp [go_sem, ha, hz, loadVar, h0, h1, h2]
theorem al8 (w : World) (o0 o1 o2 o3 o4 o5 o6 o7 : Obj) : ((((((((w.alloc o0).alloc o1).alloc o2).alloc o3).alloc o4).alloc o5).alloc o6).alloc o7).heap[w.heap.size]? = some o0 ∧ ((((((((w.alloc o0).alloc o1).alloc o2).alloc o3).alloc o4).alloc o5).alloc o6).alloc o7).heap[w.heap.size + 2]? = some o2 ∧ ((((((((w.alloc o0).alloc o1).alloc o2).alloc o3).alloc o4).alloc o5).alloc o6).alloc o7).heap[w.heap.size + 4]? = some o4 ∧ ((((((((w.alloc o0).alloc o1).alloc o2).alloc o3).alloc o4).alloc o5).alloc o6).alloc o7).heap[w.heap.size + 6]? = some o6 ∧ ((((((((w.alloc o0).alloc o1).alloc o2).alloc o3).alloc o4).alloc o5).alloc o6).alloc o7).heap[w.heap.size + 7]? = some o7 ∧ Gr w ((((((((w.alloc o0).alloc o1).alloc o2).alloc o3).alloc o4).alloc o5).alloc o6).alloc o7) :=
  ⟨gr_h (((((((gr_al _ _).trans (gr_al _ _)).trans (gr_al _ _)).trans (gr_al _ _)).trans (gr_al _ _)).trans (gr_al _ _)).trans (gr_al _ _)) (al_at _ _ (by simp)), gr_h (((((gr_al _ _).trans (gr_al _ _)).trans (gr_al _ _)).trans (gr_al _ _)).trans (gr_al _ _)) (al_at _ _ (by simp)), gr_h (((gr_al _ _).trans (gr_al _ _)).trans (gr_al _ _)) (al_at _ _ (by simp)), gr_h (gr_al _ _) (al_at _ _ (by simp)), al_at _ _ (by simp), (((((((gr_al _ _).trans (gr_al _ _)).trans (gr_al _ _)).trans (gr_al _ _)).trans (gr_al _ _)).trans (gr_al _ _)).trans (gr_al _ _)).trans (gr_al _ _)⟩
set_option maxRecDepth 100000 in
set_option maxHeartbeats 4000000 in
theorem code_any (w : World) : Calls Tryz.prog 22 #[] w fun e w' => ∃ bA A1 A2 dA, e = .returned (exCod bA A1 A2 dA).v ∧ (exCod bA A1 A2 dA).Rd w' ∧ Gr w w' := by
  go_enter Tryz.func22, Tryz.ntmps22
  go_wp2
  have key : ∀ (W : World) (m : Nat), W.heap[m]? = some (.cells #[.string ⟨#[109]⟩, .slice (some ⟨m + 6, 0, none⟩) 3 3, .slice (some ⟨m + 7, 0, none⟩) 3 3] 65 (0, 0)) →
      W.heap[m + 2]? = some (.cells #[.int .i64 1, .int .i64 1, .int .i64 0, .string ⟨#[]⟩, .int .i64 7, .int .i64 0, .int .i64 0, .string ⟨#[]⟩] 71 (0, 0)) →
      W.heap[m + 4]? = some (.cells #[.int .i64 4, .int .i64 2, .int .i64 0, .string ⟨#[109]⟩, .int .i64 7, .int .i64 0, .int .i64 0, .string ⟨#[]⟩] 71 (0, 0)) →
      W.heap[m + 6]? = some (.cells #[.int .i64 0, .bool false, .slice (some ⟨m + 4, 0, none⟩) 2 2, .int .i64 0, .bool false, .slice (some ⟨m + 2, 0, none⟩) 2 2, .int .i64 0, .bool false, .slice (some ⟨m + 2, 0, none⟩) 2 2] 69 (0, 0)) →
      W.heap[m + 7]? = some (.cells #[.int .i64 1, .int .i64 1, .int .i64 0, .int .i64 2, .int .i64 1, .int .i64 2, .int .i64 3, .int .i64 1, .int .i64 1] 126 (0, 0)) →
      (exCod (some ⟨m + 6, 0, none⟩) (some ⟨m + 4, 0, none⟩) (some ⟨m + 2, 0, none⟩) (some ⟨m + 7, 0, none⟩)).Rd W := fun W m h0 h2 h4 h6 h7 => by
    refine ⟨rd_cells (t := 69) (fun _ => rfl) h6, fun x hx => ?_, rd_cells (t := 126) (fun _ => rfl) h7⟩
    have e2 : RD 4 Ins.cs W (some ⟨m + 2, 0, none⟩) [⟨1, 1, 0, []⟩, exR] := rd_cells (t := 71) (fun _ => rfl) h2
    have e4 : RD 4 Ins.cs W (some ⟨m + 4, 0, none⟩) [⟨4, 2, 0, [109]⟩, exR] := rd_cells (t := 71) (fun _ => rfl) h4
    change x ∈ [_, _, _] at hx
    simp only [List.mem_cons, List.not_mem_nil, or_false] at hx
    rcases hx with rfl | rfl | rfl
    · exact e4
    · exact e2
    · exact e2
  refine bodyPost_ret (results_cell3 rfl _ _ ⟨w.heap.size, 0, none⟩ (.string ⟨#[109]⟩) (.slice (some ⟨w.heap.size + 6, 0, none⟩) 3 3) (.slice (some ⟨w.heap.size + 7, 0, none⟩) 3 3) rfl (by rw [Lib.cell_of_heap (al8 w _ _ _ _ _ _ _ _).1]; rfl) (by rw [Lib.cell_of_heap (al8 w _ _ _ _ _ _ _ _).1]; rfl) (by rw [Lib.cell_of_heap (al8 w _ _ _ _ _ _ _ _).1]; rfl)) rfl ⟨_, _, _, _, rfl, key _ w.heap.size (al8 w _ _ _ _ _ _ _ _).1 (al8 w _ _ _ _ _ _ _ _).2.1 (al8 w _ _ _ _ _ _ _ _).2.2.1 (al8 w _ _ _ _ _ _ _ _).2.2.2.1 (al8 w _ _ _ _ _ _ _ _).2.2.2.2.1, (al8 w _ _ _ _ _ _ _ _).2.2.2.2.2⟩
end Go.Proofs.YtgboboljgcfggaaGreatDoor
namespace Go.Proofs.YtgboboljgcfggaaGreatDoor
open Go.RowKit Go.Maps

theorem ex_len (X : Prg) (h : X.bs.map Blk.pb = [⟨0, false, [⟨4, 1, 0, []⟩, exR]⟩, ⟨0, false, [⟨1, 1, 0, []⟩, exR]⟩]) (hs : X.ss = [⟨[109], 1, 0⟩]) : X.Len := by
  have hb : ∀ b ∈ X.bs, b.ins = [⟨4, 1, 0, []⟩, exR] ∨ b.ins = [⟨1, 1, 0, []⟩, exR] := fun b hb => by
    have h1 : b.pb ∈ X.bs.map Blk.pb := List.mem_map.2 ⟨b, hb, rfl⟩
    rw [h] at h1
    simp only [List.mem_cons, List.not_mem_nil, or_false] at h1
    rcases h1 with e | e
    · exact .inl (congrArg PB.ins e)
    · exact .inr (congrArg PB.ins e)
  have hl := congrArg List.length h
  simp at hl
  refine ⟨by omega, by rw [hs]; simp, fun b hb' => ?_, fun b hb' x hx => ?_, fun s hs' => ?_⟩
  · rcases hb b hb' with e | e <;> rw [e] <;> simp
  · rcases hb b hb' with e | e
    · rw [e] at hx
      simp only [List.mem_cons, List.not_mem_nil, or_false] at hx
      rcases hx with rfl | rfl <;> simp [exR]
    · rw [e] at hx
      simp only [List.mem_cons, List.not_mem_nil, or_false] at hx
      rcases hx with rfl | rfl <;> simp [exR]
  · rw [hs] at hs'
    simp only [List.mem_cons, List.not_mem_nil, or_false] at hs'
    subst hs'
    simp
theorem ex_st (X : Prg) (h : X.bs.map Blk.pb = [⟨0, false, [⟨4, 1, 0, []⟩, exR]⟩, ⟨0, false, [⟨1, 1, 0, []⟩, exR]⟩]) (hs : X.ss = [⟨[109], 1, 0⟩]) : stR X exN = (0, 0) := by
  have he : errP X = 0 := by rw [errP_pl, h, hs]; kernel_rfl
  unfold stR
  rw [if_neg (fun h => h he), hs]
  rfl
theorem ex_sp (bA A1 A2 dA : Option Addr) : (spots (pls [exCod bA A1 A2 dA])).length ≤ 100000 := by
  have h : (spots (pls [exCod bA A1 A2 dA])).length = 3 := by rfl
  omega
theorem ex_lim (bA A1 A2 dA : Option Addr) : (exCod bA A1 A2 dA).Lim ∧ (∀ b ∈ (exCod bA A1 A2 dA).bs, b.ins.length ≤ 100000) := by
  have hb : ∀ b ∈ (exCod bA A1 A2 dA).bs, b.ins = [⟨4, 2, 0, [109]⟩, exR] ∨ b.ins = [⟨1, 1, 0, []⟩, exR] := fun b hb => by
    change b ∈ [_, _, _] at hb
    simp only [List.mem_cons, List.not_mem_nil, or_false] at hb
    rcases hb with rfl | rfl | rfl
    · exact .inl rfl
    · exact .inr rfl
    · exact .inr rfl
  refine ⟨⟨by simp [exCod], by simp [exCod], by simp [exCod], fun b hb' => ?_, fun b hb' x hx => ?_⟩, fun b hb' => ?_⟩
  · rcases hb b hb' with e | e <;> rw [e] <;> simp
  · rcases hb b hb' with e | e
    · rw [e] at hx
      simp only [List.mem_cons, List.not_mem_nil, or_false] at hx
      rcases hx with rfl | rfl <;> simp [exR]
    · rw [e] at hx
      simp only [List.mem_cons, List.not_mem_nil, or_false] at hx
      rcases hx with rfl | rfl <;> simp [exR]
  · rcases hb b hb' with e | e <;> rw [e] <;> simp
attribute [local irreducible] Calls in
set_option maxRecDepth 100000 in
set_option maxHeartbeats 4000000 in
theorem awake_any (w : World) : Calls Tryz.prog 6 #[] w fun e w' => e = .returned (.bool true) ∧ Gr w w' := by
  have CC := Lib.hid (code_any w)
  have LK := Lib.hid (fun (V : World) (b1 b2 : Nat) (bA A1 A2 dA : Option Addr) (hc : CRd V (some ⟨b1, 0, none⟩) [exCod bA A1 A2 dA]) (hn : RD 2 Nam.cs V (some ⟨b2, 0, none⟩) [exN]) => show Calls Tryz.prog 16 #[.slice (some ⟨b1, 0, none⟩) 1 1, .slice (some ⟨b2, 0, none⟩) 1 1] V (fun e w' => ∃ X : Prg, e = .returned (.tuple #[X.v, iv 0]) ∧ X.Rd w' ∧ X.bs.map Blk.pb = [⟨0, false, [⟨4, 1, 0, []⟩, exR]⟩, ⟨0, false, [⟨1, 1, 0, []⟩, exR]⟩] ∧ X.ss = [⟨[109], 1, 0⟩] ∧ Gr V w') from by
    refine (link_any V _ _ 1 1 1 1 [exCod bA A1 A2 dA] [exN] hc rfl (by omega) (fun x hx => ?_) (fun x hx => ?_) (ex_sp bA A1 A2 dA) hn rfl (by omega) (fun n hn => ?_)).mono ?_
    · simp only [List.mem_cons, List.not_mem_nil, or_false] at hx; subst hx; exact (ex_lim _ _ _ _).1
    · simp only [List.mem_cons, List.not_mem_nil, or_false] at hx; subst hx; exact (ex_lim _ _ _ _).2
    · simp only [List.mem_cons, List.not_mem_nil, or_false] at hn; subst hn; exact ⟨by decide, by decide⟩
    · rintro e w' ⟨X, rfl, h1, h2, h3, h4, -⟩
      rw [exV] at h2 h3 ⊢
      exact ⟨X, rfl, h1, h2, h3, h4⟩)
  go_enter Tryz.func6, Tryz.ntmps6
  go_upto_region 1 with (fail)
  unfold Cod.v at CC
  have ST := Lib.hid (fun (V : World) (X : Prg) (hX : X.Rd V) (h : X.bs.map Blk.pb = [⟨0, false, [⟨4, 1, 0, []⟩, exR]⟩, ⟨0, false, [⟨1, 1, 0, []⟩, exR]⟩]) (hs : X.ss = [⟨[109], 1, 0⟩]) => show Calls Tryz.prog 11 #[X.v, .agg #[.string ⟨#[109]⟩, .int .i64 1]] V (fun e w' => e = .returned (.tuple #[iv 0, iv 0]) ∧ Gr V w') from by
    have h2 := start_any X exN V hX (ex_len X h hs)
    rw [ex_st X h hs] at h2
    exact h2)
  unfold Prg.v at LK ST
  go_upto_region 2 with (first
    | (go_at_call 22; refine CC.out.mono ?_; rintro e w1 ⟨bA, A1, A2, dA, rfl, c1, g1⟩; have C1 := Lib.hid c1; have G1 := Lib.hid g1; clear c1 g1)
    | (go_at_call 16; refine (LK.out _ _ _ bA A1 A2 dA ⟨rd_cells (t := 65) (fun _ => rfl) (gr_h (gr_al _ _) (al_new w1 _)), fun c hc => by simp only [List.mem_cons, List.not_mem_nil, or_false] at hc; subst hc; exact C1.out.gr ((gr_al _ _).trans (gr_al _ _))⟩ (rd_cells (t := 33) (fun _ => rfl) (al_at _ _ (by simp)))).mono ?_; rintro e w2 ⟨⟨bA2, bc2, bs2, sA2, sc2, ss2⟩, rfl, x1, x2, x3, g2⟩; have XR := Lib.hid x1; have XB := Lib.hid x2; have XS := Lib.hid x3; have G2 := Lib.hid g2; clear x1 x2 x3 g2))
  obtain ⟨nb, hnb⟩ : ∃ n, bs2.length = n := ⟨_, rfl⟩
  obtain ⟨ns, hns⟩ : ∃ n, ss2.length = n := ⟨_, rfl⟩
  have hnb2 : nb = 2 := by have h := congrArg List.length XB.out; simp at h; rw [← hnb]; exact h
  subst hnb2
  simp only [hnb, hns]
  have GX := Lib.hid (G1.out.trans (((gr_al _ _).trans (gr_al _ _)).trans (G2.out.trans (gr_al w2 (.cells #[.slice bA2 2 bc2, .slice sA2 ns sc2] 26)))))
  have XR3 := Lib.hid (XR.out.below (below_of (gr_al w2 (.cells #[.slice bA2 2 bc2, .slice sA2 ns sc2] 26))))
  have X3 := Lib.hid (al_new w2 (.cells #[.slice bA2 2 bc2, .slice sA2 ns sc2] 26))
  obtain ⟨b1, hb1⟩ : ∃ m, w2.heap.size = m := ⟨_, rfl⟩
  rw [hb1] at X3 ⊢
  generalize w2.alloc (.cells #[.slice bA2 2 bc2, .slice sA2 ns sc2] 26) = W3 at *
  have SC := Lib.hid (by have h := ST.out W3 _ XR3.out XB.out XS.out; simp only [hnb, hns] at h; exact h)
  have p0 : W3.cell? ⟨b1, 0, none⟩ = some (.slice bA2 2 bc2) := by rw [Lib.cell_of_heap X3.out]; rfl
  have p1 : W3.cell? ⟨b1, 1, none⟩ = some (.slice sA2 ns sc2) := by rw [Lib.cell_of_heap X3.out]; rfl
  have HNB := Lib.hid hnb
  clear ST LK CC hnb hns hb1 XR G1 G2 C1
  go_upto_region 3 with (go_at_call 11; refine SC.out.mono ?_; rintro e W4 ⟨rfl, g4⟩; have G4 := Lib.hid g4; clear g4)
  have p0 := gr_c G4.out p0
  obtain ⟨x0, x1, hbs⟩ : ∃ x0 x1, bs2 = [x0, x1] := by
    match bs2, HNB.out with
    | [x0, x1], _ => exact ⟨x0, x1, rfl⟩
  subst hbs
  have hx0 : x0.ins = [⟨4, 1, 0, []⟩, exR] := by have h := XB.out; simp only [List.map_cons, List.map_nil, List.cons.injEq] at h; exact congrArg PB.ins h.1
  obtain ⟨a, a1, eA, ha, -, -, -, y2⟩ := (XR3.out.b.gr G4.out).blk (k := 0) (by simp)
  have hir : RD 4 Ins.cs W4 x0.A x0.ins := (XR3.out.i x0 (by simp)).gr G4.out
  obtain ⟨d, d1, eD, hd, -, z0, z1, z2, z3⟩ := hir.ins (k := 0) (by rw [hx0]; simp)
  simp only [hx0] at z0 z1 z2 z3
  simp only [List.getElem_cons_zero] at y2 z0 z1 z2 z3
  rw [hx0, eD] at y2
  have eA' : bA2 = some a := eA
  rw [eA'] at p0
  go_wp2
  go_ret
  exact ⟨rfl, GX.out.trans G4.out⟩
end Go.Proofs.YtgboboljgcfggaaGreatDoor
namespace Go.Proofs.YtgboboljgcfggaaGreatDoor
open Go.RowKit

set_option maxRecDepth 100000 in
set_option maxHeartbeats 8000000 in
theorem rcheck_any (p : Prg) (w : World) (hp : p.Rd w) (hb : p.bs.length ≤ 9223372036854775807) (hs : p.ss.length ≤ 9223372036854775807) (hi : ∀ b ∈ p.bs, b.ins.length ≤ 9223372036854775807) (hnp : ∀ s ∈ p.ss, s.pack.length ≤ 9223372036854775807) :
    Calls Tryz.prog 31 #[p.v] w fun e w' => e = .returned (.int .i64 (errP p)) ∧ Below w.heap.size w w' := by
  unfold Prg.v
  obtain ⟨W, hW⟩ : ∃ W, W = w.alloc (.cells #[.slice p.bA p.bs.length p.bc, .slice p.sA p.ss.length p.sc] 26) := ⟨_, rfl⟩
  have hB0 : Below w.heap.size w W := by rw [hW]; exact (Below.refl _ _).alloc (Nat.le_refl _) _
  have hbx : W.heap[w.heap.size]? = some (.cells #[.slice p.bA p.bs.length p.bc, .slice p.sA p.ss.length p.sc] 26 (0, 0)) := by rw [hW]; exact al_new w _
  have ALL := Lib.hid (fun (V : World) (h : Below W.heap.size W V) => show p.Rd V ∧ V.cell? ⟨w.heap.size, 0, none⟩ = some (.slice p.bA p.bs.length p.bc) ∧ V.cell? ⟨w.heap.size, 1, none⟩ = some (.slice p.sA p.ss.length p.sc) from by
    have hk := (h.block _ (heap_lt hbx)).trans hbx
    exact ⟨(hp.below hB0).below h, by rw [Lib.cell_of_heap hk]; rfl, by rw [Lib.cell_of_heap hk]; rfl⟩)
  obtain ⟨-, x0, x1⟩ := ALL.out W (Below.refl _ _)
  have HB0 := Lib.hid hB0
  have HW := Lib.hid hW
  clear hW hB0 hbx hp
  go_enter Tryz.func31, Tryz.ntmps31
  go_wp2
  rw [← HW.out]
  go_loopw [3, 4] (fun c i wr => ∃ k : Nat, k ≤ p.bs.length ∧ i = .int .i64 k ∧ c = .int .i64 (cntW (p.bs.take k)) ∧ Hid (Below W.heap.size W wr)) (fun _ i _ => p.bs.length - (intOf i).toNat)
  case atStart => exact ⟨0, Nat.zero_le _, rfl, rfl, Lib.hid (Below.refl _ _)⟩
  case round =>
    obtain ⟨k, hk, rfl, rfl, HB⟩ := hrel
    by_cases hlt : k < p.bs.length
    · obtain ⟨hpr, y0, y1⟩ := ALL.out wr HB.out
      obtain ⟨a, a1, hA, ha, hab, c0, c1, c2⟩ := hpr.b.blk hlt
      have hcs := cntW_succ hlt
      have HCS := Lib.hid hcs
      rw [hA] at y0
      clear hcs hpr x0 x1 hA
      go_wp2
      exact ⟨⟨k + 1, by omega, by simp, by rw [HCS.out], HB⟩, by simp [intOf]; omega⟩
    · obtain rfl : k = p.bs.length := by omega
      rw [List.take_length]
      obtain ⟨hpr, y0, y1⟩ := ALL.out wr HB.out
      have HB1 := Lib.hid (HB0.out.trans (HB.out.mono HB0.out.size))
      by_cases h4 : 2000 < p.bs.length ∨ 20000 < cntW p.bs
      · have hE : Hid (errP p = 4) := Lib.hid (by unfold errP; rw [if_pos h4])
        clear hpr x0 x1
        by_cases h5 : 2000 < p.bs.length
        · have z1 : (2000 : Int) < (p.bs.length : Int) := by omega
          go_wp2
          go_ret
          exact ⟨by rw [hE.out]; rfl, HB1.out⟩
        · have z1 : ¬ (2000 : Int) < (p.bs.length : Int) := by omega
          have z2 : 20000 < cntW p.bs := h4.resolve_left h5
          go_wp2
          go_ret
          exact ⟨by rw [hE.out]; rfl, HB1.out⟩
      · have z1 : ¬ (2000 : Int) < (p.bs.length : Int) := by omega
        have z2 : ¬ 20000 < cntW p.bs := fun h => h4 (.inr h)
        have hE : Hid (errP p = if fe (p.bs.map (errB p.bs)) ≠ 0 then fe (p.bs.map (errB p.bs)) else fe ((List.range p.ss.length).map (errS p.bs p.ss))) := Lib.hid (by unfold errP; rw [if_neg h4])
        clear hpr x0 x1 HB1 h4
        have FB := Lib.hid (Nat.le_refl 0)
        go_wp2
        go_loopw [5, 6, 7, 8] (fun i _ _ _ wr => ∃ k : Nat, k ≤ p.bs.length ∧ i = .int .i64 k ∧ Hid (Below W.heap.size W wr) ∧ Hid (fe ((p.bs.map (errB p.bs)).take k) = 0)) (fun i _ _ _ _ => p.bs.length - (intOf i).toNat)
        case atStart => exact ⟨0, Nat.zero_le _, rfl, HB, Lib.hid rfl⟩
        case round =>
          clear HB
          obtain ⟨k, hk, rfl, HB, HF⟩ := hrel
          by_cases hlt : k < p.bs.length
          · obtain ⟨hpr, y0', y1'⟩ := ALL.out wr HB.out
            obtain ⟨a, a1, hA, ha, hab, c0, c1, c2⟩ := hpr.b.blk hlt
            have hA' := Lib.hid hA
            obtain ⟨blk, hblk⟩ : ∃ blk, blk = p.bs[k] := ⟨_, rfl⟩
            rw [← hblk] at c0 c1 c2
            have HBK := Lib.hid hblk
            have hml : k < (p.bs.map (errB p.bs)).length := by simpa using hlt
            obtain ⟨f1, f2⟩ := fe_at hml HF.out
            rw [List.getElem_map, ← hblk] at f1 f2
            have F1 := Lib.hid f1
            have F2 := Lib.hid f2
            have hbm : blk ∈ p.bs := by rw [hblk]; exact List.getElem_mem hlt
            have hil := hi blk hbm
            have HBM := Lib.hid hbm
            have WI : ∀ V, Calls Tryz.prog 57 #[.int .i64 blk.cap, .int .i64 0, .int .i64 1000] V fun e w' => e = .returned (.bool (decide (0 ≤ blk.cap) && decide (blk.cap ≤ 1000))) ∧ w' = V := fun V => within_any blk.cap 0 1000 V
            rw [hA] at y0'
            have yl := heap_lt_cell y0'
            have y0a := fun o => cell_al y0' yl o
            have y1a := fun o => cell_al y1' yl o
            clear f1 f2 hpr hblk hA hbm y0 y1
            by_cases hc : blk.cap < 0 ∨ 1000 < blk.cap
            · have e2 : errB p.bs blk = 2 := by unfold errB; rw [if_pos hc]
              have hE2 : Hid (errP p = 2) := Lib.hid (by rw [hE.out, F1.out (by rw [e2]; decide), e2]; rfl)
              have HB1 := fun o => Lib.hid (HB0.out.trans ((HB.out.alloc HB.out.size o).mono HB0.out.size))
              clear e2
              have hw0 : (decide (0 ≤ blk.cap) && decide (blk.cap ≤ 1000)) = false := by
                rcases hc with h | h
                · simp [show ¬ 0 ≤ blk.cap by omega]
                · simp [show ¬ blk.cap ≤ 1000 by omega]
              rw [hw0] at WI
              have WI := Lib.hid WI
              clear hw0 hc
              go_wp2_with (go_at_call 57; refine (WI.out _).mono ?_; rintro e w3 ⟨rfl, rfl⟩)
              go_ret
              exact ⟨by rw [hE2.out]; rfl, (HB1 _).out⟩
            · have hc0 : ¬ blk.cap < 0 := fun h => hc (.inl h)
              have hc1 : ¬ 1000 < blk.cap := fun h => hc (.inr h)
              have eB : Hid (errB p.bs blk = fe (errI p.bs blk)) := Lib.hid (by unfold errB; rw [if_neg hc])
              have eL : (errI p.bs blk).length = blk.ins.length := by simp [errI]
              have HBA := fun o => Lib.hid (HB.out.alloc HB.out.size o)
              have kn := fun o => Lib.hid (al_new wr o)
              have hw0 : (decide (0 ≤ blk.cap) && decide (blk.cap ≤ 1000)) = true := by simp; omega
              rw [hw0] at WI
              have WI := Lib.hid WI
              clear hw0 hc hc0 hc1
              go_wp2_with (go_at_call 57; refine (WI.out _).mono ?_; rintro e w3 ⟨rfl, rfl⟩)
              generalize hM7 : wr.heap.size = M7 at *
              have kn7 := kn (.cells #[.int .i64 blk.cap, .bool blk.param, .slice blk.A blk.ins.length blk.c] 69)
              have hb7 := HBA (.cells #[.int .i64 blk.cap, .bool blk.param, .slice blk.A blk.ins.length blk.c] 69)
              clear kn HBA
              generalize wr.alloc (.cells #[.int .i64 blk.cap, .bool blk.param, .slice blk.A blk.ins.length blk.c] 69) = V7 at *
              have ALL7 := Lib.hid (fun (v : World) (h : Below V7.heap.size V7 v) => show (p.Rd v ∧ v.cell? ⟨w.heap.size, 0, none⟩ = some (.slice p.bA p.bs.length p.bc) ∧ v.cell? ⟨w.heap.size, 1, none⟩ = some (.slice p.sA p.ss.length p.sc)) ∧ v.cell? ⟨M7, 0, none⟩ = some (.int .i64 blk.cap) ∧ v.cell? ⟨M7, 1, none⟩ = some (.bool blk.param) ∧ v.cell? ⟨M7, 2, none⟩ = some (.slice blk.A blk.ins.length blk.c) ∧ Below W.heap.size W v from by
                have hk := (h.block _ (heap_lt kn7.out)).trans kn7.out
                have hb := hb7.out.trans (h.mono hb7.out.size)
                exact ⟨ALL.out v hb, by rw [Lib.cell_of_heap hk]; rfl, by rw [Lib.cell_of_heap hk]; rfl, by rw [Lib.cell_of_heap hk]; rfl, hb⟩)
              clear hM7 hb7 kn7
              go_loopw [7, 8] (fun i _ v => ∃ j : Nat, j ≤ blk.ins.length ∧ i = .int .i64 j ∧ Hid (Below V7.heap.size V7 v) ∧ Hid (fe ((errI p.bs blk).take j) = 0)) (fun i _ _ => blk.ins.length - (intOf i).toNat)
              case atStart => exact ⟨0, Nat.zero_le _, rfl, Lib.hid (Below.refl _ _), Lib.hid rfl⟩
              case round =>
                obtain ⟨j, hj, rfl, HV, HG⟩ := hrel
                obtain ⟨⟨pv, y0, y1⟩, d0, d1, d2, bv⟩ := ALL7.out _ HV.out
                by_cases hjl : j < blk.ins.length
                · obtain ⟨b', b1, hbA, hb1, hbb, i0, i1, i2, i3⟩ := (pv.i blk HBM.out).ins hjl
                  obtain ⟨x, hx⟩ : ∃ x, x = blk.ins[j] := ⟨_, rfl⟩
                  rw [← hx] at i0 i1 i2 i3
                  have hxm : x ∈ blk.ins := by rw [hx]; exact List.getElem_mem hjl
                  obtain ⟨g1, g2⟩ := fe_at (L := errI p.bs blk) (by rw [eL]; exact hjl) HG.out
                  have eg : (errI p.bs blk)[j]'(by rw [eL]; exact hjl) = ckI p.bs blk.ins.length x.op x.a x.b x.name := by simp [errI, hx]
                  rw [eg] at g1 g2
                  have G1 := Lib.hid g1
                  have G2 := Lib.hid g2
                  have CK : ∀ V, Below wr.heap.size wr V → Calls Tryz.prog 58 #[.agg #[.slice p.bA p.bs.length p.bc, .slice p.sA p.ss.length p.sc], .agg #[.int .i64 blk.cap, .bool blk.param, .slice blk.A blk.ins.length blk.c], .agg #[.int .i64 x.op, .int .i64 x.a, .int .i64 x.b, .string ⟨x.name.toArray⟩]] V fun e w' => e = .returned (.int .i64 (ckI p.bs blk.ins.length x.op x.a x.b x.name)) ∧ Below wr.heap.size wr w' := fun V hV =>
                    (instr_any p blk x.op x.a x.b x.name V (pv.below hV) hb).mono fun e w' h => ⟨h.1, hV.trans (h.2.mono hV.size)⟩
                  have bdr : Below wr.heap.size wr wr.drew := ⟨rfl, rfl, rfl, Nat.le_refl _, fun _ _ => rfl⟩
                  have BDR := Lib.hid bdr
                  have eRet : ckI p.bs blk.ins.length x.op x.a x.b x.name ≠ 0 → errP p = ckI p.bs blk.ins.length x.op x.a x.b x.name := fun h => by
                    have h1 := g1 h
                    have h2 : errB p.bs blk = ckI p.bs blk.ins.length x.op x.a x.b x.name := eB.out.trans h1
                    have h3 := F1.out (by rw [h2]; exact h)
                    rw [hE.out, h3, h2, if_pos h]
                  have ER := Lib.hid eRet
                  generalize ckI p.bs blk.ins.length x.op x.a x.b x.name = ck at *
                  have BV := Lib.hid bv
                  rw [hbA] at d2 CK
                  have CK := Lib.hid CK
                  clear g1 g2 eg hbA hx hxm pv bv bdr eRet c0 c1 c2 y0' y1' y0a y1a
                  by_cases hck : ck = 0
                  · have t1 : (ck != 0) = false := by simp [hck]
                    have G3 := Lib.hid (G2.out hck)
                    have NB : ∀ w', Below wr.heap.size wr w' → Below V7.heap.size V7 w' := fun w' h => HV.out.trans (h.mono HV.out.size)
                    have NB := Lib.hid NB
                    clear hck
                    go_wp2
                    go_still_tail 7, (by kernel_rfl)
                    change wpList _ _ _ _ _ wr.drew
                    have CK2 := Lib.hid (CK.out _ BDR.out)
                    generalize wr.drew = w5 at CK2 ⊢
                    go_wp2_with (go_at_call 58; refine CK2.out.mono ?_; rintro e w3 ⟨rfl, b3⟩; have B3 := Lib.hid b3; clear b3)
                    exact ⟨⟨j + 1, by omega, by simp, Lib.hid (NB.out _ B3.out), G3⟩, by simp [intOf]; omega⟩
                  · have t1 : (ck != 0) = true := by simpa using hck
                    have E3 := Lib.hid (ER.out hck)
                    have NB : ∀ w', Below wr.heap.size wr w' → Below w.heap.size w w' := fun w' h => HB0.out.trans ((BV.out.trans (h.mono BV.out.size)).mono HB0.out.size)
                    have NB := Lib.hid NB
                    clear hck
                    go_wp2
                    go_still_tail 7, (by kernel_rfl)
                    change wpList _ _ _ _ _ wr.drew
                    have CK2 := Lib.hid (CK.out _ BDR.out)
                    generalize wr.drew = w5 at CK2 ⊢
                    go_wp2_with (go_at_call 58; refine CK2.out.mono ?_; rintro e w3 ⟨rfl, b3⟩; have B3 := Lib.hid b3; clear b3)
                    go_ret
                    exact ⟨by rw [E3.out]; rfl, NB.out _ B3.out⟩
                · obtain rfl : j = blk.ins.length := by omega
                  have h0 := HG.out
                  rw [← eL, List.take_length] at h0
                  have F3 := Lib.hid (F2.out (by rw [eB.out]; exact h0))
                  have BV := Lib.hid bv
                  clear h0 pv bv c0 c1 c2 y0' y1' y0a y1a
                  go_wp2
                  exact ⟨⟨k + 1, by omega, by simp, BV, F3⟩, by simp [intOf]; omega⟩
          · obtain rfl : k = p.bs.length := by omega
            have h0 := HF.out
            rw [show (p.bs.map (errB p.bs)).take p.bs.length = p.bs.map (errB p.bs) from List.take_of_length_le (by simp)] at h0
            have hE3 : Hid (errP p = fe ((List.range p.ss.length).map (errS p.bs p.ss))) := Lib.hid (by rw [hE.out, h0]; rfl)
            obtain ⟨hpr, y0, y1⟩ := ALL.out wr HB.out
            clear h0 HF hE hpr
            go_wp2
            clear y0 y1
            go_loopw [9, 10] (fun i _ wr => ∃ k : Nat, k ≤ p.ss.length ∧ i = .int .i64 k ∧ Hid (Below W.heap.size W wr) ∧ Hid (fe (((List.range p.ss.length).map (errS p.bs p.ss)).take k) = 0)) (fun i _ _ => p.ss.length - (intOf i).toNat)
            case atStart => exact ⟨0, Nat.zero_le _, rfl, HB, Lib.hid rfl⟩
            case round =>
              clear HB
              obtain ⟨k, hk, rfl, HB, HF⟩ := hrel
              by_cases hlt : k < p.ss.length
              · obtain ⟨hpr, y0, y1⟩ := ALL.out _ HB.out
                obtain ⟨a, a1, hA, ha, hab, c0, c1, c2⟩ := hpr.s.stt hlt
                obtain ⟨s, hs'⟩ : ∃ s, s = p.ss[k] := ⟨_, rfl⟩
                rw [← hs'] at c0 c1 c2
                have hsm : s ∈ p.ss := by rw [hs']; exact List.getElem_mem hlt
                have hsk : p.ss[k]? = some s := by rw [hs']; simp [hlt]
                obtain ⟨f1, f2⟩ := fe_at (L := (List.range p.ss.length).map (errS p.bs p.ss)) (by simpa using hlt) HF.out
                have eg : ((List.range p.ss.length).map (errS p.bs p.ss))[k]'(by simpa using hlt) = errS p.bs p.ss k := by simp
                rw [eg] at f1 f2
                have ER : Hid (errS p.bs p.ss k ≠ 0 → errP p = errS p.bs p.ss k) := Lib.hid fun h => hE3.out.trans (f1 h)
                have F2 := Lib.hid f2
                rw [hA] at y1
                have yl := heap_lt_cell y0
                have y0a := fun o => cell_al y0 yl o
                have y1a := fun o => cell_al y1 yl o
                have LA : ∀ V, Calls Tryz.prog 59 #[tv s.pack] V fun e w' => e = .returned (.bool (lab s.pack)) ∧ w' = V := fun V => rLabel_any s.pack V (hnp s hsm)
                have LA := Lib.hid LA
                have HSK := Lib.hid hsk
                have HPR := Lib.hid hpr
                have HA := Lib.hid hA
                have NB : ∀ o w', Below (wr.alloc o).heap.size (wr.alloc o) w' → Below W.heap.size W w' ∧ Below w.heap.size w w' := fun o w' h => by
                  have h1 := HB.out.trans (((bAl wr o).trans (h.mono (by simp))).mono HB.out.size)
                  exact ⟨h1, HB0.out.trans (h1.mono HB0.out.size)⟩
                have N0 := Lib.hid (fun o => NB o _ (Below.refl _ _))
                have NB := Lib.hid NB
                have hwl : IntKind.i64.wrap ((p.bs.length : Int) - 1) = (p.bs.length : Int) - 1 := IntWalk.i64_in _ (by omega)
                have W1 : ∀ V, Calls Tryz.prog 57 #[.int .i64 s.id, .int .i64 1, .int .i64 999999] V fun e w' => e = .returned (.bool (decide (1 ≤ s.id) && decide (s.id ≤ 999999))) ∧ w' = V := fun V => within_any s.id 1 999999 V
                have W2 : ∀ V, Calls Tryz.prog 57 #[.int .i64 s.block, .int .i64 0, .int .i64 ((p.bs.length : Int) - 1)] V fun e w' => e = .returned (.bool (decide (0 ≤ s.block) && decide (s.block ≤ (p.bs.length : Int) - 1))) ∧ w' = V := fun V => within_any s.block 0 _ V
                clear f1 f2 eg hsm hsk hpr hA hs'
                cases hlab : lab s.pack with
                | false =>
                  have E6 : Hid (errP p = 6) := Lib.hid (by
                    have : errS p.bs p.ss k = 6 := by unfold errS; rw [HSK.out]; simp only [hlab, if_true]
                    rw [ER.out (by rw [this]; decide), this])
                  rw [hlab] at LA
                  clear hlab W1 W2 hwl
                  go_wp2_with (go_at_call 59; refine (LA.out _).mono ?_; rintro e w3 ⟨rfl, rfl⟩)
                  go_ret
                  exact ⟨by rw [E6.out]; rfl, (N0.out _).2⟩
                | true =>
                  rw [hlab] at LA
                  have E2 : (s.id < 1 ∨ 999999 < s.id ∨ plainB p.bs s.block = false) → errP p = 2 := fun hbad => by
                    have : errS p.bs p.ss k = 2 := by unfold errS; rw [HSK.out]; simp only [hlab, Bool.true_eq_false, if_false, if_pos hbad]
                    rw [ER.out (by rw [this]; decide), this]
                  have E2 := Lib.hid E2
                  by_cases hb1 : 1 ≤ s.id ∧ s.id ≤ 999999
                  · have r1 : (decide (1 ≤ s.id) && decide (s.id ≤ 999999)) = true := by simp [hb1.1, hb1.2]
                    rw [r1] at W1
                    have W1 := Lib.hid W1
                    by_cases hb2 : 0 ≤ s.block ∧ s.block ≤ (p.bs.length : Int) - 1
                    · have r2 : (decide (0 ≤ s.block) && decide (s.block ≤ (p.bs.length : Int) - 1)) = true := by simp [hb2.1, hb2.2]
                      rw [r2] at W2
                      have W2 := Lib.hid W2
                      obtain ⟨m, hm⟩ : ∃ m : Nat, s.block = m := ⟨s.block.toNat, by omega⟩
                      have hml : m < p.bs.length := by omega
                      obtain ⟨ab, ab1, hbA, hab1, habb, d0, d1, d2⟩ := HPR.out.b.blk hml
                      obtain ⟨bk, hbk⟩ : ∃ bk, bk = p.bs[m] := ⟨_, rfl⟩
                      rw [← hbk] at d0 d1 d2
                      have hpl : plainB p.bs s.block = ((bk.cap == 0) && !bk.param) := by
                        unfold plainB
                        rw [hm, hbk]
                        simp [hml]
                      have e0 := fun o => cell_al d0 habb o
                      have e1' := fun o => cell_al d1 habb o
                      have e2' := fun o => cell_al d2 habb o
                      rw [hbA] at y0 y0a
                      have RPL : ∀ V, Calls Tryz.prog 60 #[.agg #[.int .i64 bk.cap, .bool bk.param, .slice bk.A bk.ins.length bk.c]] V fun e w' => e = .returned (.bool ((bk.cap == 0) && !bk.param)) ∧ Below V.heap.size V w' := fun V => rPlain_any bk V
                      rw [hm] at W2
                      have m1 : (0 : Int) ≤ (m : Int) := by omega
                      have m2 : (m : Int) < (p.bs.length : Int) := by omega
                      have m3 : ((m : Int)).toNat = m := by omega
                      rw [hm] at c2
                      have BOX : ∀ w', Below (wr.alloc (.cells #[.string ⟨s.pack.toArray⟩, .int .i64 s.id, .int .i64 m] 79)).heap.size (wr.alloc (.cells #[.string ⟨s.pack.toArray⟩, .int .i64 s.id, .int .i64 m] 79)) w' → w'.cell? ⟨wr.heap.size, 0, none⟩ = some (.string ⟨s.pack.toArray⟩) ∧ w'.cell? ⟨wr.heap.size, 1, none⟩ = some (.int .i64 s.id) ∧ w'.cell? ⟨wr.heap.size, 2, none⟩ = some (.int .i64 m) ∧ w'.cell? ⟨w.heap.size, 1, none⟩ = some (.slice (some a) p.ss.length p.sc) := fun w' h => by
                        have k3 := (h.block wr.heap.size (by simp)).trans (al_new wr _)
                        obtain ⟨_, k4, k5⟩ := ALL.out w' (NB.out _ _ h).1
                        rw [HA.out] at k5
                        exact ⟨by rw [Lib.cell_of_heap k3]; rfl, by rw [Lib.cell_of_heap k3]; rfl, by rw [Lib.cell_of_heap k3]; rfl, k5⟩
                      have BOX := Lib.hid BOX
                      clear d0 d1 d2 r1 r2 hbA
                      cases hpp : ((bk.cap == 0) && !bk.param) with
                      | false =>
                        have E3 := Lib.hid (E2.out (.inr (.inr (hpl.trans hpp))))
                        rw [hpp] at RPL
                        have RPL := Lib.hid RPL
                        clear hpl hpp hlab hb1 hb2 hm hbk
                        go_wp2_with (first | (go_at_call 59; refine (LA.out _).mono ?_; rintro e w3 ⟨rfl, rfl⟩) | (go_at_call 57; with_reducible refine (W1.out _).mono ?_; rintro e w3 ⟨rfl, rfl⟩) | (go_at_call 57; with_reducible refine (W2.out _).mono ?_; rintro e w3 ⟨rfl, rfl⟩) | (go_at_call 60; refine (RPL.out _).mono ?_; rintro e w4 ⟨rfl, b4⟩; have B4 := Lib.hid (NB.out _ _ b4); clear b4))
                        go_ret
                        exact ⟨by rw [E3.out]; rfl, B4.out.2⟩
                      | true =>
                        rw [hpp] at RPL
                        have RPL := Lib.hid RPL
                        have ES : Hid (errS p.bs p.ss k = ordS p.ss s k) := Lib.hid (by
                          unfold errS
                          rw [HSK.out]
                          have hbad : ¬ (s.id < 1 ∨ 999999 < s.id ∨ plainB p.bs s.block = false) := by
                            rw [hpl, hpp]
                            simp
                            omega
                          simp only [hlab, Bool.true_eq_false, if_false, if_neg hbad])
                        clear hpl hpp hlab hb1 hb2 hm hbk E2
                        go_wp2_with (first | (go_at_call 59; refine (LA.out _).mono ?_; rintro e w3 ⟨rfl, rfl⟩) | (go_at_call 57; with_reducible refine (W1.out _).mono ?_; rintro e w3 ⟨rfl, rfl⟩) | (go_at_call 57; with_reducible refine (W2.out _).mono ?_; rintro e w3 ⟨rfl, rfl⟩) | (go_at_call 60; refine (RPL.out _).mono ?_; rintro e w4 ⟨rfl, b4⟩; obtain ⟨q0, q1, q2, q4⟩ := BOX.out w4 b4; have B4 := Lib.hid (NB.out _ _ b4); clear b4))
                        by_cases hk0 : k = 0
                        · subst hk0
                          have F3 := Lib.hid (F2.out (by rw [ES.out]; rfl))
                          have D4 := Lib.hid (fun n => show Below W.heap.size W (w4.drewN n) from ⟨B4.out.1.os, B4.out.1.tape, B4.out.1.output, B4.out.1.size, B4.out.1.block⟩)
                          clear ES ER
                          go_quiet (fail)
                          go_wp2
                          exact ⟨⟨1, by omega, rfl, Lib.hid (D4.out _), F3⟩, by simp [intOf]; omega⟩
                        · obtain ⟨j, hkj⟩ : ∃ j, k = j + 1 := ⟨k - 1, by omega⟩
                          have hjl : j < p.ss.length := by omega
                          obtain ⟨a', e1, hA', he1, heb, v0, v1, v2⟩ := (ALL.out w4 B4.out.1).1.s.stt hjl
                          obtain rfl : a' = a := by have := HA.out; rw [hA'] at this; exact Option.some.inj this
                          obtain ⟨q, hq⟩ : ∃ q, q = p.ss[j] := ⟨_, rfl⟩
                          rw [← hq] at v0 v1 v2
                          have hqk : p.ss[j]? = some q := by rw [hq]; simp [hjl]
                          have eo : errS p.bs p.ss k = if nmLt q.pack q.id s.pack s.id then 0 else 10 := by
                            rw [ES.out, hkj, ordS_succ hqk]
                          have CMP : ∀ V, Calls Tryz.prog 61 #[.agg #[.string ⟨q.pack.toArray⟩, .int .i64 q.id], .agg #[.string ⟨s.pack.toArray⟩, .int .i64 s.id]] V fun e w' => e = .returned (.bool (nmLt q.pack q.id s.pack s.id)) ∧ Below V.heap.size V w' := fun V => less_any q.pack q.id s.pack s.id V
                          have EO := Lib.hid eo
                          have w1' : IntKind.i64.wrap ((k : Int) - 1) = (j : Int) := by rw [IntWalk.i64_in _ (by omega)]; omega
                          have w2' : (0 : Int) < (k : Int) := by omega
                          have w2n : 0 < k := by omega
                          have w3' : ((j : Int)).toNat = j := by omega
                          have w4' : (0 : Int) ≤ (j : Int) := by omega
                          have w5' : (j : Int) < (p.ss.length : Int) := by omega
                          have D4 := Lib.hid (fun n (w' : World) (h : Below (w4.drewN n).heap.size (w4.drewN n) w') => show Below W.heap.size W w' ∧ Below w.heap.size w w' from by
                            have h1 : Below W.heap.size W w' := B4.out.1.trans (Below.mono (⟨h.os, h.tape, h.output, h.size, h.block⟩ : Below w4.heap.size w4 w') B4.out.1.size)
                            exact ⟨h1, HB0.out.trans (h1.mono HB0.out.size)⟩)
                          generalize nmLt q.pack q.id s.pack s.id = LT at *
                          clear eo hqk hq hA' hkj ES
                          cases LT with
                          | true =>
                            have CMP := Lib.hid CMP
                            have F3 := Lib.hid (F2.out (by rw [EO.out]; rfl))
                            go_still_tail 12, (by kernel_rfl)
                            change wpList _ _ _ _ _ w4.drew
                            generalize hw5 : w4.drew = w5
                            have d5 : ∀ w', Below w5.heap.size w5 w' → Below W.heap.size W w' ∧ Below w.heap.size w w' := fun w' h => D4.out 1 w' (by subst hw5; exact h)
                            have D5 := Lib.hid d5
                            clear d5 hw5 D4
                            go_wp2_with (go_at_call 61; refine (CMP.out _).mono ?_; rintro e w6 ⟨rfl, b6⟩; have B6 := Lib.hid (D5.out _ b6); clear b6)
                            exact ⟨⟨k + 1, by omega, by simp, Lib.hid B6.out.1, F3⟩, by simp [intOf]; omega⟩
                          | false =>
                            have CMP := Lib.hid CMP
                            have E10 : Hid (errP p = 10) := Lib.hid (by rw [ER.out (by rw [EO.out]; decide), EO.out]; rfl)
                            go_still_tail 12, (by kernel_rfl)
                            change wpList _ _ _ _ _ w4.drew
                            generalize hw5 : w4.drew = w5
                            have d5 : ∀ w', Below w5.heap.size w5 w' → Below W.heap.size W w' ∧ Below w.heap.size w w' := fun w' h => D4.out 1 w' (by subst hw5; exact h)
                            have D5 := Lib.hid d5
                            clear d5 hw5 D4
                            go_wp2_with (go_at_call 61; refine (CMP.out _).mono ?_; rintro e w6 ⟨rfl, b6⟩; have B6 := Lib.hid (D5.out _ b6); clear b6)
                            go_ret
                            exact ⟨by rw [E10.out]; rfl, B6.out.2⟩
                    · have r2 : (decide (0 ≤ s.block) && decide (s.block ≤ (p.bs.length : Int) - 1)) = false := by
                        rcases Decidable.not_and_iff_not_or_not.1 hb2 with h | h
                        · simp [h]
                        · simp [h]
                      rw [r2] at W2
                      have W2 := Lib.hid W2
                      have E3 := Lib.hid (E2.out (.inr (.inr (by
                        unfold plainB
                        rcases Decidable.not_and_iff_not_or_not.1 hb2 with h | h
                        · simp [h]
                        · rw [List.getElem?_eq_none (show p.bs.length ≤ s.block.toNat by omega)]; simp))))
                      clear hb1 hb2 r1 r2 hlab
                      go_wp2_with (first | (go_at_call 59; refine (LA.out _).mono ?_; rintro e w3 ⟨rfl, rfl⟩) | (go_at_call 57; with_reducible refine (W1.out _).mono ?_; rintro e w3 ⟨rfl, rfl⟩) | (go_at_call 57; with_reducible refine (W2.out _).mono ?_; rintro e w3 ⟨rfl, rfl⟩))
                      go_ret
                      exact ⟨by rw [E3.out]; rfl, (N0.out _).2⟩
                  · have r1 : (decide (1 ≤ s.id) && decide (s.id ≤ 999999)) = false := by
                      rcases Decidable.not_and_iff_not_or_not.1 hb1 with h | h
                      · simp [h]
                      · simp [h]
                    rw [r1] at W1
                    have W1 := Lib.hid W1
                    have E3 := Lib.hid (E2.out (by omega))
                    clear hb1 r1 hlab W2
                    go_wp2_with (first | (go_at_call 59; refine (LA.out _).mono ?_; rintro e w3 ⟨rfl, rfl⟩) | (go_at_call 57; with_reducible refine (W1.out _).mono ?_; rintro e w3 ⟨rfl, rfl⟩))
                    go_ret
                    exact ⟨by rw [E3.out]; rfl, (N0.out _).2⟩
              · obtain rfl : k = p.ss.length := by omega
                have h0 := HF.out
                rw [List.take_of_length_le (by simp)] at h0
                obtain ⟨-, y0, y1⟩ := ALL.out _ HB.out
                have E0 : Hid (errP p = 0) := Lib.hid (by rw [hE3.out, h0])
                have HB1 := Lib.hid (HB0.out.trans (HB.out.mono HB0.out.size))
                clear h0
                go_wp2
                go_ret
                exact ⟨by rw [E0.out]; rfl, HB1.out⟩
end Go.Proofs.YtgboboljgcfggaaGreatDoor
namespace Go.Proofs.YtgboboljgcfggaaGreatDoor
open Go.RowKit Go.Maps

def SmB (b : Blk) : Prop := b.ins.length ≤ 100 ∧ ∀ x ∈ b.ins, x.name.length ≤ 120
/-- A code of the sizes of the statements. -/
structure SmC (c : Cod) : Prop where
  l : c.label.length ≤ 120
  d : c.ds.length ≤ 20
  b : c.bs.length ≤ 60
  i : ∀ b ∈ c.bs, SmB b
/-- What Great answers: false only where it is small. -/
def GtP (P : Prop) (w : World) (e : Ending) (w' : World) : Prop := Gr w w' ∧ ∃ g : Bool, e = .returned (.bool g) ∧ (g = false → P)
theorem gt_yes {P : Prop} {w w' : World} (g : Gr w w') : GtP P w (.returned (.bool true)) w' := ⟨g, true, rfl, fun h => by cases h⟩
theorem gt_no {P : Prop} {w w' : World} (g : Gr w w') (h : P) : GtP P w (.returned (.bool false)) w' := ⟨g, false, rfl, fun _ => h⟩
theorem gt_any {P : Prop} {w w' : World} {b : Bool} (g : Gr w w') (h : b = false → P) : GtP P w (.returned (.bool b)) w' := ⟨g, b, rfl, h⟩
theorem SmC.lim {c : Cod} (h : SmC c) : c.Lim := ⟨by have := h.l; omega, by have := h.b; omega, by have := h.d; omega, fun b hb => by have := (h.i b hb).1; omega, fun b hb x hx => by have := (h.i b hb).2 x hx; omega⟩
set_option maxRecDepth 100000 in
set_option maxHeartbeats 4000000 in
theorem greatB_any (Ad : Option Addr) (cp : Nat) (bs : List Blk) (w : World) (hb : RD 3 Blk.cs w Ad bs) (hi : ∀ b ∈ bs, RD 4 Ins.cs w b.A b.ins) : Calls Tryz.prog 68 #[.slice Ad bs.length cp] w (GtP (bs.length ≤ 60 ∧ ∀ b ∈ bs, SmB b) w) := by
  obtain ⟨n, hn⟩ : ∃ n, bs.length = n := ⟨_, rfl⟩
  have HN := Lib.hid hn
  have HB := Lib.hid hb
  have HI := Lib.hid hi
  rw [hn]
  clear hb hi hn
  by_cases h60 : 60 < n
  · go_enter Tryz.func68, Tryz.ntmps68
    go_wp2
    go_ret
    exact gt_yes (gr_refl _)
  · go_enter Tryz.func68, Tryz.ntmps68
    go_wp2
    go_loop [3] (fun u => ∃ k : Nat, k ≤ n ∧ u = .int .i64 k ∧ Hid (∀ b ∈ bs.take k, SmB b)) (fun u => n - (intOf u).toNat)
    case atStart => exact ⟨0, Nat.zero_le _, rfl, Lib.hid (by simp)⟩
    case round =>
      obtain ⟨k, hk, rfl, HG⟩ := hrel
      by_cases hlt : k < n
      · obtain ⟨b, hbk⟩ : ∃ b, bs[k]? = some b := ⟨_, List.getElem?_eq_getElem (by rw [HN.out]; exact hlt)⟩
        obtain ⟨a, a1, rfl, ha, hab, y0, y1, y2⟩ := HB.out.blk (k := k) (by rw [HN.out]; exact hlt)
        have hbi : bs[k]'(by rw [HN.out]; exact hlt) = b := by rw [List.getElem?_eq_getElem (by rw [HN.out]; exact hlt)] at hbk; exact Option.some.inj hbk
        rw [hbi] at y0 y1 y2
        have HBK := Lib.hid hbk
        obtain ⟨m, hm⟩ : ∃ m, b.ins.length = m := ⟨_, rfl⟩
        have HM := Lib.hid hm
        have HR := Lib.hid (HI.out b (List.mem_of_getElem? hbk))
        rw [hm] at y2
        obtain ⟨bA, hbA⟩ : ∃ x, b.A = x := ⟨_, rfl⟩
        rw [hbA] at y2 HR
        clear hbi hbk hm hbA
        by_cases h100 : 100 < m
        · go_wp2
          go_ret
          exact gt_yes (gr_refl _)
        · go_wp2
          go_loop [4] (fun u => ∃ j : Nat, j ≤ m ∧ u = .int .i64 j ∧ Hid (∀ x ∈ b.ins.take j, x.name.length ≤ 120)) (fun u => m - (intOf u).toNat)
          case atStart => exact ⟨0, Nat.zero_le _, rfl, Lib.hid (by simp)⟩
          case round =>
            obtain ⟨j, hj, rfl, HJ⟩ := hrel
            by_cases hjt : j < m
            · obtain ⟨x, hx⟩ : ∃ x, b.ins[j]? = some x := ⟨_, List.getElem?_eq_getElem (by rw [HM.out]; exact hjt)⟩
              obtain ⟨d, d1, eD, hd, -, z0, z1, z2, z3⟩ := HR.out.ins (k := j) (by rw [HM.out]; exact hjt)
              have hxi : b.ins[j]'(by rw [HM.out]; exact hjt) = x := by rw [List.getElem?_eq_getElem (by rw [HM.out]; exact hjt)] at hx; exact Option.some.inj hx
              rw [hxi] at z0 z1 z2 z3
              rw [eD] at y2
              have NX := Lib.hid (show x.name.length ≤ 120 → ∀ y ∈ b.ins.take (j + 1), y.name.length ≤ 120 from fun h y hy => by
                rw [List.take_add_one, hx, List.mem_append] at hy
                rcases hy with hy | hy
                · exact HJ.out y hy
                · simp at hy; subst hy; exact h)
              clear hxi hx
              by_cases h120 : 120 < x.name.length
              · have h120' : (120 : Int) < (x.name.length : Int) := by omega
                go_wp2
                go_ret
                exact gt_yes (gr_refl _)
              · have h120' : ¬ (120 : Int) < (x.name.length : Int) := by omega
                have N2 := Lib.hid (NX.out (by omega))
                go_wp2
                exact ⟨⟨j + 1, by omega, by simp, N2⟩, by simp [intOf]; omega⟩
            · obtain rfl : m = j := by omega
              have NB := Lib.hid (show ∀ y ∈ bs.take (k + 1), SmB y from fun y hy => by
                rw [List.take_add_one, HBK.out, List.mem_append] at hy
                rcases hy with hy | hy
                · exact HG.out y hy
                · simp at hy
                  subst hy
                  have h := HJ.out
                  rw [List.take_of_length_le (Nat.le_of_eq HM.out)] at h
                  exact ⟨by rw [HM.out]; omega, h⟩)
              go_wp2
              exact ⟨⟨k + 1, by omega, by simp, NB⟩, by simp [intOf]; omega⟩
      · obtain rfl : n = k := by omega
        go_wp2
        go_ret
        refine gt_no (gr_refl _) ⟨by omega, ?_⟩
        have h := HG.out
        rwa [List.take_of_length_le (Nat.le_of_eq HN.out)] at h
set_option maxRecDepth 100000 in
set_option maxHeartbeats 4000000 in
theorem greatC_any (c : Cod) (w : World) (hc : c.Rd w) : Calls Tryz.prog 39 #[.agg #[.string ⟨c.label.toArray⟩, .slice c.bA c.bs.length c.bc, .slice c.dA c.ds.length c.dc]] w (GtP (SmC c) w) := by
  have hb := al_new w (.cells #[.string ⟨c.label.toArray⟩, .slice c.bA c.bs.length c.bc, .slice c.dA c.ds.length c.dc] 65)
  have G0 := Lib.hid (gr_al w (.cells #[.string ⟨c.label.toArray⟩, .slice c.bA c.bs.length c.bc, .slice c.dA c.ds.length c.dc] 65))
  have GB := Lib.hid (greatB_any c.bA c.bc c.bs (w.alloc (.cells #[.string ⟨c.label.toArray⟩, .slice c.bA c.bs.length c.bc, .slice c.dA c.ds.length c.dc] 65)) (hc.b.gr G0.out) (fun b hb => (hc.i b hb).gr G0.out))
  have c0 : (w.alloc (.cells #[.string ⟨c.label.toArray⟩, .slice c.bA c.bs.length c.bc, .slice c.dA c.ds.length c.dc] 65)).cell? ⟨w.heap.size, 0, none⟩ = some (.string ⟨c.label.toArray⟩) := by rw [Lib.cell_of_heap hb]; rfl
  have c1 : (w.alloc (.cells #[.string ⟨c.label.toArray⟩, .slice c.bA c.bs.length c.bc, .slice c.dA c.ds.length c.dc] 65)).cell? ⟨w.heap.size, 1, none⟩ = some (.slice c.bA c.bs.length c.bc) := by rw [Lib.cell_of_heap hb]; rfl
  have c2 : (w.alloc (.cells #[.string ⟨c.label.toArray⟩, .slice c.bA c.bs.length c.bc, .slice c.dA c.ds.length c.dc] 65)).cell? ⟨w.heap.size, 2, none⟩ = some (.slice c.dA c.ds.length c.dc) := by rw [Lib.cell_of_heap hb]; rfl
  clear hb hc
  by_cases h1 : 120 < c.label.length
  · have h1' : (120 : Int) < (c.label.length : Int) := by omega
    go_enter Tryz.func39, Tryz.ntmps39
    go_wp2
    go_ret
    exact gt_yes G0.out
  · have h1' : ¬ (120 : Int) < (c.label.length : Int) := by omega
    by_cases h2 : 20 < c.ds.length
    · have h2' : (20 : Int) < (c.ds.length : Int) := by omega
      go_enter Tryz.func39, Tryz.ntmps39
      go_wp2
      go_ret
      exact gt_yes G0.out
    · have h2' : ¬ (20 : Int) < (c.ds.length : Int) := by omega
      go_enter Tryz.func39, Tryz.ntmps39
      go_wp2_with (go_at_call 68; refine GB.out.mono ?_; rintro e w1 ⟨g1, g, rfl, hg⟩; have G1 := Lib.hid g1; have HG := Lib.hid hg; clear hg g1)
      go_ret
      exact gt_any (G0.out.trans G1.out) fun h => ⟨by omega, by omega, (HG.out h).1, (HG.out h).2⟩
set_option maxRecDepth 100000 in
set_option maxHeartbeats 4000000 in
theorem great_any (Ad : Option Addr) (cp : Nat) (L : List Cod) (w : World) (hL : CRd w Ad L) (hl : L.length ≤ 9223372036854775807) : Calls Tryz.prog 15 #[.slice Ad L.length cp] w (GtP (L.length ≤ 4 ∧ ∀ c ∈ L, SmC c) w) := by
  obtain ⟨n, hn⟩ : ∃ n, L.length = n := ⟨_, rfl⟩
  have HN := Lib.hid hn
  have HL := Lib.hid (fun V (g : Gr w V) => hL.gr g)
  rw [hn] at hl ⊢
  clear hL hn
  go_enter Tryz.func15, Tryz.ntmps15
  go_wp2
  go_loopw [3] (fun u V => ∃ k : Nat, k ≤ n ∧ u = .int .i64 k ∧ Hid (Gr w V ∧ ∀ c ∈ L.take k, SmC c)) (fun u _ => n - (intOf u).toNat)
  case atStart => exact ⟨0, Nat.zero_le _, rfl, Lib.hid ⟨gr_refl _, by simp⟩⟩
  case round =>
    obtain ⟨k, hk, rfl, HG⟩ := hrel
    by_cases hlt : k < n
    · obtain ⟨c, hc⟩ : ∃ c, L[k]? = some c := ⟨_, List.getElem?_eq_getElem (by rw [HN.out]; exact hlt)⟩
      obtain ⟨a, a1, rfl, ha, hab, y0, y1, y2⟩ := (HL.out _ HG.out.1).rd.cod (k := k) (by rw [HN.out]; exact hlt)
      have hci : L[k]'(by rw [HN.out]; exact hlt) = c := by rw [List.getElem?_eq_getElem (by rw [HN.out]; exact hlt)] at hc; exact Option.some.inj hc
      rw [hci] at y0 y1 y2
      have GC := Lib.hid (greatC_any c wr ((HL.out _ HG.out.1).c c (List.mem_of_getElem? hc)))
      have NX := Lib.hid (show SmC c → ∀ y ∈ L.take (k + 1), SmC y from fun h y hy => by
        rw [List.take_add_one, hc, List.mem_append] at hy
        rcases hy with hy | hy
        · exact HG.out.2 y hy
        · simp at hy; subst hy; exact h)
      clear hci hc
      go_wp2_with (go_at_call 39; refine GC.out.mono ?_; rintro e w1 ⟨g1, g, rfl, hg⟩; have G1 := Lib.hid g1; have HH := Lib.hid hg; clear g1 hg; cases g)
      · exact ⟨⟨k + 1, by omega, by simp, Lib.hid ⟨HG.out.1.trans G1.out, NX.out (HH.out (by simp))⟩⟩, by simp [intOf]; omega⟩
      · go_ret
        exact gt_yes (HG.out.1.trans G1.out)
    · obtain rfl : n = k := by omega
      have FIN := Lib.hid (show ∀ c ∈ L, SmC c from by have h := HG.out.2; rwa [List.take_of_length_le (Nat.le_of_eq HN.out)] at h)
      go_wp2
      go_ret
      refine gt_any HG.out.1 fun h => ⟨?_, FIN.out⟩
      simp at h
      omega
end Go.Proofs.YtgboboljgcfggaaGreatDoor
namespace Go.Proofs.YtgboboljgcfggaaGreatDoor
open Go.ChangeShapes Go.WideShapes Go.ChangeAt Go.RowKit Go.Joins Go.Deep

theorem own : ownKnob Tryz.prog.godebug = none := by kernel_rfl
theorem laidOut : laidOutB Tryz.prog = true := by kernel_rfl

section
variable {H : Type} {enc : TypeId × Value → H} {P : Program} {W : World} {base : Nat} {spare : Nat → Bool} {held : Bool}
/-- A slice of records that came in. -/
theorem open_recs {α : Type} [Inhabited α] {t e : TypeId} {n : Nat} {cs : α → List Value} {ok : α → Prop} (ht : P.underlying t = some (.slice e)) (hn : P.cellsOf e = n) (h0 : 0 < n)
    (hr : ∀ (k : Nat) (vs : List Value) (y : DataW H × List MemPlace), DataW.trod enc P W base spare held k e vs = some y → vs.length = n → ∃ x : α, vs = cs x ∧ ok x)
    {fuel : Nat} {v : Value} {x : DataW H × List MemPlace} (h : DataW.trod enc P W base spare held fuel t [v] = some x) :
    ∃ (A : Option Addr) (c : Nat) (L : List α), v = .slice A L.length c ∧ L.length ≤ 9223372036854775807 ∧ RD n cs W A L ∧ ∀ x ∈ L, ok x := by
  rcases open_slice ht h with ⟨e1, _⟩ | ⟨a, len, cap, m, k, D, Pl, e1, hb, hl, hm, hmm, _, hx⟩
  · have e1 : v = .slice none 0 0 := by simpa using e1
    exact ⟨none, 0, [], e1, by simp, .inl rfl, by simp⟩
  · have e1 : v = .slice (some a) len cap := by simpa using e1
    have hlm : len ≤ m := by rw [hmm]; split <;> omega
    have hm' : cap ≤ 9223372036854775807 := by unfold maxLen at hm; omega
    rw [hn] at hx
    obtain ⟨X, hX⟩ := choose_lt (α := α) (n := m) (p := fun i x => (∀ j v, (cs x)[j]? = some v → W.cell? (a.add (i * n + j)) = some v) ∧ (cs x).length = n ∧ ok x) (fun i hi => by
      obtain ⟨cs', h1, h2⟩ := hx i hi
      obtain ⟨_, hlen, hcell⟩ := World.cells?_some h1
      obtain ⟨x, rfl, hok⟩ := hr k cs' _ h2 hlen
      refine ⟨x, fun j v hj => ?_, hlen, hok⟩
      have hjn : j < n := by
        rcases Nat.lt_or_ge j n with h' | h'
        · exact h'
        · rw [List.getElem?_eq_none (by omega)] at hj; cases hj
      rw [← add_add', hcell j hjn]
      exact hj)
    refine ⟨some a, cap, (List.range len).map X, by simpa using e1, by simp; omega, ?_, fun x hx' => ?_⟩
    · rcases Nat.eq_zero_or_pos len with h9 | h9
      · left; subst h9; simp
      · refine .inr ⟨a, rfl, ?_, fun j y hj i v hi => ?_⟩
        · obtain ⟨h1, h2, _⟩ := hX 0 (by omega)
          have h3 := h1 0 _ (List.getElem?_eq_getElem (by omega))
          have := World.block_lt_of_cell? W _ h3
          rwa [add_block] at this
        · rw [List.getElem?_map] at hj
          by_cases hjl : j < len
          · rw [List.getElem?_range hjl] at hj
            simp only [Option.map_some, Option.some.injEq] at hj
            subst hj
            exact (hX j (by omega)).1 i v hi
          · rw [List.getElem?_eq_none (by simp; omega)] at hj; simp at hj
    · obtain ⟨i, hi, rfl⟩ := List.mem_map.1 hx'
      rw [List.mem_range] at hi
      exact (hX i (by omega)).2.2
end
section
variable {H : Type} {enc : TypeId × Value → H} {W : World} {base : Nat} {spare : Nat → Bool} {held : Bool}
instance : Inhabited Ins := ⟨⟨0, 0, 0, []⟩⟩
instance : Inhabited Stt := ⟨⟨[], 0, 0⟩⟩
instance : Inhabited Blk := ⟨⟨0, false, none, 0, []⟩⟩
instance : Inhabited Dcl := ⟨⟨0, 0, 0⟩⟩
instance : Inhabited Cod := ⟨⟨[], none, 0, [], none, 0, []⟩⟩
instance : Inhabited Nam := ⟨⟨[], 0⟩⟩
theorem list2 {α : Type} {l : List α} (h : l.length = 2) : ∃ a b, l = [a, b] := by
  match l, h with
  | [a, b], _ => exact ⟨a, b, rfl⟩
theorem list3 {α : Type} {l : List α} (h : l.length = 3) : ∃ a b c, l = [a, b, c] := by
  match l, h with
  | [a, b, c], _ => exact ⟨a, b, c, rfl⟩
theorem list4 {α : Type} {l : List α} (h : l.length = 4) : ∃ a b c d, l = [a, b, c, d] := by
  match l, h with
  | [a, b, c, d], _ => exact ⟨a, b, c, d, rfl⟩
set_option maxRecDepth 100000 in
theorem read_ins (k : Nat) (vs : List Value) (y : DataW H × List MemPlace) (h : DataW.trod enc Tryz.prog W base spare held k 71 vs = some y) (hl : vs.length = 4) : ∃ x : Ins, vs = x.cs ∧ x.name.length ≤ 9223372036854775807 := by
  obtain ⟨y0, y1, y2, y3, n, _, _, h0, h1, h2, h3⟩ := trod_struct4 Tryz.underlying71 h
  obtain ⟨a, b, c, d, rfl⟩ := list4 hl
  have c3 : Tryz.prog.cellsOf 3 = 1 := by kernel_rfl
  have c9 : Tryz.prog.cellsOf 9 = 1 := by kernel_rfl
  simp only [c3, c9, List.drop_zero, List.drop_succ_cons, List.take_succ_cons, List.take_zero] at h0 h1 h2 h3
  obtain ⟨n0, e0, _⟩ := DataW.trod_int Tryz.underlying3 h0
  obtain ⟨n1, e1, _⟩ := DataW.trod_int Tryz.underlying3 h1
  obtain ⟨n2, e2, _⟩ := DataW.trod_int Tryz.underlying3 h2
  obtain ⟨s, e3, _, hs⟩ := DataW.trod_string Tryz.underlying9 h3
  simp only [List.cons.injEq, and_true] at e0 e1 e2 e3
  subst e0; subst e1; subst e2; subst e3
  refine ⟨⟨n0, n1, n2, s.data.toList⟩, rfl, ?_⟩
  have : s.data.toList.length = s.size := Array.length_toList
  show s.data.toList.length ≤ _
  rw [this]
  unfold maxLen at hs
  omega
set_option maxRecDepth 100000 in
theorem read_stt (k : Nat) (vs : List Value) (y : DataW H × List MemPlace) (h : DataW.trod enc Tryz.prog W base spare held k 79 vs = some y) (hl : vs.length = 3) : ∃ x : Stt, vs = x.cs ∧ x.pack.length ≤ 9223372036854775807 := by
  obtain ⟨y0, y1, n, _, _, h0, h1⟩ := trod_struct2 Tryz.underlying79 h
  obtain ⟨a, b, c, rfl⟩ := list3 hl
  have c3 : Tryz.prog.cellsOf 3 = 1 := by kernel_rfl
  have c9 : Tryz.prog.cellsOf 9 = 1 := by kernel_rfl
  have cN : Tryz.prog.cellsOf 33 = 2 := by kernel_rfl
  simp only [c3, cN, List.drop_zero, List.drop_succ_cons, List.take_succ_cons, List.take_zero] at h0 h1
  obtain ⟨z0, z1, n', _, _, g0, g1⟩ := trod_struct2 Tryz.underlying33 h0
  simp only [c3, c9, List.drop_zero, List.drop_succ_cons, List.take_succ_cons, List.take_zero] at g0 g1
  obtain ⟨s, e0, _, hs⟩ := DataW.trod_string Tryz.underlying9 g0
  obtain ⟨n1, e1, _⟩ := DataW.trod_int Tryz.underlying3 g1
  obtain ⟨n2, e2, _⟩ := DataW.trod_int Tryz.underlying3 h1
  simp only [List.cons.injEq, and_true] at e0 e1 e2
  subst e0; subst e1; subst e2
  refine ⟨⟨s.data.toList, n1, n2⟩, rfl, ?_⟩
  have : s.data.toList.length = s.size := Array.length_toList
  show s.data.toList.length ≤ _
  rw [this]
  unfold maxLen at hs
  omega
set_option maxRecDepth 100000 in
theorem read_nam (k : Nat) (vs : List Value) (y : DataW H × List MemPlace) (h : DataW.trod enc Tryz.prog W base spare held k 33 vs = some y) (hl : vs.length = 2) : ∃ x : Nam, vs = x.cs ∧ x.Ok := by
  obtain ⟨y0, y1, n, _, _, h0, h1⟩ := trod_struct2 Tryz.underlying33 h
  obtain ⟨a, b, rfl⟩ := list2 hl
  have c3 : Tryz.prog.cellsOf 3 = 1 := by kernel_rfl
  have c9 : Tryz.prog.cellsOf 9 = 1 := by kernel_rfl
  simp only [c3, c9, List.drop_zero, List.drop_succ_cons, List.take_succ_cons, List.take_zero] at h0 h1
  obtain ⟨s, e0, _, hs⟩ := DataW.trod_string Tryz.underlying9 h0
  obtain ⟨n1, e1, _, hw⟩ := DataW.trod_int Tryz.underlying3 h1
  simp only [List.cons.injEq, and_true] at e0 e1
  subst e0; subst e1
  refine ⟨⟨s.data.toList, n1⟩, rfl, ?_, hw⟩
  have : s.data.toList.length = s.size := Array.length_toList
  show s.data.toList.length ≤ _
  rw [this]
  unfold maxLen at hs ⊢
  omega
set_option maxRecDepth 100000 in
theorem read_dcl (k : Nat) (vs : List Value) (y : DataW H × List MemPlace) (h : DataW.trod enc Tryz.prog W base spare held k 126 vs = some y) (hl : vs.length = 3) : ∃ x : Dcl, vs = x.cs ∧ True := by
  obtain ⟨y0, y1, y2, n, _, _, h0, h1, h2⟩ := trod_struct3 Tryz.underlying126 h
  obtain ⟨a, b, c, rfl⟩ := list3 hl
  have c3 : Tryz.prog.cellsOf 3 = 1 := by kernel_rfl
  simp only [c3, List.drop_zero, List.drop_succ_cons, List.take_succ_cons, List.take_zero] at h0 h1 h2
  obtain ⟨n0, e0, _⟩ := DataW.trod_int Tryz.underlying3 h0
  obtain ⟨n1, e1, _⟩ := DataW.trod_int Tryz.underlying3 h1
  obtain ⟨n2, e2, _⟩ := DataW.trod_int Tryz.underlying3 h2
  simp only [List.cons.injEq, and_true] at e0 e1 e2
  subst e0; subst e1; subst e2
  exact ⟨⟨n0, n1, n2⟩, rfl, trivial⟩
def BlkOk (W : World) (x : Blk) : Prop := RD 4 Ins.cs W x.A x.ins ∧ x.ins.length ≤ 9223372036854775807 ∧ ∀ i ∈ x.ins, i.name.length ≤ 9223372036854775807
set_option maxRecDepth 100000 in
theorem read_blk (k : Nat) (vs : List Value) (y : DataW H × List MemPlace) (h : DataW.trod enc Tryz.prog W base spare held k 69 vs = some y) (hl : vs.length = 3) : ∃ x : Blk, vs = x.cs ∧ BlkOk W x := by
  obtain ⟨y0, y1, y2, n, _, _, h0, h1, h2⟩ := trod_struct3 Tryz.underlying69 h
  obtain ⟨a, b, c, rfl⟩ := list3 hl
  have c3 : Tryz.prog.cellsOf 3 = 1 := by kernel_rfl
  have c4 : Tryz.prog.cellsOf 4 = 1 := by kernel_rfl
  have cL : Tryz.prog.cellsOf 67 = 1 := by kernel_rfl
  simp only [c3, c4, cL, List.drop_zero, List.drop_succ_cons, List.take_succ_cons, List.take_zero] at h0 h1 h2
  obtain ⟨n0, e0, _⟩ := DataW.trod_int Tryz.underlying3 h0
  obtain ⟨q, e1, _⟩ := DataW.trod_bool Tryz.underlying4 h1
  obtain ⟨A, cc, L, e2, hl2, hrd, hok⟩ := open_recs (ok := fun x : Ins => x.name.length ≤ 9223372036854775807) Tryz.underlying67 (show Tryz.prog.cellsOf 71 = 4 by kernel_rfl) (by decide) (fun k vs y h hl => read_ins k vs y h hl) h2
  simp only [List.cons.injEq, and_true] at e0 e1
  subst e0; subst e1; subst e2
  exact ⟨⟨n0, q, A, cc, L⟩, rfl, hrd, hl2, hok⟩
def CodOk (W : World) (c : Cod) : Prop := c.Rd W ∧ c.Lim
set_option maxRecDepth 100000 in
theorem read_cod (k : Nat) (vs : List Value) (y : DataW H × List MemPlace) (h : DataW.trod enc Tryz.prog W base spare held k 65 vs = some y) (hl : vs.length = 3) : ∃ x : Cod, vs = x.cs ∧ CodOk W x := by
  obtain ⟨y0, y1, y2, n, _, _, h0, h1, h2⟩ := trod_struct3 Tryz.underlying65 h
  obtain ⟨a, b, c, rfl⟩ := list3 hl
  have c9 : Tryz.prog.cellsOf 9 = 1 := by kernel_rfl
  have cB : Tryz.prog.cellsOf 23 = 1 := by kernel_rfl
  have cD : Tryz.prog.cellsOf 63 = 1 := by kernel_rfl
  simp only [c9, cB, cD, List.drop_zero, List.drop_succ_cons, List.take_succ_cons, List.take_zero] at h0 h1 h2
  obtain ⟨s, e0, _, hs⟩ := DataW.trod_string Tryz.underlying9 h0
  obtain ⟨bA, bc, L, e1, hl1, hrd1, hok1⟩ := open_recs (ok := BlkOk W) Tryz.underlying23 (show Tryz.prog.cellsOf 69 = 3 by kernel_rfl) (by decide) (fun k vs y h hl => read_blk k vs y h hl) h1
  obtain ⟨dA, dc, M, e2, hl2, hrd2, _⟩ := open_recs (ok := fun _ : Dcl => True) Tryz.underlying63 (show Tryz.prog.cellsOf 126 = 3 by kernel_rfl) (by decide) (fun k vs y h hl => read_dcl k vs y h hl) h2
  simp only [List.cons.injEq, and_true] at e0
  subst e0; subst e1; subst e2
  refine ⟨⟨s.data.toList, bA, bc, L, dA, dc, M⟩, rfl, ⟨hrd1, fun x hx => (hok1 x hx).1, hrd2⟩, ⟨?_, hl1, hl2, fun b hb => (hok1 b hb).2.1, fun b hb => (hok1 b hb).2.2⟩⟩
  have : s.data.toList.length = s.size := Array.length_toList
  show s.data.toList.length ≤ _
  rw [this]
  unfold maxLen at hs
  omega
set_option maxRecDepth 100000 in
/-- Codes that came in. -/
theorem open_cods {r : Reach} {b0 : Nat} {v : Value} {d : DataW H} {ps : List MemPlace} (hv : Value.okWide Tryz.prog W r b0 40 v) (h : DataW.Trod enc Tryz.prog W base spare held 40 v d ps) : ∃ (A : Option Addr) (c : Nat) (L : List Cod), v = .slice A L.length c ∧ L.length ≤ 9223372036854775807 ∧ CRd W A L ∧ ∀ x ∈ L, x.Lim := by
  have hs : ∃ A n c, v = .slice A n c := by
    simp only [Value.okWide, Tryz.underlying40, Cell.okWide] at hv
    cases v <;> simp_all [Cell.ok]
  obtain ⟨A, n, c, rfl⟩ := hs
  obtain ⟨fuel, hf⟩ := h
  obtain ⟨A', c', L, e, hl, hr, hok⟩ := open_recs (ok := CodOk W) Tryz.underlying40 (show Tryz.prog.cellsOf 65 = 3 by kernel_rfl) (by decide) (fun k vs y h hl => read_cod k vs y h hl) hf
  exact ⟨A', c', L, e, hl, ⟨hr, fun c hc => (hok c hc).1⟩, fun c hc => (hok c hc).2⟩
set_option maxRecDepth 100000 in
/-- Names that came in. -/
theorem open_nams {r : Reach} {b0 : Nat} {v : Value} {d : DataW H} {ps : List MemPlace} (hv : Value.okWide Tryz.prog W r b0 41 v) (h : DataW.Trod enc Tryz.prog W base spare held 41 v d ps) : ∃ (A : Option Addr) (c : Nat) (L : List Nam), v = .slice A L.length c ∧ L.length ≤ 9223372036854775807 ∧ RD 2 Nam.cs W A L ∧ ∀ x ∈ L, x.Ok := by
  have hs : ∃ A n c, v = .slice A n c := by
    simp only [Value.okWide, Tryz.underlying41, Cell.okWide] at hv
    cases v <;> simp_all [Cell.ok]
  obtain ⟨A, n, c, rfl⟩ := hs
  obtain ⟨fuel, hf⟩ := h
  obtain ⟨A', c', L, e, hl, hr, hok⟩ := open_recs (ok := Nam.Ok) Tryz.underlying41 (show Tryz.prog.cellsOf 33 = 2 by kernel_rfl) (by decide) (fun k vs y h hl => read_nam k vs y h hl) hf
  exact ⟨A', c', L, e, hl, hr, hok⟩
set_option maxRecDepth 100000 in
/-- A program that came in. -/
theorem open_prg {r : Reach} {b0 : Nat} {v : Value} {d : DataW H} {ps : List MemPlace} (hv : Value.okWide Tryz.prog W r b0 26 v) (h : DataW.Trod enc Tryz.prog W base spare held 26 v d ps) : ∃ p : Prg, v = p.v ∧ p.Rd W ∧ p.Len := by
  obtain ⟨v0, v1, y0, y1, n, rfl, _, _, h0, h1⟩ := open_agg2 Tryz.underlying26 (by kernel_rfl) (by kernel_rfl) hv h
  obtain ⟨A, c, L, rfl, hl, hrd, hok⟩ := open_recs (ok := BlkOk W) Tryz.underlying23 (show Tryz.prog.cellsOf 69 = 3 by kernel_rfl) (by decide) (fun k vs y h hl => read_blk k vs y h hl) h0
  obtain ⟨A', c', L', rfl, hl', hrd', hok'⟩ := open_recs (ok := fun x : Stt => x.pack.length ≤ 9223372036854775807) Tryz.underlying24 (show Tryz.prog.cellsOf 79 = 3 by kernel_rfl) (by decide) (fun k vs y h hl => read_stt k vs y h hl) h1
  exact ⟨⟨A, c, L, A', c', L'⟩, rfl, ⟨hrd, fun x hx => (hok x hx).1, hrd'⟩, ⟨hl, hl', fun b hb => (hok b hb).2.1, fun b hb => (hok b hb).2.2, hok'⟩⟩
end
end Go.Proofs.YtgboboljgcfggaaGreatDoor

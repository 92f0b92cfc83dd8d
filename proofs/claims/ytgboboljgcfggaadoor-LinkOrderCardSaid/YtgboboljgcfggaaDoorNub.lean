/- Walks: a block gets a number, in the reference; where its row lies. -/
import Derived.Test.YtgboboljgcfggaaDoorM7
namespace Go.Proofs.YtgboboljgcfggaaDoor
open Go.RowKit Go.Maps

/-- What number leaves, and where. -/
def NumQ (K : List Sp) (x : Sp) (Ad : Option Addr) (w : World) (e : Ending) (w' : World) : Prop := ∃ A' c', e = .returned (.tuple #[.slice A' (addS K x).length c', iv ((addS K x).idxOf x)]) ∧ RD 2 Sp.cs w' A' (addS K x) ∧ Gr w w' ∧ (A' = Ad ∨ ∀ a, A' = some a → w.heap.size ≤ a.block)
theorem numq_old {K : List Sp} {x : Sp} {w w' : World} {Ad : Option Addr} {cp k n : Nat} (h : K[k]? = some x) (hn : x ∉ K.take k) (hl : K.length = n) (hr : RD 2 Sp.cs w' Ad K) (g : Gr w w') : NumQ K x Ad w (.returned (.tuple #[.slice Ad n cp, iv k])) w' := by
  have e : addS K x = K := by unfold addS; rw [if_pos (List.mem_of_getElem? h)]
  unfold NumQ
  rw [e, idx_first h hn, hl]
  exact ⟨Ad, cp, rfl, hr, g, .inl rfl⟩
theorem numq_new {K : List Sp} {x : Sp} {Ad : Option Addr} {w w' : World} {v : Value} {b n : Nat} (hx : x ∉ K) (hl : K.length = n) (ho : OR 84 2 Sp.cs w' b v (K ++ [x])) (g : Gr w w') (hb : w.heap.size ≤ b) : NumQ K x Ad w (.returned (.tuple #[v, iv n])) w' := by
  have e : addS K x = K ++ [x] := by unfold addS; rw [if_neg hx]
  obtain ⟨A', c', rfl, hr, -, -, -, h4⟩ := ho.form2 elP.hn
  unfold NumQ
  rw [e]
  have hi : (K ++ [x]).idxOf x = K.length := by
    rw [List.idxOf_append, if_neg hx]
    simp
  rw [hi, hl]
  exact ⟨A', c', rfl, hr, g, .inr fun a ha => Nat.le_trans hb (h4 a ha).1⟩
attribute [local irreducible] Calls in
set_option maxRecDepth 100000 in
set_option maxHeartbeats 4000000 in
theorem numq_any (Ad : Option Addr) (cp : Nat) (K : List Sp) (x : Sp) (w : World) (hK : RD 2 Sp.cs w Ad K) (hl : K.length ≤ 100000) : Calls Tryd.prog 32 #[.slice Ad K.length cp, .agg #[.int .i64 x.code, .int .i64 x.block]] w (NumQ K x Ad w) := by
  have HK := Lib.hid (fun V (g : Gr w V) => hK.gr g)
  obtain ⟨n, hn⟩ : ∃ n, K.length = n := ⟨_, rfl⟩
  have HN := Lib.hid hn
  rw [hn] at hl ⊢
  have GW := Lib.hid (gr_al w (.cells #[.int .i64 x.code, .int .i64 x.block] 84))
  have HX := Lib.hid (fun V (g : Gr (w.alloc (.cells #[.int .i64 x.code, .int .i64 x.block] 84)) V) => (show V.cell? ⟨w.heap.size, 0, none⟩ = some (.int .i64 x.code) ∧ V.cell? ⟨w.heap.size, 1, none⟩ = some (.int .i64 x.block) from by
    have h := gr_h g (al_new w (.cells #[.int .i64 x.code, .int .i64 x.block] 84))
    exact ⟨by rw [Lib.cell_of_heap h]; rfl, by rw [Lib.cell_of_heap h]; rfl⟩))
  clear hK hn
  go_enter Tryd.func32, Tryd.ntmps32
  go_wp2
  go_loopw [6] (fun u V => ∃ k : Nat, k ≤ n ∧ u = .int .i64 k ∧ Hid (Gr (w.alloc (.cells #[.int .i64 x.code, .int .i64 x.block] 84)) V ∧ x ∉ K.take k)) (fun u _ => n - (intOf u).toNat)
  case atStart => exact ⟨0, Nat.zero_le _, rfl, Lib.hid ⟨gr_refl _, by simp⟩⟩
  case round =>
    obtain ⟨k, hk, rfl, HR⟩ := hrel
    obtain ⟨gm, hno⟩ := HR.out
    have GM := Lib.hid gm
    have HNO := Lib.hid hno
    clear gm hno HR
    obtain ⟨x0, x1⟩ := HX.out _ GM.out
    by_cases hlt : k < n
    · obtain ⟨a, a1, eA, ha, hab, y0, y1⟩ := (HK.out _ (GW.out.trans GM.out)).sp (k := k) (by rw [HN.out]; exact hlt)
      obtain rfl := eA
      obtain ⟨y, hy⟩ : ∃ y, K[k]'(by rw [HN.out]; exact hlt) = y := ⟨_, rfl⟩
      have HYI := Lib.hid (show K[k]? = some y from by rw [List.getElem?_eq_getElem (by rw [HN.out]; exact hlt), hy])
      rw [hy] at y0 y1
      have FALSE := Lib.hid (show y ≠ x → x ∉ K.take (k + 1) from fun hne h => by
        rw [List.take_add_one, HYI.out, List.mem_append] at h
        rcases h with h | h
        · exact HNO.out h
        · simp at h; exact hne h.symm)
      obtain ⟨yc, hyc⟩ : ∃ z : Int, (y.code : Int) = z := ⟨_, rfl⟩
      obtain ⟨yb, hyb⟩ : ∃ z, y.block = z := ⟨_, rfl⟩
      obtain ⟨xc, hxc⟩ : ∃ z : Int, (x.code : Int) = z := ⟨_, rfl⟩
      obtain ⟨xb, hxb⟩ : ∃ z, x.block = z := ⟨_, rfl⟩
      have EQ := Lib.hid (show y = x ↔ yc = xc ∧ yb = xb from by
        obtain ⟨a, b⟩ := y
        obtain ⟨c, d⟩ := x
        simp only at hyc hyb hxc hxb
        rw [Sp.mk.injEq, ← hyc, ← hyb, ← hxc, ← hxb]
        constructor
        · rintro ⟨h1, h2⟩; exact ⟨by rw [h1], h2⟩
        · rintro ⟨h1, h2⟩; exact ⟨by omega, h2⟩)
      rw [hyc] at y0
      rw [hyb] at y1
      rw [hxc] at x0
      rw [hxb] at x1
      clear hy hyc hyb hxc hxb
      by_cases e1 : yc = xc
      · have hb1 : (yc == xc) = true := by simpa using e1
        by_cases e2 : yb = xb
        · have hb2 : (yb == xb) = true := by simpa using e2
          have HE := Lib.hid (show K[k]? = some x from by rw [HYI.out, EQ.out.2 ⟨e1, e2⟩])
          clear e1 e2
          go_upto_region 4 with (fail)
          go_quiet (fail)
          go_wp2
          go_ret2
          exact numq_old HE.out HNO.out HN.out (HK.out _ ((GW.out.trans GM.out).trans (gr_drewN _ _))) ((GW.out.trans GM.out).trans (gr_drewN _ _))
        · have hb2 : (yb == xb) = false := by simpa using e2
          have HNX := Lib.hid (FALSE.out fun h => e2 (EQ.out.1 h).2)
          clear e1 e2
          go_upto_region 4 with (fail)
          go_quiet (fail)
          go_wp2
          exact ⟨⟨k + 1, hlt, by simp, Lib.hid ⟨GM.out.trans (gr_drewN _ _), HNX.out⟩⟩, by simp [intOf]; omega⟩
      · have hb1 : (yc == xc) = false := by simpa using e1
        have HNX := Lib.hid (FALSE.out fun h => e1 (EQ.out.1 h).1)
        clear e1
        go_upto_region 4 with (fail)
        go_quiet (fail)
        go_wp2
        exact ⟨⟨k + 1, hlt, by simp, Lib.hid ⟨GM.out.trans (gr_drewN _ _), HNX.out⟩⟩, by simp [intOf]; omega⟩
    · obtain rfl : n = k := by omega
      have HNX := Lib.hid (show x ∉ K from by have h := HNO.out; rwa [List.take_of_length_le (by rw [HN.out]; exact Nat.le_refl _)] at h)
      have HX2 := Lib.hid (fun V (g : Gr wr V) => HX.out V (GM.out.trans g))
      have HK2 := Lib.hid (fun V (g : Gr wr V) => HK.out V ((GW.out.trans GM.out).trans g))
      have GG := Lib.hid (GW.out.trans GM.out)
      obtain ⟨B, hB⟩ : ∃ B, wr.heap.size = B := ⟨_, rfl⟩
      clear HNO GM GW HX HK
      go_upto_region 6 with (fail)
      obtain ⟨i0, i1⟩ := HX2.out _ (gr_al wr (.cells #[] 84))
      go_region_law (first
        | (refine step_app elP rfl (.tmp 22) (.tmp 23) rfl B (v := .slice (some ⟨_, 0, none⟩) 0 0) (L := []) rfl (or_made (by first | exact lz1 hB | exact lz2 hB | exact lz3 hB) (by omega)) (A := Ad) (M := K) (m := n) (c := cp) HN.out rfl (HK2.out _ (by first | exact (gr_al _ _).trans (gr_drew _) | exact ((gr_al _ _).trans (gr_al _ _)).trans (gr_drew _))) (by have := HN.out; simp; omega) (by first | omega | (simp; omega)) ?_
           intro v7 w7 o7 g7 h7
           have O7 := Lib.hid o7
           have G7 := Lib.hid (show Gr wr w7 from gr_own (by first | exact (gr_al _ _).trans (gr_drew _) | exact ((gr_al _ _).trans (gr_al _ _)).trans (gr_drew _)) (by dsimp only; omega) g7)
           have GQ := Lib.hid g7
           obtain ⟨e0, e1⟩ := HX2.out _ G7.out
           clear o7 g7 h7)
        | (refine step_app elP rfl (.tmp 24) (.tmp 26) rfl B (v := _) (L := [] ++ K) rfl (by first | exact O7.out | exact O7.out.alloc _) (A := some ⟨_, 0, none⟩) (M := [x]) (m := 1) (c := 1) rfl rfl (rd_cells (t := 84) elP.hn (by first | exact al_new _ _ | exact (GQ.out.block _ (by simp; omega) (fun h => by have h2 := Option.some.inj h; dsimp only at h2; omega)).trans (lz2 hB) | exact (GQ.out.block _ (by simp; omega) (fun h => by have h2 := Option.some.inj h; dsimp only at h2; omega)).trans (lz3 hB))) (by have := HN.out; simp; omega) (by have := G7.out.size; first | omega | (simp; omega)) ?_
           intro v8 w8 o8 g8 h8
           have O8 := Lib.hid o8
           have G8 := Lib.hid (show Gr wr w8 from OR.grow (by first | exact G7.out | exact G7.out.trans (gr_al _ _)) (by first | exact O7.out | exact O7.out.alloc _) (by omega) g8)
           clear o8 g8 h8))
      all_goals go_wp2
      all_goals go_ret2
      all_goals exact numq_new HNX.out HN.out (by have h := O8.out; rw [List.nil_append] at h; exact h) (GG.out.trans G8.out) (by have := GG.out.size; omega)
end Go.Proofs.YtgboboljgcfggaaDoor

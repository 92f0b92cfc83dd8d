/- Walks and words: ChkE, LnW, Sta, Opn, OpC, Pg4, LnX, Prm, CoF, CoG. -/
import Derived.Test.YtgboboljgcfggaaGreatDoorMa2
import Derived.LoopTactic
import Derived.BigQuiet
import Derived.StillTailTactics
import Derived.Test.YtgboboljgcfggaaGreatDoorTie
import Derived.Test.YtgboboljgcfggaaGreatDoorCards
import Derived.ProofKit
import Derived.OpenShut
import Derived.LaidMore
import Derived.Lay
import Derived.SevenTiedAt
import Derived.Stop.Joined
import Derived.Deep.Slices
import Derived.ChangeSlices
import Derived.Lib.SmallJoins
import Derived.Deep.QuietTactic
namespace Go.Proofs.YtgboboljgcfggaaGreatDoor
open Go.RowKit
def cntW (bs : List Blk) : Int := bs.foldl (fun c b => Go.RowKit.wrap64 (c + b.ins.length)) 0
theorem cntW_succ {bs : List Blk} {k : Nat} (hk : k < bs.length) : cntW (bs.take (k + 1)) = Go.RowKit.wrap64 (cntW (bs.take k) + bs[k].ins.length) := by
  unfold cntW
  rw [List.take_succ_eq_append_getElem hk, List.foldl_append]
  rfl
def fe : List Int → Int
  | [] => 0
  | x :: l => if x = 0 then fe l else x
theorem fe_snoc (l : List Int) (x : Int) (h : fe l = 0) : fe (l ++ [x]) = x := by
  induction l with
  | nil => by_cases hx : x = 0 <;> simp [fe, hx]
  | cons y l ih =>
    by_cases hy : y = 0
    · simp only [List.cons_append, fe, if_pos hy] at h ⊢
      exact ih h
    · simp only [fe, if_neg hy] at h
      exact absurd h hy
theorem fe_app (l m : List Int) (h : fe l ≠ 0) : fe (l ++ m) = fe l := by
  induction l with
  | nil => exact absurd rfl h
  | cons y l ih =>
    by_cases hy : y = 0
    · simp only [List.cons_append, fe, if_pos hy] at h ⊢
      exact ih h
    · simp only [List.cons_append, fe, if_neg hy]
theorem fe_at {L : List Int} {k : Nat} (hk : k < L.length) (h0 : fe (L.take k) = 0) : (L[k] ≠ 0 → fe L = L[k]) ∧ (L[k] = 0 → fe (L.take (k + 1)) = 0) := by
  have h1 := fe_snoc (L.take k) L[k] h0
  rw [← List.take_succ_eq_append_getElem hk] at h1
  refine ⟨fun h => ?_, fun h => h1.trans h⟩
  have h2 := fe_app (L.take (k + 1)) (L.drop (k + 1)) (by rw [h1]; exact h)
  rw [List.take_append_drop] at h2
  exact h2.trans h1
def errI (bs : List Blk) (b : Blk) : List Int := b.ins.map fun x => ckI bs b.ins.length x.op x.a x.b x.name
def errB (bs : List Blk) (b : Blk) : Int := if b.cap < 0 ∨ 1000 < b.cap then 2 else fe (errI bs b)
def ordS (ss : List Stt) (s : Stt) : Nat → Int
  | 0 => 0
  | j + 1 => match ss[j]? with
    | none => 0
    | some q => if nmLt q.pack q.id s.pack s.id then 0 else 10
theorem ordS_succ {ss : List Stt} {s q : Stt} {j : Nat} (h : ss[j]? = some q) : ordS ss s (j + 1) = if nmLt q.pack q.id s.pack s.id then 0 else 10 := by simp only [ordS, h]
def errS (bs : List Blk) (ss : List Stt) (i : Nat) : Int := match ss[i]? with
  | none => 0
  | some s => if lab s.pack = false then 6 else if s.id < 1 ∨ 999999 < s.id ∨ plainB bs s.block = false then 2 else ordS ss s i
def errP (p : Prg) : Int := if 2000 < p.bs.length ∨ 20000 < cntW p.bs then 4 else if fe (p.bs.map (errB p.bs)) ≠ 0 then fe (p.bs.map (errB p.bs)) else fe ((List.range p.ss.length).map (errS p.bs p.ss))
theorem heap_lt_cell {w : World} {b i : Nat} {v : Value} (h : w.cell? ⟨b, i, none⟩ = some v) : b < w.heap.size := by
  unfold World.cell? at h
  split at h
  · rename_i hh; exact (Array.getElem?_eq_some_iff.1 hh).1
  · cases h
theorem bAl (w : World) (o : Obj) : Below w.heap.size w (w.alloc o) := (Below.refl _ _).alloc (Nat.le_refl _) _
set_option maxRecDepth 100000 in
set_option maxHeartbeats 8000000 in
theorem check_any (p : Prg) (w : World) (hp : p.Rd w) (hb : p.bs.length ≤ 9223372036854775807) (hs : p.ss.length ≤ 9223372036854775807) (hi : ∀ b ∈ p.bs, b.ins.length ≤ 9223372036854775807) (hnl : ∀ b ∈ p.bs, ∀ x ∈ b.ins, x.name.length ≤ 9223372036854775807) (hnp : ∀ s ∈ p.ss, s.pack.length ≤ 9223372036854775807) :
    Calls Tryz.prog 26 #[p.v] w fun e w' => e = .returned (.int .i64 (errP p)) ∧ Below w.heap.size w w' := by
  unfold Prg.v
  obtain ⟨W, hW⟩ : ∃ W, W = w.alloc (.cells #[.slice p.bA p.bs.length p.bc, .slice p.sA p.ss.length p.sc] 26) := ⟨_, rfl⟩
  have hB0 : Below w.heap.size w W := by rw [hW]; exact (Below.refl _ _).alloc (Nat.le_refl _) _
  have hbx : W.heap[w.heap.size]? = some (.cells #[.slice p.bA p.bs.length p.bc, .slice p.sA p.ss.length p.sc] 26 (0, 0)) := by rw [hW]; exact al_new w _
  have ALL := Lib.hid (fun (V : World) (h : Below W.heap.size W V) => show p.Rd V ∧ V.cell? ⟨w.heap.size, 0, none⟩ = some (.slice p.bA p.bs.length p.bc) ∧ V.cell? ⟨w.heap.size, 1, none⟩ = some (.slice p.sA p.ss.length p.sc) from by
    have hk := (h.block _ (heap_lt hbx)).trans hbx
    exact ⟨(hp.below hB0).below h, by rw [Lib.cell_of_heap hk]; rfl, by rw [Lib.cell_of_heap hk]; rfl⟩)
  obtain ⟨-, x0, x1⟩ := ALL.out W (Below.refl _ _)
  have HB0 := Lib.hid hB0
  have HW := Lib.hid hW
  clear hW hB0 hbx hp
  go_enter Tryz.func26, Tryz.ntmps26
  go_wp2
  rw [← HW.out]
  go_loopw [3, 5, 16] (fun c _ i wr => ∃ k : Nat, k ≤ p.bs.length ∧ i = .int .i64 k ∧ c = .int .i64 (cntW (p.bs.take k)) ∧ Hid (Below W.heap.size W wr)) (fun _ _ i _ => p.bs.length - (intOf i).toNat)
  case atStart => exact ⟨0, Nat.zero_le _, rfl, rfl, Lib.hid (Below.refl _ _)⟩
  case round =>
    obtain ⟨k, hk, rfl, rfl, HB⟩ := hrel
    by_cases hlt : k < p.bs.length
    · obtain ⟨hpr, y0, y1⟩ := ALL.out wr HB.out
      obtain ⟨a, a1, hA, ha, hab, c0, c1, c2⟩ := hpr.b.blk hlt
      have hcs := cntW_succ hlt
      have HCS := Lib.hid hcs
      have HBN := fun o => Lib.hid (HB.out.alloc HB.out.size o)
      have hA' := Lib.hid hA
      rw [hA]
      clear hcs hpr x0 x1 hA
      go_wp2
      exact ⟨⟨k + 1, by omega, by simp, by rw [HCS.out], HBN _⟩, by simp [intOf]; omega⟩
    · obtain rfl : k = p.bs.length := by omega
      rw [List.take_length]
      obtain ⟨hpr, y0, y1⟩ := ALL.out wr HB.out
      have HB1 := Lib.hid (HB0.out.trans (HB.out.mono HB0.out.size))
      by_cases h4 : 2000 < p.bs.length ∨ 20000 < cntW p.bs
      · have hE : Hid (errP p = 4) := Lib.hid (by unfold errP; rw [if_pos h4])
        clear hpr x0 x1
        by_cases h5 : 2000 < p.bs.length
        · have z1 : (2000 : Int) < (p.bs.length : Int) := by omega
          go_wp2
          go_ret
          exact ⟨by rw [hE.out]; rfl, HB1.out⟩
        · have z1 : ¬ (2000 : Int) < (p.bs.length : Int) := by omega
          have z2 : 20000 < cntW p.bs := h4.resolve_left h5
          go_wp2
          go_ret
          exact ⟨by rw [hE.out]; rfl, HB1.out⟩
      · have z1 : ¬ (2000 : Int) < (p.bs.length : Int) := by omega
        have z2 : ¬ 20000 < cntW p.bs := fun h => h4 (.inr h)
        have hE : Hid (errP p = if fe (p.bs.map (errB p.bs)) ≠ 0 then fe (p.bs.map (errB p.bs)) else fe ((List.range p.ss.length).map (errS p.bs p.ss))) := Lib.hid (by unfold errP; rw [if_neg h4])
        clear hpr x0 x1 HB1 h4
        have FB := Lib.hid (Nat.le_refl 0)
        go_wp2
        go_loopw [7, 9, 10, 37, 49, 50, 51, 52] (fun _ _ _ i _ _ _ _ wr => ∃ k : Nat, k ≤ p.bs.length ∧ i = .int .i64 k ∧ Hid (Below W.heap.size W wr) ∧ Hid (fe ((p.bs.map (errB p.bs)).take k) = 0)) (fun _ _ _ i _ _ _ _ _ => p.bs.length - (intOf i).toNat)
        case atStart => exact ⟨0, Nat.zero_le _, rfl, HB, Lib.hid rfl⟩
        case round =>
          clear HB
          obtain ⟨k, hk, rfl, HB, HF⟩ := hrel
          by_cases hlt : k < p.bs.length
          · obtain ⟨hpr, y0', y1'⟩ := ALL.out wr HB.out
            obtain ⟨a, a1, hA, ha, hab, c0, c1, c2⟩ := hpr.b.blk hlt
            have hA' := Lib.hid hA
            obtain ⟨blk, hblk⟩ : ∃ blk, blk = p.bs[k] := ⟨_, rfl⟩
            rw [← hblk] at c0 c1 c2
            have HBK := Lib.hid hblk
            have hml : k < (p.bs.map (errB p.bs)).length := by simpa using hlt
            obtain ⟨f1, f2⟩ := fe_at hml HF.out
            rw [List.getElem_map, ← hblk] at f1 f2
            have F1 := Lib.hid f1
            have F2 := Lib.hid f2
            have hbm : blk ∈ p.bs := by rw [hblk]; exact List.getElem_mem hlt
            have hil := hi blk hbm
            have HBM := Lib.hid hbm
            rw [hA]
            clear f1 f2 hpr hblk hA hbm y0 y1
            by_cases hc : blk.cap < 0 ∨ 1000 < blk.cap
            · have e2 : errB p.bs blk = 2 := by unfold errB; rw [if_pos hc]
              have hE2 : Hid (errP p = 2) := Lib.hid (by rw [hE.out, F1.out (by rw [e2]; decide), e2]; rfl)
              have HB1 := fun o => Lib.hid (HB0.out.trans ((HB.out.alloc HB.out.size o).mono HB0.out.size))
              clear e2
              by_cases hc0 : blk.cap < 0
              · go_wp2
                go_ret
                exact ⟨by rw [hE2.out]; rfl, (HB1 _).out⟩
              · have hc1 : 1000 < blk.cap := hc.resolve_left hc0
                go_wp2
                go_ret
                exact ⟨by rw [hE2.out]; rfl, (HB1 _).out⟩
            · have hc0 : ¬ blk.cap < 0 := fun h => hc (.inl h)
              have hc1 : ¬ 1000 < blk.cap := fun h => hc (.inr h)
              have eB : Hid (errB p.bs blk = fe (errI p.bs blk)) := Lib.hid (by unfold errB; rw [if_neg hc])
              have eL : (errI p.bs blk).length = blk.ins.length := by simp [errI]
              have HBA := fun o => Lib.hid (HB.out.alloc HB.out.size o)
              have kn := fun o => Lib.hid (al_new wr o)
              clear hc
              go_wp2
              generalize hM7 : wr.heap.size = M7 at *
              have kn7 := kn (.cells #[.int .i64 blk.cap, .bool blk.param, .slice blk.A blk.ins.length blk.c] 69)
              have hb7 := HBA (.cells #[.int .i64 blk.cap, .bool blk.param, .slice blk.A blk.ins.length blk.c] 69)
              clear kn HBA
              generalize wr.alloc (.cells #[.int .i64 blk.cap, .bool blk.param, .slice blk.A blk.ins.length blk.c] 69) = V7 at *
              have ALL7 := Lib.hid (fun (v : World) (h : Below V7.heap.size V7 v) => show (p.Rd v ∧ v.cell? ⟨w.heap.size, 0, none⟩ = some (.slice p.bA p.bs.length p.bc) ∧ v.cell? ⟨w.heap.size, 1, none⟩ = some (.slice p.sA p.ss.length p.sc)) ∧ v.cell? ⟨M7, 0, none⟩ = some (.int .i64 blk.cap) ∧ v.cell? ⟨M7, 1, none⟩ = some (.bool blk.param) ∧ v.cell? ⟨M7, 2, none⟩ = some (.slice blk.A blk.ins.length blk.c) ∧ Below W.heap.size W v from by
                have hk := (h.block _ (heap_lt kn7.out)).trans kn7.out
                have hb := hb7.out.trans (h.mono hb7.out.size)
                exact ⟨ALL.out v hb, by rw [Lib.cell_of_heap hk]; rfl, by rw [Lib.cell_of_heap hk]; rfl, by rw [Lib.cell_of_heap hk]; rfl, hb⟩)
              clear hM7 hb7 kn7
              go_loopw [9, 10, 52] (fun _ _ i v => ∃ j : Nat, j ≤ blk.ins.length ∧ i = .int .i64 j ∧ Hid (Below V7.heap.size V7 v) ∧ Hid (fe ((errI p.bs blk).take j) = 0)) (fun _ _ i _ => blk.ins.length - (intOf i).toNat)
              case atStart => exact ⟨0, Nat.zero_le _, rfl, Lib.hid (Below.refl _ _), Lib.hid rfl⟩
              case round =>
                obtain ⟨j, hj, rfl, HV, HG⟩ := hrel
                obtain ⟨⟨pv, y0, y1⟩, d0, d1, d2, bv⟩ := ALL7.out _ HV.out
                by_cases hjl : j < blk.ins.length
                · obtain ⟨b', b1, hbA, hb1, hbb, i0, i1, i2, i3⟩ := (pv.i blk HBM.out).ins hjl
                  obtain ⟨x, hx⟩ : ∃ x, x = blk.ins[j] := ⟨_, rfl⟩
                  rw [← hx] at i0 i1 i2 i3
                  have hxm : x ∈ blk.ins := by rw [hx]; exact List.getElem_mem hjl
                  obtain ⟨g1, g2⟩ := fe_at (L := errI p.bs blk) (by rw [eL]; exact hjl) HG.out
                  have eg : (errI p.bs blk)[j]'(by rw [eL]; exact hjl) = ckI p.bs blk.ins.length x.op x.a x.b x.name := by simp [errI, hx]
                  rw [eg] at g1 g2
                  have G1 := Lib.hid g1
                  have G2 := Lib.hid g2
                  have yl := heap_lt_cell y0
                  have dl := heap_lt_cell d0
                  have y0a := fun o => cell_al y0 yl o
                  have y1a := fun o => cell_al y1 yl o
                  have d0a := fun o => cell_al d0 dl o
                  have d1a := fun o => cell_al d1 dl o
                  have d2a := fun o => cell_al d2 dl o
                  have CK : ∀ o, Calls Tryz.prog 51 #[.agg #[.slice p.bA p.bs.length p.bc, .slice p.sA p.ss.length p.sc], .agg #[.int .i64 blk.cap, .bool blk.param, .slice blk.A blk.ins.length blk.c], .agg #[.int .i64 x.op, .int .i64 x.a, .int .i64 x.b, .string ⟨x.name.toArray⟩]] (wr.alloc o) fun e w' => e = .returned (.int .i64 (ckI p.bs blk.ins.length x.op x.a x.b x.name)) ∧ Below wr.heap.size wr w' := fun o =>
                    (checkInstr_any p blk x.op x.a x.b x.name (wr.alloc o) (pv.below (bAl _ o)) (hnl blk HBM.out x hxm)).mono fun e w' h => ⟨h.1, (bAl wr o).trans (h.2.mono (by simp))⟩
                  have eRet : ckI p.bs blk.ins.length x.op x.a x.b x.name ≠ 0 → errP p = ckI p.bs blk.ins.length x.op x.a x.b x.name := fun h => by
                    have h1 := g1 h
                    have h2 : errB p.bs blk = ckI p.bs blk.ins.length x.op x.a x.b x.name := eB.out.trans h1
                    have h3 := F1.out (by rw [h2]; exact h)
                    rw [hE.out, h3, h2, if_pos h]
                  have ER := Lib.hid eRet
                  generalize ckI p.bs blk.ins.length x.op x.a x.b x.name = ck at *
                  have CK := Lib.hid CK
                  have BV := Lib.hid bv
                  rw [hbA]
                  clear g1 g2 eg hbA hx hxm pv bv eRet yl dl c0 c1 c2 y0' y1'
                  by_cases hck : ck = 0
                  · have t1 : (ck != 0) = false := by simp [hck]
                    have G3 := Lib.hid (G2.out hck)
                    have NB : ∀ w', Below wr.heap.size wr w' → Below V7.heap.size V7 w' := fun w' h => HV.out.trans (h.mono HV.out.size)
                    have NB := Lib.hid NB
                    clear hck
                    go_wp2_with (go_at_call 51; refine (CK.out _).mono ?_; rintro e w3 ⟨rfl, b3⟩; have B3 := Lib.hid b3; clear b3)
                    exact ⟨⟨j + 1, by omega, by simp, Lib.hid (NB.out _ B3.out), G3⟩, by simp [intOf]; omega⟩
                  · have t1 : (ck != 0) = true := by simpa using hck
                    have E3 := Lib.hid (ER.out hck)
                    have NB : ∀ w', Below wr.heap.size wr w' → Below w.heap.size w w' := fun w' h => HB0.out.trans ((BV.out.trans (h.mono BV.out.size)).mono HB0.out.size)
                    have NB := Lib.hid NB
                    clear hck
                    go_wp2_with (go_at_call 51; refine (CK.out _).mono ?_; rintro e w3 ⟨rfl, b3⟩; have B3 := Lib.hid b3; clear b3)
                    go_ret
                    exact ⟨by rw [E3.out]; rfl, NB.out _ B3.out⟩
                · obtain rfl : j = blk.ins.length := by omega
                  have h0 := HG.out
                  rw [← eL, List.take_length] at h0
                  have F3 := Lib.hid (F2.out (by rw [eB.out]; exact h0))
                  have BV := Lib.hid bv
                  clear h0 pv bv c0 c1 c2 y0' y1'
                  go_wp2
                  exact ⟨⟨k + 1, by omega, by simp, BV, F3⟩, by simp [intOf]; omega⟩
          · obtain rfl : k = p.bs.length := by omega
            have h0 := HF.out
            rw [show (p.bs.map (errB p.bs)).take p.bs.length = p.bs.map (errB p.bs) from List.take_of_length_le (by simp)] at h0
            have hE3 : Hid (errP p = fe ((List.range p.ss.length).map (errS p.bs p.ss))) := Lib.hid (by rw [hE.out, h0]; rfl)
            obtain ⟨hpr, y0, y1⟩ := ALL.out wr HB.out
            clear h0 HF hE hpr
            go_wp2
            clear y0 y1
            go_loopw [11, 12, 68, 69, 70, 71, 72, 73] (fun _ _ i _ _ _ _ _ wr => ∃ k : Nat, k ≤ p.ss.length ∧ i = .int .i64 k ∧ Hid (Below W.heap.size W wr) ∧ Hid (fe (((List.range p.ss.length).map (errS p.bs p.ss)).take k) = 0)) (fun _ _ i _ _ _ _ _ _ => p.ss.length - (intOf i).toNat)
            case atStart => exact ⟨0, Nat.zero_le _, rfl, HB, Lib.hid rfl⟩
            case round =>
              clear HB
              obtain ⟨k, hk, rfl, HB, HF⟩ := hrel
              by_cases hlt : k < p.ss.length
              · obtain ⟨hpr, y0, y1⟩ := ALL.out _ HB.out
                obtain ⟨a, a1, hA, ha, hab, c0, c1, c2⟩ := hpr.s.stt hlt
                obtain ⟨s, hs'⟩ : ∃ s, s = p.ss[k] := ⟨_, rfl⟩
                rw [← hs'] at c0 c1 c2
                have hsm : s ∈ p.ss := by rw [hs']; exact List.getElem_mem hlt
                have hsk : p.ss[k]? = some s := by rw [hs']; simp [hlt]
                obtain ⟨f1, f2⟩ := fe_at (L := (List.range p.ss.length).map (errS p.bs p.ss)) (by simpa using hlt) HF.out
                have eg : ((List.range p.ss.length).map (errS p.bs p.ss))[k]'(by simpa using hlt) = errS p.bs p.ss k := by simp
                rw [eg] at f1 f2
                have ER : Hid (errS p.bs p.ss k ≠ 0 → errP p = errS p.bs p.ss k) := Lib.hid fun h => hE3.out.trans (f1 h)
                have F2 := Lib.hid f2
                have yl := heap_lt_cell y0
                have y0a := fun o => cell_al y0 yl o
                have y1a := fun o => cell_al y1 yl o
                have LA : ∀ o, Calls Tryz.prog 52 #[tv s.pack] (wr.alloc o) fun e w' => e = .returned (.bool (lab s.pack)) ∧ Below (wr.alloc o).heap.size (wr.alloc o) w' := fun o => label_any s.pack (wr.alloc o) (hnp s hsm)
                have LA := Lib.hid LA
                have HSK := Lib.hid hsk
                have HPR := Lib.hid hpr
                have HA := Lib.hid hA
                have NB : ∀ o w', Below (wr.alloc o).heap.size (wr.alloc o) w' → Below W.heap.size W w' ∧ Below w.heap.size w w' := fun o w' h => by
                  have h1 := HB.out.trans (((bAl wr o).trans (h.mono (by simp))).mono HB.out.size)
                  exact ⟨h1, HB0.out.trans (h1.mono HB0.out.size)⟩
                have NB := Lib.hid NB
                rw [hA]
                clear f1 f2 eg hsm hsk hpr hA hs'
                cases hlab : lab s.pack with
                | false =>
                  have E6 : Hid (errP p = 6) := Lib.hid (by
                    have : errS p.bs p.ss k = 6 := by unfold errS; rw [HSK.out]; simp only [hlab, if_true]
                    rw [ER.out (by rw [this]; decide), this])
                  rw [hlab] at LA
                  clear hlab
                  go_wp2_with (go_at_call 52; refine (LA.out _).mono ?_; rintro e w3 ⟨rfl, b3⟩; have B3 := Lib.hid (NB.out _ _ b3); clear b3)
                  go_ret
                  exact ⟨by rw [E6.out]; rfl, B3.out.2⟩
                | true =>
                  rw [hlab] at LA
                  have hsA := HA.out
                  have PL : ∀ V, Below W.heap.size W V → Calls Tryz.prog 53 #[.agg #[.slice p.bA p.bs.length p.bc, .slice (some a) p.ss.length p.sc], .int .i64 s.block] V fun e w' => e = .returned (.bool (plainB p.bs s.block)) ∧ Below V.heap.size V w' := fun V hV => by
                    have h := plain_any p s.block V (ALL.out V hV).1
                    unfold Prg.v at h
                    rw [hsA] at h
                    exact h
                  have PL := Lib.hid PL
                  have BOX : ∀ o w', Below (wr.alloc (.cells #[.string ⟨s.pack.toArray⟩, .int .i64 s.id, .int .i64 s.block] 79)).heap.size (wr.alloc (.cells #[.string ⟨s.pack.toArray⟩, .int .i64 s.id, .int .i64 s.block] 79)) w' → o = (0 : Nat) → w'.cell? ⟨wr.heap.size, 0, none⟩ = some (.string ⟨s.pack.toArray⟩) ∧ w'.cell? ⟨wr.heap.size, 1, none⟩ = some (.int .i64 s.id) ∧ w'.cell? ⟨wr.heap.size, 2, none⟩ = some (.int .i64 s.block) ∧ w'.cell? ⟨w.heap.size, 0, none⟩ = some (.slice p.bA p.bs.length p.bc) ∧ w'.cell? ⟨w.heap.size, 1, none⟩ = some (.slice (some a) p.ss.length p.sc) := fun o w' h _ => by
                    have k3 := (h.block wr.heap.size (by simp)).trans (al_new wr _)
                    obtain ⟨_, k4, k5⟩ := ALL.out w' (NB.out _ _ h).1
                    rw [hsA] at k5
                    exact ⟨by rw [Lib.cell_of_heap k3]; rfl, by rw [Lib.cell_of_heap k3]; rfl, by rw [Lib.cell_of_heap k3]; rfl, k4, k5⟩
                  have BOX := Lib.hid BOX
                  clear hsA y0 y1 y0a y1a
                  by_cases hbad : s.id < 1 ∨ 999999 < s.id ∨ plainB p.bs s.block = false
                  · have E2 : Hid (errP p = 2) := Lib.hid (by
                      have : errS p.bs p.ss k = 2 := by unfold errS; rw [HSK.out]; simp only [hlab, Bool.true_eq_false, if_false, if_pos hbad]
                      rw [ER.out (by rw [this]; decide), this])
                    clear hlab
                    by_cases hb1 : s.id < 1
                    · go_wp2_with (go_at_call 52; refine (LA.out _).mono ?_; rintro e w3 ⟨rfl, b3⟩; obtain ⟨q0, q1, q2, q3, q4⟩ := BOX.out 0 w3 b3 rfl; have B3 := Lib.hid (NB.out _ _ b3); clear b3)
                      go_ret
                      exact ⟨by rw [E2.out]; rfl, B3.out.2⟩
                    · by_cases hb2 : 999999 < s.id
                      · go_wp2_with (go_at_call 52; refine (LA.out _).mono ?_; rintro e w3 ⟨rfl, b3⟩; obtain ⟨q0, q1, q2, q3, q4⟩ := BOX.out 0 w3 b3 rfl; have B3 := Lib.hid (NB.out _ _ b3); clear b3)
                        go_ret
                        exact ⟨by rw [E2.out]; rfl, B3.out.2⟩
                      · have hb3 : plainB p.bs s.block = false := (hbad.resolve_left hb1).resolve_left hb2
                        rw [hb3] at PL
                        clear hb3 hbad
                        go_wp2_with (first | (go_at_call 52; refine (LA.out _).mono ?_; rintro e w3 ⟨rfl, b3⟩; obtain ⟨q0, q1, q2, q3, q4⟩ := BOX.out 0 w3 b3 rfl; have B3 := Lib.hid (NB.out _ _ b3); clear b3) | (go_at_call 53; refine (PL.out _ B3.out.1).mono ?_; rintro e w4 ⟨rfl, b4⟩; have B4 := Lib.hid (B3.out.2.trans (b4.mono B3.out.2.size)); clear b4))
                        go_ret
                        exact ⟨by rw [E2.out]; rfl, B4.out⟩
                  · have hb1 : ¬ s.id < 1 := fun h => hbad (.inl h)
                    have hb2 : ¬ 999999 < s.id := fun h => hbad (.inr (.inl h))
                    have hb3 : plainB p.bs s.block = true := by
                      cases h : plainB p.bs s.block with
                      | true => rfl
                      | false => exact absurd (.inr (.inr h)) hbad
                    rw [hb3] at PL
                    have eS : errS p.bs p.ss k = ordS p.ss s k := by
                      unfold errS
                      rw [HSK.out]
                      simp only [hlab, Bool.true_eq_false, if_false, if_neg hbad]
                    have ES := Lib.hid eS
                    clear eS hb3 hbad hlab
                    go_wp2_with (first | (go_at_call 52; refine (LA.out _).mono ?_; rintro e w3 ⟨rfl, b3⟩; obtain ⟨q0, q1, q2, q3, q4⟩ := BOX.out 0 w3 b3 rfl; have B3 := Lib.hid (NB.out _ _ b3); have BB3 := Lib.hid b3; clear b3) | (go_at_call 53; refine (PL.out _ B3.out.1).mono ?_; rintro e w4 ⟨rfl, b4⟩; clear q0 q1 q2 q3 q4; have b5 := BB3.out.trans (b4.mono BB3.out.size); obtain ⟨q0, q1, q2, q3, q4⟩ := BOX.out 0 w4 b5 rfl; have B4 := Lib.hid (NB.out _ _ b5); clear b4 b5))
                    by_cases hk0 : k = 0
                    · subst hk0
                      have F3 := Lib.hid (F2.out (by rw [ES.out]; rfl))
                      have D4 := Lib.hid (fun n => show Below W.heap.size W (w4.drewN n) from ⟨B4.out.1.os, B4.out.1.tape, B4.out.1.output, B4.out.1.size, B4.out.1.block⟩)
                      clear ES ER
                      go_quiet (fail)
                      go_wp2
                      exact ⟨⟨1, by omega, rfl, Lib.hid (D4.out _), F3⟩, by simp [intOf]; omega⟩
                    · obtain ⟨j, hkj⟩ : ∃ j, k = j + 1 := ⟨k - 1, by omega⟩
                      have hjl : j < p.ss.length := by omega
                      obtain ⟨a', e1, hA', he1, heb, v0, v1, v2⟩ := (ALL.out w4 B4.out.1).1.s.stt hjl
                      obtain rfl : a' = a := by have := HA.out; rw [hA'] at this; exact Option.some.inj this
                      obtain ⟨q, hq⟩ : ∃ q, q = p.ss[j] := ⟨_, rfl⟩
                      rw [← hq] at v0 v1 v2
                      have hqk : p.ss[j]? = some q := by rw [hq]; simp [hjl]
                      have eo : errS p.bs p.ss k = if nmLt q.pack q.id s.pack s.id then 0 else 10 := by
                        rw [ES.out, hkj, ordS_succ hqk]
                      have hcn := cN_lt q.pack q.id s.pack s.id
                      have CMP : ∀ V, Calls Tryz.prog 54 #[.agg #[.string ⟨q.pack.toArray⟩, .int .i64 q.id], .agg #[.string ⟨s.pack.toArray⟩, .int .i64 s.id]] V fun e w' => e = .returned (.int .i64 (cN q.pack q.id s.pack s.id)) ∧ Below V.heap.size V w' := fun V => compare_any q.pack q.id s.pack s.id V
                      have CMP := Lib.hid CMP
                      have EO := Lib.hid eo
                      have w1' : IntKind.i64.wrap ((k : Int) - 1) = (j : Int) := by rw [IntWalk.i64_in _ (by omega)]; omega
                      have w2' : (0 : Int) < (k : Int) := by omega
                      have w2n : 0 < k := by omega
                      have w3' : ((j : Int)).toNat = j := by omega
                      have w4' : (0 : Int) ≤ (j : Int) := by omega
                      have w5' : (j : Int) < (p.ss.length : Int) := by omega
                      have D4 := Lib.hid (fun n (w' : World) (h : Below (w4.drewN n).heap.size (w4.drewN n) w') => show Below W.heap.size W w' ∧ Below w.heap.size w w' from by
                        have h1 : Below W.heap.size W w' := B4.out.1.trans (Below.mono (⟨h.os, h.tape, h.output, h.size, h.block⟩ : Below w4.heap.size w4 w') B4.out.1.size)
                        exact ⟨h1, HB0.out.trans (h1.mono HB0.out.size)⟩)
                      generalize nmLt q.pack q.id s.pack s.id = LT at *
                      generalize cN q.pack q.id s.pack s.id = CN at *
                      clear eo hqk hq hA' hkj ES
                      have hcn' : (0 : Int) ≤ CN ↔ LT = false := by
                        cases LT <;> simpa using hcn
                      clear hcn
                      cases LT with
                      | true =>
                        have g0 : ¬ (0 : Int) ≤ CN := fun h => by have := hcn'.1 h; cases this
                        have F3 := Lib.hid (F2.out (by rw [EO.out]; rfl))
                        clear hcn'
                        go_still_tail 12, (by kernel_rfl)
                        change wpList _ _ _ _ _ w4.drew
                        generalize hw5 : w4.drew = w5
                        have d5 : ∀ w', Below w5.heap.size w5 w' → Below W.heap.size W w' ∧ Below w.heap.size w w' := fun w' h => D4.out 1 w' (by subst hw5; exact h)
                        have D5 := Lib.hid d5
                        clear d5 hw5 D4
                        go_wp2_with (go_at_call 54; refine (CMP.out _).mono ?_; rintro e w6 ⟨rfl, b6⟩; have B6 := Lib.hid (D5.out _ b6); clear b6)
                        exact ⟨⟨k + 1, by omega, by simp, Lib.hid B6.out.1, F3⟩, by simp [intOf]; omega⟩
                      | false =>
                        have g0 : (0 : Int) ≤ CN := hcn'.2 rfl
                        have E10 : Hid (errP p = 10) := Lib.hid (by rw [ER.out (by rw [EO.out]; decide), EO.out]; rfl)
                        clear hcn'
                        go_still_tail 12, (by kernel_rfl)
                        change wpList _ _ _ _ _ w4.drew
                        generalize hw5 : w4.drew = w5
                        have d5 : ∀ w', Below w5.heap.size w5 w' → Below W.heap.size W w' ∧ Below w.heap.size w w' := fun w' h => D4.out 1 w' (by subst hw5; exact h)
                        have D5 := Lib.hid d5
                        clear d5 hw5 D4
                        go_wp2_with (go_at_call 54; refine (CMP.out _).mono ?_; rintro e w6 ⟨rfl, b6⟩; have B6 := Lib.hid (D5.out _ b6); clear b6)
                        go_ret
                        exact ⟨by rw [E10.out]; rfl, B6.out.2⟩
              · obtain rfl : k = p.ss.length := by omega
                have h0 := HF.out
                rw [List.take_of_length_le (by simp)] at h0
                have E0 : Hid (errP p = 0) := Lib.hid (by rw [hE3.out, h0])
                have HB1 := Lib.hid (HB0.out.trans (HB.out.mono HB0.out.size))
                clear h0
                go_wp2
                go_ret
                exact ⟨by rw [E0.out]; rfl, HB1.out⟩
end Go.Proofs.YtgboboljgcfggaaGreatDoor
namespace Go.Proofs.YtgboboljgcfggaaGreatDoor
open Go.RowKit Go.Maps Go.Shelf
def BEq (bs cs : List Blk) : Prop := bs.map Blk.pb = cs.map Blk.pb
theorem BEq.at {bs cs : List Blk} (h : BEq bs cs) (n : Nat) : (bs[n]?).map Blk.pb = (cs[n]?).map Blk.pb := by
  have h1 := congrArg (fun l => l[n]?) h
  simpa using h1
theorem pb_eq {b c : Blk} (h : b.pb = c.pb) : b.cap = c.cap ∧ b.param = c.param ∧ b.ins = c.ins := by
  have := PB.mk.inj h
  exact this
theorem BEq.plain {bs cs : List Blk} (h : BEq bs cs) (n : Int) : plainB bs n = plainB cs n := by
  have h1 := h.at n.toNat
  unfold plainB
  cases h2 : bs[n.toNat]? with
  | none => rw [h2] at h1; cases h3 : cs[n.toNat]? with
    | none => rfl
    | some c => rw [h3] at h1; cases h1
  | some b => rw [h2] at h1; cases h3 : cs[n.toNat]? with
    | none => rw [h3] at h1; cases h1
    | some c =>
      rw [h3] at h1
      obtain ⟨e1, e2, -⟩ := pb_eq (Option.some.inj h1)
      simp only [e1, e2]
theorem BEq.clos {bs cs : List Blk} (h : BEq bs cs) (n : Int) : closB bs n = closB cs n := by
  have h1 := h.at n.toNat
  unfold closB
  cases h2 : bs[n.toNat]? with
  | none => rw [h2] at h1; cases h3 : cs[n.toNat]? with
    | none => rfl
    | some c => rw [h3] at h1; cases h1
  | some b => rw [h2] at h1; cases h3 : cs[n.toNat]? with
    | none => rw [h3] at h1; cases h1
    | some c =>
      rw [h3] at h1
      obtain ⟨e1, e2, -⟩ := pb_eq (Option.some.inj h1)
      simp only [e2]
theorem BEq.ckI {bs cs : List Blk} (h : BEq bs cs) (nb : Nat) (op a b : Int) (name : T) : ckI bs nb op a b name = Go.Proofs.YtgboboljgcfggaaGreatDoor.ckI cs nb op a b name := by
  unfold Go.Proofs.YtgboboljgcfggaaGreatDoor.ckI inR
  simp only [h.plain, h.clos]
theorem BEq.errB {bs cs : List Blk} (h : BEq bs cs) {b c : Blk} (e : b.pb = c.pb) : errB bs b = Go.Proofs.YtgboboljgcfggaaGreatDoor.errB cs c := by
  obtain ⟨e1, e2, e3⟩ := pb_eq e
  unfold Go.Proofs.YtgboboljgcfggaaGreatDoor.errB errI
  simp only [e1, e3, h.ckI]
theorem map_rel {α β γ : Type} {p : α → β} {f g : α → γ} (hfg : ∀ a b, p a = p b → f a = g b) : ∀ (l m : List α), l.map p = m.map p → l.map f = m.map g
  | [], [], _ => rfl
  | [], _ :: _, h => by cases h
  | _ :: _, [], h => by cases h
  | a :: l, b :: m, h => by
    simp only [List.map_cons, List.cons.injEq] at h ⊢
    exact ⟨hfg a b h.1, map_rel hfg l m h.2⟩
theorem BEq.cnt {bs cs : List Blk} (h : BEq bs cs) : cntW bs = cntW cs := by
  have h1 : bs.map (fun b => (b.ins.length : Int)) = cs.map (fun b => (b.ins.length : Int)) := map_rel (p := Blk.pb) (fun a b e => by rw [(pb_eq e).2.2]) bs cs h
  have h2 : ∀ l : List Blk, ∀ c : Int, l.foldl (fun c b => Go.RowKit.wrap64 (c + b.ins.length)) c = (l.map (fun b => (b.ins.length : Int))).foldl (fun c n => Go.RowKit.wrap64 (c + n)) c := by
    intro l
    induction l with
    | nil => exact fun _ => rfl
    | cons b l ih => exact fun c => ih _
  unfold cntW
  rw [h2, h2, h1]
theorem BEq.len {bs cs : List Blk} (h : BEq bs cs) : bs.length = cs.length := by
  have h1 := congrArg List.length h
  simpa using h1
def blkOf (b : PB) : Blk := ⟨b.cap, b.param, none, 0, b.ins⟩
def errQ (bs : List PB) (ss : List Stt) : Int := errP ⟨none, 0, bs.map blkOf, none, 0, ss⟩
theorem errP_pl (p : Prg) : errP p = errQ (p.bs.map Blk.pb) p.ss := by
  have h : BEq p.bs ((p.bs.map Blk.pb).map blkOf) := by
    unfold BEq
    rw [List.map_map, List.map_map]
    exact List.map_congr_left fun b _ => rfl
  unfold errQ errP
  simp only
  rw [← h.len, ← h.cnt, ← map_rel (p := Blk.pb) (f := errB p.bs) (g := errB ((p.bs.map Blk.pb).map blkOf)) (fun a b e => h.errB e) _ _ h]
  have h2 : errS p.bs p.ss = errS ((p.bs.map Blk.pb).map blkOf) p.ss := by
    funext i
    unfold errS
    simp only [h.plain]
  rw [h2]
def Nam.pr (n : Nam) : T × Int := (n.pack, n.id)
def fuelL (L : List Cod) : Nat := (spots (pls L)).length + 1
def linkV (L : List Cod) (R : List Nam) : Int × List PB × List Stt :=
  if errL L ≠ 0 then (errL L, [], []) else match rootsK (pls L) [] (R.map Nam.pr) with
  | none => (8, [], [])
  | some K0 => match bfs (pls L) (fuelL L) 0 K0 with
    | some (some K) => if errQ (progB (pls L) K) (startsOf (rootN L K) (R.map Nam.pr)) ≠ 0 then (errQ (progB (pls L) K) (startsOf (rootN L K) (R.map Nam.pr)), [], []) else (0, progB (pls L) K, startsOf (rootN L K) (R.map Nam.pr))
    | _ => (21, [], [])
def LkP (L : List Cod) (R : List Nam) (w : World) (e : Ending) (w' : World) : Prop := ∃ X : Prg, e = .returned (.tuple #[X.v, iv (linkV L R).1]) ∧ X.Rd w' ∧ X.bs.map Blk.pb = (linkV L R).2.1 ∧ X.ss = (linkV L R).2.2 ∧ Gr w w' ∧ ∀ b ∈ X.bs, b.ins.length ≤ 100000
theorem LM.same {kb m1 m2 base cp n : Nat} {Ad : Option Addr} {dl : MK Nam} {K : List Sp} {v : Value} {V V' : World} (h : LM kb m1 m2 base Ad cp n dl K v V) (h1 : V'.heap[kb]? = V.heap[kb]?) (h2 : V'.heap[m1]? = V.heap[m1]?) (h3 : V'.heap[m2]? = V.heap[m2]?) (h4 : ∀ j, v.ownBlock = some j → V'.heap[j]? = V.heap[j]?) : LM kb m1 m2 base Ad cp n dl K v V' :=
  ⟨h1.trans h.h, h.d.keep h2, h.ld, h.n.keep h3, h.ln, or_at h.o h4, h.lt, h.ne⟩
structure LkS (w : World) (b7 kb m1 m2 base cp n : Nat) (Ad : Option Addr) (L : List Cod) (ds : List Deferred) (K : List Sp) (v : Value) (V : World) : Prop where
  gr : Gr w V
  r4 : V.heap[w.heap.size]? = some (.cells #[.slice none 0 0, .slice none 0 0] 26 (0, 0))
  r5 : V.heap[w.heap.size + 1]? = some (.cells #[iv 0] 27 (0, 0))
  k7 : V.heap[b7]? = some (.cells #[.pointer (some ⟨kb, 0, none⟩)] 104 (0, 0))
  lm : LM kb m1 m2 base Ad cp n (dlF 0 L) K v V
  lt : w.heap.size + 2 ≤ m1 ∧ w.heap.size + 2 ≤ m2 ∧ w.heap.size + 2 ≤ kb ∧ base ≤ b7
  ow : v.ownBlock ≠ some b7
  mks : Mks (w.heap.size + 2) V ds
section
variable {w V W W' : World} {b7 kb m1 m2 base cp n : Nat} {Ad : Option Addr} {L : List Cod} {ds : List Deferred} {K K' : List Sp} {v v' : Value}
theorem LkS.go (h : LkS w b7 kb m1 m2 base cp n Ad L ds K v V) (g : Gr V W) : LkS w b7 kb m1 m2 base cp n Ad L ds K v W :=
  ⟨h.gr.trans g, gr_h g h.r4, gr_h g h.r5, gr_h g h.k7, h.lm.gr g, h.lt, h.ow, h.mks.gr g⟩
theorem LkS.need (h : LkS w b7 kb m1 m2 base cp n Ad L ds K v W) (l' : LM kb m1 m2 base Ad cp n (dlF 0 L) K' v' W') (f : NF kb m2 base v W W') (o : ∀ j, v'.ownBlock = some j → v.ownBlock = some j ∨ W.heap.size ≤ j) : LkS w b7 kb m1 m2 base cp n Ad L ds K' v' W' := by
  obtain ⟨l1, l2, l3, l4⟩ := h.lt
  obtain ⟨l5, l6, l7⟩ := h.lm.lt
  have own : ∀ j, v.ownBlock = some j → base ≤ j := fun j hj => (h.lm.o.lt j hj).1
  have st : ∀ k, k < W.heap.size → k < w.heap.size + 2 → W'.heap[k]? = W.heap[k]? := fun k hk h2 => f.same k hk (by omega) (by omega) (fun e => by have := own k e; omega)
  refine ⟨⟨f.os.trans h.gr.os, f.tape.trans h.gr.tape, f.output.trans h.gr.output, Nat.le_trans h.gr.size f.size, fun k hk hn => (st k (Nat.lt_of_lt_of_le hk h.gr.size) (by omega)).trans (h.gr.block k hk hn)⟩, (st _ (heap_lt h.r4) (by omega)).trans h.r4, (st _ (heap_lt h.r5) (by omega)).trans h.r5, (f.same b7 (heap_lt h.k7) (by omega) (by omega) h.ow).trans h.k7, l', h.lt, ?_, ?_⟩
  · intro e
    rcases o b7 e with h1 | h1
    · exact h.ow h1
    · have := heap_lt h.k7; omega
  · refine h.mks.keep fun q hq hr => (f.same q (heap_lt hr) ?_ ?_ ?_).trans hr
    · rintro rfl; rw [h.lm.h] at hr; cases hr
    · rintro rfl; have := h.lm.n; unfold MP at this; rw [this] at hr; cases hr
    · intro e
      rcases h.lm.o.2 with ⟨e2, -⟩ | ⟨gg, cap, cur, e2, -, hh, -⟩
      · subst e2; cases e
      · subst e2
        simp only [Value.ownBlock, Option.some.injEq] at e
        subst e
        rw [hh] at hr
        cases hr
theorem LkS.same (h : LkS w b7 kb m1 m2 base cp n Ad L ds K v W) (os : W'.os = W.os) (tp : W'.tape = W.tape) (ot : W'.output = W.output) (sz : W.heap.size ≤ W'.heap.size) {B : Nat} (hb : b7 < B) (hd : ∀ r, (⟨.collected r, #[]⟩ : Deferred) ∈ ds → r < B) (hw : w.heap.size + 2 ≤ B) (hk : ∀ k, k < B → W'.heap[k]? = W.heap[k]?) (ho : ∀ j, v.ownBlock = some j → W'.heap[j]? = W.heap[j]?) : LkS w b7 kb m1 m2 base cp n Ad L ds K v W' := by
  obtain ⟨l1, l2, l3, l4⟩ := h.lt
  obtain ⟨l5, l6, l7⟩ := h.lm.lt
  have mk : ∀ es : List Deferred, (∀ r, (⟨.collected r, #[]⟩ : Deferred) ∈ es → r < B) → Mks (w.heap.size + 2) W es → Mks (w.heap.size + 2) W' es := by
    intro es
    induction es with
    | nil => exact fun _ _ => trivial
    | cons e es ih =>
      intro hr ⟨⟨r, h1, h2, h3, h4⟩, h5⟩
      exact ⟨⟨r, h1, h2, (hk r (hr r (by rw [h1]; simp))).trans h3, h4⟩, ih (fun r hm => hr r (by simp [hm])) h5⟩
  exact ⟨⟨os.trans h.gr.os, tp.trans h.gr.tape, ot.trans h.gr.output, Nat.le_trans h.gr.size sz, fun k h1 h2 => (hk k (by omega)).trans (h.gr.block k h1 h2)⟩, (hk _ (by omega)).trans h.r4, (hk _ (by omega)).trans h.r5, (hk _ hb).trans h.k7, h.lm.same (hk _ (by omega)) (hk _ (by omega)) (hk _ (by omega)) ho, h.lt, h.ow, mk ds hd h.mks⟩
theorem LkS.c (h : LkS w b7 kb m1 m2 base cp n Ad L ds K v V) : V.cell? ⟨b7, 0, none⟩ = some (.pointer (some ⟨kb, 0, none⟩)) ∧ V.cell? ⟨w.heap.size, 0, none⟩ = some (.slice none 0 0) ∧ V.cell? ⟨w.heap.size, 1, none⟩ = some (.slice none 0 0) ∧ V.cell? ⟨w.heap.size + 1, 0, none⟩ = some (iv 0) ∧ (∀ j, V.frozen? ⟨w.heap.size, j, none⟩ = false) ∧ ∀ j, V.frozen? ⟨w.heap.size + 1, j, none⟩ = false :=
  ⟨by rw [Lib.cell_of_heap h.k7]; rfl, by rw [Lib.cell_of_heap h.r4]; rfl, by rw [Lib.cell_of_heap h.r4]; rfl, by rw [Lib.cell_of_heap h.r5]; rfl, frz h.r4, frz h.r5⟩
end
end Go.Proofs.YtgboboljgcfggaaGreatDoor
namespace Go.Proofs.YtgboboljgcfggaaGreatDoor
open Go.RowKit Go.Maps
def stR (p : Prg) (n : Nam) : Int × Int := if errP p ≠ 0 then (0, 1) else match p.ss.find? (fun s => s.pack == n.pack && s.id == n.id) with
  | some s => (s.block, 0)
  | none => (0, 8)
structure Prg.Len (p : Prg) : Prop where
  b : p.bs.length ≤ 9223372036854775807
  s : p.ss.length ≤ 9223372036854775807
  i : ∀ b ∈ p.bs, b.ins.length ≤ 9223372036854775807
  n : ∀ b ∈ p.bs, ∀ x ∈ b.ins, x.name.length ≤ 9223372036854775807
  k : ∀ s ∈ p.ss, s.pack.length ≤ 9223372036854775807
attribute [local irreducible] Calls in
set_option maxRecDepth 100000 in
set_option maxHeartbeats 4000000 in
theorem start_any (p : Prg) (n : Nam) (w : World) (hp : p.Rd w) (hl : p.Len) : Calls Tryz.prog 11 #[p.v, .agg #[.string ⟨n.pack.toArray⟩, .int .i64 n.id]] w fun e w' => e = .returned (.tuple #[iv (stR p n).1, iv (stR p n).2]) ∧ Gr w w' := by
  unfold Prg.v
  obtain ⟨ns, hns⟩ : ∃ m, p.ss.length = m := ⟨_, rfl⟩
  obtain ⟨ex, hex⟩ : ∃ e, errP p = e := ⟨_, rfl⟩
  have hnl := hl.s
  rw [hns] at hnl
  have CK := Lib.hid (fun V (g : Gr w V) => show Calls Tryz.prog 26 #[.agg #[.slice p.bA p.bs.length p.bc, .slice p.sA ns p.sc]] V (fun e w' => e = .returned (.int .i64 ex) ∧ Below V.heap.size V w') from by
    have h := check_any p V (hp.below (below_of g)) hl.b hl.s hl.i hl.n hl.k
    unfold Prg.v at h
    rw [hns, hex] at h
    exact h)
  have HS := Lib.hid (fun V (g : Gr w V) => hp.s.gr g)
  have HNS := Lib.hid hns
  have HEX := Lib.hid hex
  rw [hns]
  clear hp hl hns hex
  have GW := Lib.hid ((gr_al w (.cells #[.slice p.bA p.bs.length p.bc, .slice p.sA ns p.sc] 26)).trans (gr_al _ (.cells #[.string ⟨n.pack.toArray⟩, .int .i64 n.id] 33)))
  have HB := Lib.hid (fun V (g : Gr ((w.alloc (.cells #[.slice p.bA p.bs.length p.bc, .slice p.sA ns p.sc] 26)).alloc (.cells #[.string ⟨n.pack.toArray⟩, .int .i64 n.id] 33)) V) => (show V.cell? ⟨w.heap.size, 0, none⟩ = some (.slice p.bA p.bs.length p.bc) ∧ V.cell? ⟨w.heap.size, 1, none⟩ = some (.slice p.sA ns p.sc) ∧ V.cell? ⟨w.heap.size + 1, 0, none⟩ = some (.string ⟨n.pack.toArray⟩) ∧ V.cell? ⟨w.heap.size + 1, 1, none⟩ = some (.int .i64 n.id) from by
    have h := gr_h g (gr_h (gr_al _ _) (al_new w (.cells #[.slice p.bA p.bs.length p.bc, .slice p.sA ns p.sc] 26)))
    have h2 := gr_h g (al_at (w.alloc (.cells #[.slice p.bA p.bs.length p.bc, .slice p.sA ns p.sc] 26)) (.cells #[.string ⟨n.pack.toArray⟩, .int .i64 n.id] 33) (A := w.heap.size + 1) (by simp))
    exact ⟨by rw [Lib.cell_of_heap h]; rfl, by rw [Lib.cell_of_heap h]; rfl, by rw [Lib.cell_of_heap h2]; rfl, by rw [Lib.cell_of_heap h2]; rfl⟩))
  go_enter Tryz.func11, Tryz.ntmps11
  go_upto_region 1 with (fail)
  generalize (w.alloc (.cells #[.slice p.bA p.bs.length p.bc, .slice p.sA ns p.sc] 26)).alloc (.cells #[.string ⟨n.pack.toArray⟩, .int .i64 n.id] 33) = W0 at *
  obtain ⟨p0, p1, n0, n1⟩ := HB.out _ (gr_refl _)
  by_cases h0 : ex = 0
  · have t1 : (ex != 0) = false := by simp [h0]
    have HX0 := Lib.hid (show errP p = 0 from HEX.out.trans h0)
    clear h0
    go_upto_region 3 with (go_at_call 26; refine (CK.out _ GW.out).mono ?_; rintro e W1 ⟨rfl, b1⟩; have G1 := Lib.hid (gr_of b1); clear b1)
    clear p0 p1 n0 n1
    obtain ⟨p0, p1, n0, n1⟩ := HB.out _ G1.out
    go_wp2
    go_loopw [14] (fun u V => ∃ k : Nat, k ≤ ns ∧ u = .int .i64 k ∧ Hid (Gr W0 V ∧ ∀ s ∈ p.ss.take k, (s.pack == n.pack && s.id == n.id) = false)) (fun u _ => ns - (intOf u).toNat)
    case atStart => exact ⟨0, Nat.zero_le _, rfl, Lib.hid ⟨G1.out, by simp⟩⟩
    case round =>
      clear p0 p1 n0 n1
      obtain ⟨k, hk, rfl, HR⟩ := hrel
      obtain ⟨-, -, n0, n1⟩ := HB.out _ HR.out.1
      by_cases hlt : k < ns
      · obtain ⟨s, hs⟩ : ∃ s, p.ss[k]? = some s := ⟨_, List.getElem?_eq_getElem (by rw [HNS.out]; exact hlt)⟩
        obtain ⟨a, a1, eA, ha, hab, y0, y1, y2⟩ := (HS.out _ (GW.out.trans HR.out.1)).stt (k := k) (by rw [HNS.out]; exact hlt)
        have hsi : p.ss[k]'(by rw [HNS.out]; exact hlt) = s := by rw [List.getElem?_eq_getElem (by rw [HNS.out]; exact hlt)] at hs; exact Option.some.inj hs
        rw [hsi] at y0 y1 y2
        rw [eA]
        have HSI := Lib.hid hs
        have FND := Lib.hid (show (s.pack == n.pack && s.id == n.id) = true → stR p n = (s.block, 0) from fun h => by
          unfold stR
          rw [if_neg (fun h2 => h2 HX0.out)]
          have h3 : p.ss.find? (fun s => s.pack == n.pack && s.id == n.id) = some s := by
            rw [← List.take_append_drop k p.ss, List.find?_append, List.find?_eq_none.2 (fun x hx => by rw [HR.out.2 x hx]; simp), Option.none_or]
            obtain ⟨hk', e⟩ := List.getElem?_eq_some_iff.1 hs
            rw [List.drop_eq_getElem_cons hk', e, List.find?_cons, h]
          rw [h3])
        have NXT := Lib.hid (show (s.pack == n.pack && s.id == n.id) = false → ∀ x ∈ p.ss.take (k + 1), (x.pack == n.pack && x.id == n.id) = false from fun h x hx => by
          rw [List.take_add_one, hs, List.mem_append] at hx
          rcases hx with hx | hx
          · exact HR.out.2 x hx
          · simp at hx; subst hx; exact h)
        clear hs hsi
        have n0a := gr_c (gr_al wr (.cells #[.string ⟨s.pack.toArray⟩, .int .i64 s.id, .int .i64 s.block] 79)) n0
        have n1a := gr_c (gr_al wr (.cells #[.string ⟨s.pack.toArray⟩, .int .i64 s.id, .int .i64 s.block] 79)) n1
        cases e1 : (s.pack == n.pack) with
        | false =>
          rw [e1] at FND NXT
          have NX := Lib.hid (NXT.out rfl)
          go_wp2
          exact ⟨⟨k + 1, by omega, by simp, Lib.hid ⟨HR.out.1.trans (gr_al _ _), NX.out⟩⟩, by simp [intOf]; omega⟩
        | true =>
          cases e2 : (s.id == n.id) with
          | false =>
            rw [e1, e2] at FND NXT
            have NX := Lib.hid (NXT.out rfl)
            go_wp2
            exact ⟨⟨k + 1, by omega, by simp, Lib.hid ⟨HR.out.1.trans (gr_al _ _), NX.out⟩⟩, by simp [intOf]; omega⟩
          | true =>
            rw [e1, e2] at FND NXT
            have FN := Lib.hid (FND.out rfl)
            go_wp2
            go_ret2
            exact ⟨by rw [FN.out]; rfl, GW.out.trans (HR.out.1.trans (gr_al _ _))⟩
      · obtain rfl : ns = k := by omega
        have FN := Lib.hid (show stR p n = (0, 8) from by
          unfold stR
          rw [if_neg (fun h2 => h2 HX0.out)]
          have h3 : p.ss.find? (fun s => s.pack == n.pack && s.id == n.id) = none := List.find?_eq_none.2 (fun x hx => by
            have h := HR.out.2
            rw [List.take_of_length_le (Nat.le_of_eq HNS.out)] at h
            rw [h x hx]; simp)
          rw [h3])
        go_wp2
        go_ret2
        exact ⟨by rw [FN.out]; rfl, GW.out.trans HR.out.1⟩
  · have t1 : (ex != 0) = true := by simpa using h0
    have HX0 := Lib.hid (show stR p n = (0, 1) from by unfold stR; rw [if_pos (by rw [HEX.out]; exact h0)])
    clear h0
    go_wp2_with (go_at_call 26; refine (CK.out _ GW.out).mono ?_; rintro e W1 ⟨rfl, b1⟩; have G1 := Lib.hid (gr_of b1); clear b1)
    go_ret2
    exact ⟨by rw [HX0.out]; rfl, GW.out.trans G1.out⟩
end Go.Proofs.YtgboboljgcfggaaGreatDoor
namespace Go.Proofs.YtgboboljgcfggaaGreatDoor
open Go.ChangeShapes Go.WideShapes Go.ChangeAt Go.RowKit Go.Joins Go.Deep
theorem own : ownKnob Tryz.prog.godebug = none := by kernel_rfl
theorem laidOut : laidOutB Tryz.prog = true := by kernel_rfl
section
variable {H : Type} {enc : TypeId × Value → H} {P : Program} {W : World} {base : Nat} {spare : Nat → Bool} {held : Bool}
theorem open_recs {α : Type} [Inhabited α] {t e : TypeId} {n : Nat} {cs : α → List Value} {ok : α → Prop} (ht : P.underlying t = some (.slice e)) (hn : P.cellsOf e = n) (h0 : 0 < n)
    (hr : ∀ (k : Nat) (vs : List Value) (y : DataW H × List MemPlace), DataW.trod enc P W base spare held k e vs = some y → vs.length = n → ∃ x : α, vs = cs x ∧ ok x)
    {fuel : Nat} {v : Value} {x : DataW H × List MemPlace} (h : DataW.trod enc P W base spare held fuel t [v] = some x) :
    ∃ (A : Option Addr) (c : Nat) (L : List α), v = .slice A L.length c ∧ L.length ≤ 9223372036854775807 ∧ RD n cs W A L ∧ ∀ x ∈ L, ok x := by
  rcases open_slice ht h with ⟨e1, _⟩ | ⟨a, len, cap, m, k, D, Pl, e1, hb, hl, hm, hmm, _, hx⟩
  · have e1 : v = .slice none 0 0 := by simpa using e1
    exact ⟨none, 0, [], e1, by simp, .inl rfl, by simp⟩
  · have e1 : v = .slice (some a) len cap := by simpa using e1
    have hlm : len ≤ m := by rw [hmm]; split <;> omega
    have hm' : cap ≤ 9223372036854775807 := by unfold maxLen at hm; omega
    rw [hn] at hx
    obtain ⟨X, hX⟩ := choose_lt (α := α) (n := m) (p := fun i x => (∀ j v, (cs x)[j]? = some v → W.cell? (a.add (i * n + j)) = some v) ∧ (cs x).length = n ∧ ok x) (fun i hi => by
      obtain ⟨cs', h1, h2⟩ := hx i hi
      obtain ⟨_, hlen, hcell⟩ := World.cells?_some h1
      obtain ⟨x, rfl, hok⟩ := hr k cs' _ h2 hlen
      refine ⟨x, fun j v hj => ?_, hlen, hok⟩
      have hjn : j < n := by
        rcases Nat.lt_or_ge j n with h' | h'
        · exact h'
        · rw [List.getElem?_eq_none (by omega)] at hj; cases hj
      rw [← add_add', hcell j hjn]
      exact hj)
    refine ⟨some a, cap, (List.range len).map X, by simpa using e1, by simp; omega, ?_, fun x hx' => ?_⟩
    · rcases Nat.eq_zero_or_pos len with h9 | h9
      · left; subst h9; simp
      · refine .inr ⟨a, rfl, ?_, fun j y hj i v hi => ?_⟩
        · obtain ⟨h1, h2, _⟩ := hX 0 (by omega)
          have h3 := h1 0 _ (List.getElem?_eq_getElem (by omega))
          have := World.block_lt_of_cell? W _ h3
          rwa [add_block] at this
        · rw [List.getElem?_map] at hj
          by_cases hjl : j < len
          · rw [List.getElem?_range hjl] at hj
            simp only [Option.map_some, Option.some.injEq] at hj
            subst hj
            exact (hX j (by omega)).1 i v hi
          · rw [List.getElem?_eq_none (by simp; omega)] at hj; simp at hj
    · obtain ⟨i, hi, rfl⟩ := List.mem_map.1 hx'
      rw [List.mem_range] at hi
      exact (hX i (by omega)).2.2
end
section
variable {H : Type} {enc : TypeId × Value → H} {W : World} {base : Nat} {spare : Nat → Bool} {held : Bool}
instance : Inhabited Ins := ⟨⟨0, 0, 0, []⟩⟩
instance : Inhabited Stt := ⟨⟨[], 0, 0⟩⟩
instance : Inhabited Blk := ⟨⟨0, false, none, 0, []⟩⟩
instance : Inhabited Dcl := ⟨⟨0, 0, 0⟩⟩
instance : Inhabited Cod := ⟨⟨[], none, 0, [], none, 0, []⟩⟩
instance : Inhabited Nam := ⟨⟨[], 0⟩⟩
theorem list2 {α : Type} {l : List α} (h : l.length = 2) : ∃ a b, l = [a, b] := by
  match l, h with
  | [a, b], _ => exact ⟨a, b, rfl⟩
theorem list3 {α : Type} {l : List α} (h : l.length = 3) : ∃ a b c, l = [a, b, c] := by
  match l, h with
  | [a, b, c], _ => exact ⟨a, b, c, rfl⟩
theorem list4 {α : Type} {l : List α} (h : l.length = 4) : ∃ a b c d, l = [a, b, c, d] := by
  match l, h with
  | [a, b, c, d], _ => exact ⟨a, b, c, d, rfl⟩
set_option maxRecDepth 100000 in
theorem read_ins (k : Nat) (vs : List Value) (y : DataW H × List MemPlace) (h : DataW.trod enc Tryz.prog W base spare held k 71 vs = some y) (hl : vs.length = 4) : ∃ x : Ins, vs = x.cs ∧ x.name.length ≤ 9223372036854775807 := by
  obtain ⟨y0, y1, y2, y3, n, _, _, h0, h1, h2, h3⟩ := trod_struct4 Tryz.underlying71 h
  obtain ⟨a, b, c, d, rfl⟩ := list4 hl
  have c3 : Tryz.prog.cellsOf 3 = 1 := by kernel_rfl
  have c9 : Tryz.prog.cellsOf 9 = 1 := by kernel_rfl
  simp only [c3, c9, List.drop_zero, List.drop_succ_cons, List.take_succ_cons, List.take_zero] at h0 h1 h2 h3
  obtain ⟨n0, e0, _⟩ := DataW.trod_int Tryz.underlying3 h0
  obtain ⟨n1, e1, _⟩ := DataW.trod_int Tryz.underlying3 h1
  obtain ⟨n2, e2, _⟩ := DataW.trod_int Tryz.underlying3 h2
  obtain ⟨s, e3, _, hs⟩ := DataW.trod_string Tryz.underlying9 h3
  simp only [List.cons.injEq, and_true] at e0 e1 e2 e3
  subst e0; subst e1; subst e2; subst e3
  refine ⟨⟨n0, n1, n2, s.data.toList⟩, rfl, ?_⟩
  have : s.data.toList.length = s.size := Array.length_toList
  show s.data.toList.length ≤ _
  rw [this]
  unfold maxLen at hs
  omega
set_option maxRecDepth 100000 in
theorem read_nam (k : Nat) (vs : List Value) (y : DataW H × List MemPlace) (h : DataW.trod enc Tryz.prog W base spare held k 33 vs = some y) (hl : vs.length = 2) : ∃ x : Nam, vs = x.cs ∧ x.Ok := by
  obtain ⟨y0, y1, n, _, _, h0, h1⟩ := trod_struct2 Tryz.underlying33 h
  obtain ⟨a, b, rfl⟩ := list2 hl
  have c3 : Tryz.prog.cellsOf 3 = 1 := by kernel_rfl
  have c9 : Tryz.prog.cellsOf 9 = 1 := by kernel_rfl
  simp only [c3, c9, List.drop_zero, List.drop_succ_cons, List.take_succ_cons, List.take_zero] at h0 h1
  obtain ⟨s, e0, _, hs⟩ := DataW.trod_string Tryz.underlying9 h0
  obtain ⟨n1, e1, _, hw⟩ := DataW.trod_int Tryz.underlying3 h1
  simp only [List.cons.injEq, and_true] at e0 e1
  subst e0; subst e1
  refine ⟨⟨s.data.toList, n1⟩, rfl, ?_, hw⟩
  have : s.data.toList.length = s.size := Array.length_toList
  show s.data.toList.length ≤ _
  rw [this]
  unfold maxLen at hs ⊢
  omega
set_option maxRecDepth 100000 in
theorem read_dcl (k : Nat) (vs : List Value) (y : DataW H × List MemPlace) (h : DataW.trod enc Tryz.prog W base spare held k 126 vs = some y) (hl : vs.length = 3) : ∃ x : Dcl, vs = x.cs ∧ True := by
  obtain ⟨y0, y1, y2, n, _, _, h0, h1, h2⟩ := trod_struct3 Tryz.underlying126 h
  obtain ⟨a, b, c, rfl⟩ := list3 hl
  have c3 : Tryz.prog.cellsOf 3 = 1 := by kernel_rfl
  simp only [c3, List.drop_zero, List.drop_succ_cons, List.take_succ_cons, List.take_zero] at h0 h1 h2
  obtain ⟨n0, e0, _⟩ := DataW.trod_int Tryz.underlying3 h0
  obtain ⟨n1, e1, _⟩ := DataW.trod_int Tryz.underlying3 h1
  obtain ⟨n2, e2, _⟩ := DataW.trod_int Tryz.underlying3 h2
  simp only [List.cons.injEq, and_true] at e0 e1 e2
  subst e0; subst e1; subst e2
  exact ⟨⟨n0, n1, n2⟩, rfl, trivial⟩
def BlkOk (W : World) (x : Blk) : Prop := RD 4 Ins.cs W x.A x.ins ∧ x.ins.length ≤ 9223372036854775807 ∧ ∀ i ∈ x.ins, i.name.length ≤ 9223372036854775807
set_option maxRecDepth 100000 in
theorem read_blk (k : Nat) (vs : List Value) (y : DataW H × List MemPlace) (h : DataW.trod enc Tryz.prog W base spare held k 69 vs = some y) (hl : vs.length = 3) : ∃ x : Blk, vs = x.cs ∧ BlkOk W x := by
  obtain ⟨y0, y1, y2, n, _, _, h0, h1, h2⟩ := trod_struct3 Tryz.underlying69 h
  obtain ⟨a, b, c, rfl⟩ := list3 hl
  have c3 : Tryz.prog.cellsOf 3 = 1 := by kernel_rfl
  have c4 : Tryz.prog.cellsOf 4 = 1 := by kernel_rfl
  have cL : Tryz.prog.cellsOf 67 = 1 := by kernel_rfl
  simp only [c3, c4, cL, List.drop_zero, List.drop_succ_cons, List.take_succ_cons, List.take_zero] at h0 h1 h2
  obtain ⟨n0, e0, _⟩ := DataW.trod_int Tryz.underlying3 h0
  obtain ⟨q, e1, _⟩ := DataW.trod_bool Tryz.underlying4 h1
  obtain ⟨A, cc, L, e2, hl2, hrd, hok⟩ := open_recs (ok := fun x : Ins => x.name.length ≤ 9223372036854775807) Tryz.underlying67 (show Tryz.prog.cellsOf 71 = 4 by kernel_rfl) (by decide) (fun k vs y h hl => read_ins k vs y h hl) h2
  simp only [List.cons.injEq, and_true] at e0 e1
  subst e0; subst e1; subst e2
  exact ⟨⟨n0, q, A, cc, L⟩, rfl, hrd, hl2, hok⟩
def CodOk (W : World) (c : Cod) : Prop := c.Rd W ∧ c.Lim
set_option maxRecDepth 100000 in
theorem read_cod (k : Nat) (vs : List Value) (y : DataW H × List MemPlace) (h : DataW.trod enc Tryz.prog W base spare held k 65 vs = some y) (hl : vs.length = 3) : ∃ x : Cod, vs = x.cs ∧ CodOk W x := by
  obtain ⟨y0, y1, y2, n, _, _, h0, h1, h2⟩ := trod_struct3 Tryz.underlying65 h
  obtain ⟨a, b, c, rfl⟩ := list3 hl
  have c9 : Tryz.prog.cellsOf 9 = 1 := by kernel_rfl
  have cB : Tryz.prog.cellsOf 23 = 1 := by kernel_rfl
  have cD : Tryz.prog.cellsOf 63 = 1 := by kernel_rfl
  simp only [c9, cB, cD, List.drop_zero, List.drop_succ_cons, List.take_succ_cons, List.take_zero] at h0 h1 h2
  obtain ⟨s, e0, _, hs⟩ := DataW.trod_string Tryz.underlying9 h0
  obtain ⟨bA, bc, L, e1, hl1, hrd1, hok1⟩ := open_recs (ok := BlkOk W) Tryz.underlying23 (show Tryz.prog.cellsOf 69 = 3 by kernel_rfl) (by decide) (fun k vs y h hl => read_blk k vs y h hl) h1
  obtain ⟨dA, dc, M, e2, hl2, hrd2, _⟩ := open_recs (ok := fun _ : Dcl => True) Tryz.underlying63 (show Tryz.prog.cellsOf 126 = 3 by kernel_rfl) (by decide) (fun k vs y h hl => read_dcl k vs y h hl) h2
  simp only [List.cons.injEq, and_true] at e0
  subst e0; subst e1; subst e2
  refine ⟨⟨s.data.toList, bA, bc, L, dA, dc, M⟩, rfl, ⟨hrd1, fun x hx => (hok1 x hx).1, hrd2⟩, ⟨?_, hl1, hl2, fun b hb => (hok1 b hb).2.1, fun b hb => (hok1 b hb).2.2⟩⟩
  have : s.data.toList.length = s.size := Array.length_toList
  show s.data.toList.length ≤ _
  rw [this]
  unfold maxLen at hs
  omega
set_option maxRecDepth 100000 in
theorem open_cods {r : Reach} {b0 : Nat} {v : Value} {d : DataW H} {ps : List MemPlace} (hv : Value.okWide Tryz.prog W r b0 40 v) (h : DataW.Trod enc Tryz.prog W base spare held 40 v d ps) : ∃ (A : Option Addr) (c : Nat) (L : List Cod), v = .slice A L.length c ∧ L.length ≤ 9223372036854775807 ∧ CRd W A L ∧ ∀ x ∈ L, x.Lim := by
  have hs : ∃ A n c, v = .slice A n c := by
    simp only [Value.okWide, Tryz.underlying40, Cell.okWide] at hv
    cases v <;> simp_all [Cell.ok]
  obtain ⟨A, n, c, rfl⟩ := hs
  obtain ⟨fuel, hf⟩ := h
  obtain ⟨A', c', L, e, hl, hr, hok⟩ := open_recs (ok := CodOk W) Tryz.underlying40 (show Tryz.prog.cellsOf 65 = 3 by kernel_rfl) (by decide) (fun k vs y h hl => read_cod k vs y h hl) hf
  exact ⟨A', c', L, e, hl, ⟨hr, fun c hc => (hok c hc).1⟩, fun c hc => (hok c hc).2⟩
set_option maxRecDepth 100000 in
theorem open_nams {r : Reach} {b0 : Nat} {v : Value} {d : DataW H} {ps : List MemPlace} (hv : Value.okWide Tryz.prog W r b0 41 v) (h : DataW.Trod enc Tryz.prog W base spare held 41 v d ps) : ∃ (A : Option Addr) (c : Nat) (L : List Nam), v = .slice A L.length c ∧ L.length ≤ 9223372036854775807 ∧ RD 2 Nam.cs W A L ∧ ∀ x ∈ L, x.Ok := by
  have hs : ∃ A n c, v = .slice A n c := by
    simp only [Value.okWide, Tryz.underlying41, Cell.okWide] at hv
    cases v <;> simp_all [Cell.ok]
  obtain ⟨A, n, c, rfl⟩ := hs
  obtain ⟨fuel, hf⟩ := h
  obtain ⟨A', c', L, e, hl, hr, hok⟩ := open_recs (ok := Nam.Ok) Tryz.underlying41 (show Tryz.prog.cellsOf 33 = 2 by kernel_rfl) (by decide) (fun k vs y h hl => read_nam k vs y h hl) hf
  exact ⟨A', c', L, e, hl, hr, hok⟩
end
end Go.Proofs.YtgboboljgcfggaaGreatDoor
namespace Go.Proofs.YtgboboljgcfggaaGreatDoor
open Go.ChangeShapes Go.WideShapes Go.ChangeAt Go.RowKit Go.Joins Go.Deep
section
variable {H : Type} {enc : TypeId × Value → H} {W : World} {base : Nat} {spare : Nat → Bool} {held : Bool}
set_option maxRecDepth 100000 in
theorem open_chosen {r : Reach} {b0 : Nat} {v : Value} {d : DataW H} {ps : List MemPlace} (hv : Value.okWide Tryz.prog W r b0 44 v) (h : DataW.Trod enc Tryz.prog W base spare held 44 v d ps) : ∃ (n : Nat) (s : Int), v = .agg #[.int .u8 n, .int .u64 s] ∧ n < 256 := by
  obtain ⟨v0, v1, y0, y1, n, rfl, _, _, h0, h1⟩ := open_agg2 Tryz.underlying44 (by kernel_rfl) (by kernel_rfl) hv h
  obtain ⟨n0, e0, _, w0⟩ := DataW.trod_int (k := .u8) (by kernel_rfl) h0
  obtain ⟨n1, e1, _⟩ := DataW.trod_int (k := .u64) (by kernel_rfl) h1
  simp only [List.cons.injEq, and_true] at e0 e1
  subst e0; subst e1
  have hw : IntKind.u8.min ≤ n0 ∧ n0 ≤ IntKind.u8.max := by simpa [Lit.wf] using w0
  have hw : 0 ≤ n0 ∧ n0 ≤ 255 := hw
  refine ⟨n0.toNat, n1, ?_, ?_⟩
  · rw [Int.toNat_of_nonneg hw.1]
  · omega
end
end Go.Proofs.YtgboboljgcfggaaGreatDoor
namespace Go.Proofs.YtgboboljgcfggaaGreatDoor
open Go.RowKit Go.Maps
theorem tk_cell {B : Nat} {W W' : World} (h : Tk B W W') {a : Addr} {v : Value} (hc : W.cell? a = some v) : W'.cell? a = some v := by
  unfold World.cell? at hc ⊢
  cases hq : W.heap[a.block]? with
  | none => rw [hq] at hc; cases hc
  | some o =>
    cases o with
    | cells c t f => rw [h.cells _ _ _ _ hq]; rw [hq] at hc; exact hc
    | _ => rw [hq] at hc; cases hc
theorem RD.tk {α : Type} {n B : Nat} {cs : α → List Value} {W W' : World} {A : Option Addr} {L : List α} (h : RD n cs W A L) (t : Tk B W W') : RD n cs W' A L := by
  rcases h with rfl | ⟨a, e, hb, hc⟩
  · exact .inl rfl
  · exact .inr ⟨a, e, by rw [t.size]; exact hb, fun j x hx i v hv => tk_cell t (hc j x hx i v hv)⟩
section
variable {o : Oper} {a : Act} {w : World}
theorem op_faP {x : Tmp} {g f : Nat} (hd : o.dst.isSome = true) (ho : o.op = .fieldAddr 26 (.tmp x) 1) (h : a.eval (.tmp x) = .pointer (some ⟨g, f, none⟩)) : (execOp a.eval o).run Tryz.prog w = .ok (nx o (.pointer (some ⟨g, f + 1, none⟩))) w := by
  rw [nx_some hd]
  unfold Act.eval at h
  obtain ⟨d, op, t, ps, af, gu⟩ := o
  simp only at ho
  subst ho
  go_simp
theorem op_faL {x : Tmp} {i g f : Nat} (hd : o.dst.isSome = true) (hi : i = 1 ∨ i = 2) (ho : o.op = .fieldAddr 113 (.tmp x) i) (h : a.eval (.tmp x) = .pointer (some ⟨g, f, none⟩)) : (execOp a.eval o).run Tryz.prog w = .ok (nx o (.pointer (some ⟨g, f + i, none⟩))) w := by
  rw [nx_some hd]
  unfold Act.eval at h
  obtain ⟨d, op, t, ps, af, gu⟩ := o
  simp only at ho
  subst ho
  rcases hi with rfl | rfl <;> go_simp
theorem op_ldP {x : Tmp} {T : TypeId} {p : Addr} {v : Value} (hd : o.dst.isSome = true) (hT : T = 24 ∨ T = 104 ∨ T = 109 ∨ T = 110) (ho : o.op = .load T (.tmp x)) (h : a.eval (.tmp x) = .pointer (some p)) (hc : w.cell? p = some v) : (execOp a.eval o).run Tryz.prog w = .ok (nx o (v)) w := by
  rw [nx_some hd]
  unfold Act.eval at h
  obtain ⟨d, op, t, ps, af, gu⟩ := o
  simp only at ho
  subst ho
  rcases hT with rfl | rfl | rfl | rfl <;> go_simp
theorem op_ldN {x : Tmp} {g : Nat} {u v : Value} (hd : o.dst.isSome = true) (ho : o.op = .load 33 (.tmp x)) (h : a.eval (.tmp x) = .pointer (some ⟨g, 0, none⟩)) (h0 : w.cell? ⟨g, 0, none⟩ = some u) (h1 : w.cell? ⟨g, 1, none⟩ = some v) : (execOp a.eval o).run Tryz.prog w = .ok (nx o (.agg #[u, v])) w := by
  rw [nx_some hd]
  unfold Act.eval at h
  obtain ⟨d, op, t, ps, af, gu⟩ := o
  simp only at ho
  subst ho
  go_simp
theorem op_lk {x y : Tmp} {T : TypeId} {m k v : Value} (hd : o.dst.isSome = true) (ho : o.op = .lookup T (.tmp x) (.tmp y) false) (h : a.eval (.tmp x) = m) (h' : a.eval (.tmp y) = k) (hr : (Instr.lookup T m k false).run Tryz.prog w = .ok v w) : (execOp a.eval o).run Tryz.prog w = .ok (nx o (v)) w := by
  rw [nx_some hd]
  unfold Act.eval at h h'
  obtain ⟨d, op, t, ps, af, gu⟩ := o
  simp only at ho
  subst ho
  go_simp
theorem op_bd {x y : Tmp} {p u i : Value} (hd : o.dst.isSome = true) (ho : o.op = .build 79 #[(0, .tmp x), (1, .tmp y)]) (h : a.eval (.tmp x) = .agg #[p, u]) (h' : a.eval (.tmp y) = i) (hi : ∃ n, i = iv n) : (execOp a.eval o).run Tryz.prog w = .ok (nx o (.agg #[p, u, i])) w := by
  rw [nx_some hd]
  obtain ⟨n, rfl⟩ := hi
  have h2 : a.tmps[x]?.getD undef = .agg #[p, u] := by simpa [Act.eval] using h
  have h3 : a.tmps[y]?.getD undef = iv n := by simpa [Act.eval] using h'
  obtain ⟨d, op, t, ps, af, gu⟩ := o
  simp only at ho
  subst ho
  go_simp
theorem op_ns {x : Tmp} {m : Nat} {p : T} {i u : Int} (hs : w.heap.size = m) (hd : o.dst.isSome = true) (ho : o.op = .buildSlice 24 1 #[(0, .tmp x)]) (h : a.eval (.tmp x) = .agg #[tv p, iv i, iv u]) : (execOp a.eval o).run Tryz.prog w = .ok (nx o (.slice (some ⟨m, 0, none⟩) 1 1)) (w.alloc (.cells #[tv p, iv i, iv u] 79)) := by
  subst hs
  rw [nx_some hd]
  have h2 : a.tmps[x]?.getD undef = .agg #[tv p, iv i, iv u] := by simpa [Act.eval] using h
  obtain ⟨d, op, t, ps, af, gu⟩ := o
  simp only at ho
  subst ho
  go_simp
end
end Go.Proofs.YtgboboljgcfggaaGreatDoor
namespace Go.Proofs.YtgboboljgcfggaaGreatDoor
open Go.RowKit Go.Maps
attribute [local go_sem] Oper.semAt_some
theorem results_pe {fn : Func} {p q : Tmp} (h : fn.results = #[.cell p 26, .cell q 27]) (tmps : Array Value) (w : World) (a b : Addr) (x y e : Value) (hp : tmps.getD p undef = .pointer (some a)) (hq : tmps.getD q undef = .pointer (some b)) (h0 : w.cell? a = some x) (h1 : w.cell? ⟨a.block, a.off + 1, none⟩ = some y) (h2 : w.cell? b = some e) : (results fn tmps).run Tryz.prog w = .ok (.tuple #[.agg #[x, y], e]) w := by
  have ha := Tryz.isAgg26
  have hz := Tryz.sizeOf26
  have hb := Tryz.isAgg27
  have hp' : tmps[p]?.getD undef = .pointer (some a) := by simpa using hp
  have hq' : tmps[q]?.getD undef = .pointer (some b) := by simpa using hq
  clear hp hq
  simp only [results, h]
  simp [Sem.run_bind, hp', hq', asAddr, go_sem, ha, hz, hb, loadVar, h0, h1, h2]
theorem Prg.Rd.tk {B : Nat} {W W' : World} {X : Prg} (h : X.Rd W) (t : Tk B W W') : X.Rd W' := ⟨h.b.tk t, fun b hb => (h.i b hb).tk t, h.s.tk t⟩
theorem rd_put {α : Type} {n k : Nat} {cs : α → List Value} {W W' : World} {A : Option Addr} {L : List α} (P : Value → Prop) (h : RD n cs W A L) (hk : ∀ a : Addr, a.block = k → ∀ v, W.cell? a = some v → P v) (hx : ∀ x, ∃ (i : Nat) (v : Value), (cs x)[i]? = some v ∧ ¬ P v) (g : W.grownBy W' (some k)) : RD n cs W' A L := by
  cases L with
  | nil => exact .inl rfl
  | cons x L =>
    refine h.but g fun a e e2 => ?_
    rcases h with h | ⟨a', e', hb, hc⟩
    · cases h
    · rw [e] at e'
      cases e'
      obtain ⟨i, v, hi, hp⟩ := hx x
      exact hp (hk _ (by rw [add_block]; exact Option.some.inj e2) v (hc 0 x rfl i v hi))
theorem Prg.Rd.put {k : Nat} {W W' : World} {X : Prg} (h : X.Rd W) (P : Value → Prop) (hk : ∀ a : Addr, a.block = k → ∀ v, W.cell? a = some v → P v) (hp : (∀ A n c, P (.slice A n c)) ∧ (∀ n, ¬ P (iv n)) ∧ (∀ t, ¬ P (tv t)) ∨ (∀ n, P (iv n)) ∧ (∀ b, ¬ P (.bool b)) ∧ (∀ t, ¬ P (tv t))) (g : W.grownBy W' (some k)) : X.Rd W' := by
  refine ⟨rd_put P h.b hk (fun x => ?_) g, fun b hb => rd_put P (h.i b hb) hk (fun x => ?_) g, rd_put P h.s hk (fun x => ?_) g⟩
  · rcases hp with ⟨-, h2, -⟩ | ⟨-, h2, -⟩
    · exact ⟨0, _, rfl, h2 _⟩
    · exact ⟨1, _, rfl, h2 _⟩
  · rcases hp with ⟨-, h2, -⟩ | ⟨-, -, h2⟩
    · exact ⟨0, _, rfl, h2 _⟩
    · exact ⟨3, _, rfl, h2 _⟩
  · rcases hp with ⟨-, -, h2⟩ | ⟨-, -, h2⟩
    · exact ⟨0, _, rfl, h2 _⟩
    · exact ⟨0, _, rfl, h2 _⟩
def isSl (v : Value) : Prop := ∃ A n c, v = .slice A n c
def isIv (v : Value) : Prop := ∃ n, v = iv n
theorem sl_p : (∀ A n c, isSl (.slice A n c)) ∧ (∀ n, ¬ isSl (iv n)) ∧ (∀ t, ¬ isSl (tv t)) ∨ (∀ n, isSl (iv n)) ∧ (∀ b, ¬ isSl (.bool b)) ∧ (∀ t, ¬ isSl (tv t)) :=
  .inl ⟨fun A n c => ⟨A, n, c, rfl⟩, (fun n h => by obtain ⟨A, m, c, e⟩ := h; cases e), (fun n h => by obtain ⟨A, m, c, e⟩ := h; cases e)⟩
theorem iv_p : (∀ A n c, isIv (.slice A n c)) ∧ (∀ n, ¬ isIv (iv n)) ∧ (∀ t, ¬ isIv (tv t)) ∨ (∀ n, isIv (iv n)) ∧ (∀ b, ¬ isIv (.bool b)) ∧ (∀ t, ¬ isIv (tv t)) :=
  .inr ⟨fun n => ⟨n, rfl⟩, (fun n h => by obtain ⟨m, e⟩ := h; cases e), (fun n h => by obtain ⟨m, e⟩ := h; cases e)⟩
theorem cells_of {W : World} {k : Nat} {c : Array Value} {t : TypeId} {P : Value → Prop} (h : W.heap[k]? = some (.cells c t (0, 0))) (hc : ∀ (i : Nat) (v : Value), c[i]? = some v → P v) : ∀ a : Addr, a.block = k → ∀ v, W.cell? a = some v → P v := by
  intro a ha v hv
  unfold World.cell? at hv
  rw [ha, h] at hv
  simp only at hv
  split at hv
  · cases hv
  · exact hc _ _ hv
theorem Prg.Rd.res {W : World} {X : Prg} {m : Nat} {x0 x1 y0 y1 : Value} {e0 e1 : Int} (h : X.Rd W) (h4 : W.heap[m]? = some (.cells #[x0, x1] 26 (0, 0))) (h5 : W.heap[m + 1]? = some (.cells #[iv e0] 27 (0, 0))) (p0 : isSl x0) (p1 : isSl x1) (q0 : isSl y0) :
    X.Rd (((W.setCell ⟨m, 0, none⟩ y0).setCell ⟨m, 1, none⟩ y1).setCell ⟨m + 1, 0, none⟩ (iv e1)) := by
  have s1 : X.Rd (W.setCell ⟨m, 0, none⟩ y0) := h.put isSl (cells_of h4 (fun i v hv => by
    rcases i with _ | _ | i
    · simp at hv; subst hv; exact p0
    · simp at hv; subst hv; exact p1
    · simp at hv)) sl_p (grown_set _ _ _)
  have h4' : (W.setCell ⟨m, 0, none⟩ y0).heap[m]? = some (.cells #[y0, x1] 26 (0, 0)) := by simp [World.setCell, Array.getElem?_modify, h4]
  have s2 : X.Rd ((W.setCell ⟨m, 0, none⟩ y0).setCell ⟨m, 1, none⟩ y1) := s1.put isSl (cells_of h4' (fun i v hv => by
    rcases i with _ | _ | i
    · simp at hv; subst hv; exact q0
    · simp at hv; subst hv; exact p1
    · simp at hv)) sl_p (grown_set _ _ _)
  have h5' : ((W.setCell ⟨m, 0, none⟩ y0).setCell ⟨m, 1, none⟩ y1).heap[m + 1]? = some (.cells #[iv e0] 27 (0, 0)) := (Below.heap_setCell _ _ _ _ (by show m + 1 ≠ m; omega)).trans ((Below.heap_setCell _ _ _ _ (by show m + 1 ≠ m; omega)).trans h5)
  exact s2.put isIv (cells_of h5' (fun i v hv => by
    rcases i with _ | i
    · simp at hv; subst hv; exact ⟨e0, rfl⟩
    · simp at hv)) iv_p (grown_set _ _ _)
theorem lnk_end {w V : World} {ds : List Deferred} {L : List Cod} {R : List Nam} {tmps : Array Value} {x y : Value} {e : Int} {n : Nat} (X : Prg) (h4 : V.heap[w.heap.size]? = some (.cells #[x, y] 26 (0, 0))) (h5 : V.heap[w.heap.size + 1]? = some (.cells #[iv e] 27 (0, 0))) (g : Gr w V) (mk : Mks (w.heap.size + 2) V ds) (hv : X.v = .agg #[x, y]) (hX : X.Rd V) (hr : (e, X.bs.map Blk.pb, X.ss) = linkV L R) (hl : ∀ b ∈ X.bs, b.ins.length ≤ 100000) (t4 : tmps.getD 4 undef = .pointer (some ⟨w.heap.size, 0, none⟩)) (t5 : tmps.getD 5 undef = .pointer (some ⟨w.heap.size + 1, 0, none⟩)) : LeavesInM Fence.wide n Tryz.prog Tryz.f16 tmps (LkP L R w) ds .returning V := by
  refine leaves_mks ds _ mk fun W' hT => ?_
  have k4 := (hT.low _ (by omega)).trans h4
  have k5 := (hT.low _ (by omega)).trans h5
  refine ⟨_, results_pe rfl _ _ ⟨w.heap.size, 0, none⟩ ⟨w.heap.size + 1, 0, none⟩ x y (iv e) t4 t5 (by rw [Lib.cell_of_heap k4]; rfl) (by rw [Lib.cell_of_heap k4]; rfl) (by rw [Lib.cell_of_heap k5]; rfl), X, ?_, hX.tk hT, ?_, ?_, ?_, hl⟩
  · rw [hv, ← hr]
  · rw [← hr]
  · rw [← hr]
  · exact ⟨hT.os.trans g.os, hT.tape.trans g.tape, hT.output.trans g.output, by rw [hT.size]; exact g.size, fun k hk hn => (hT.low k (by omega)).trans (g.block k hk hn)⟩
def nilX : Prg := ⟨none, 0, [], none, 0, []⟩
theorem nilX_rd (w : World) : nilX.Rd w := ⟨.inl rfl, (fun _ h => by cases h), .inl rfl⟩
theorem lnk_err {w V : World} {ds : List Deferred} {L : List Cod} {R : List Nam} {tmps : Array Value} {e : Int} {n : Nat} (h4 : V.heap[w.heap.size]? = some (.cells #[.slice none 0 0, .slice none 0 0] 26 (0, 0))) (h5 : V.heap[w.heap.size + 1]? = some (.cells #[iv e] 27 (0, 0))) (g : Gr w V) (mk : Mks (w.heap.size + 2) V ds) (hr : (e, [], []) = linkV L R) (t4 : tmps.getD 4 undef = .pointer (some ⟨w.heap.size, 0, none⟩)) (t5 : tmps.getD 5 undef = .pointer (some ⟨w.heap.size + 1, 0, none⟩)) : LeavesInM Fence.wide n Tryz.prog Tryz.f16 tmps (LkP L R w) ds .returning V :=
  lnk_end nilX h4 h5 g mk rfl (nilX_rd V) hr (fun _ h => by cases h) t4 t5
section
variable {o : Oper} {a : Act} {w : World}
theorem op_lk2 {x y : Tmp} {T : TypeId} {m k v : Value} (hd : o.dst.isSome = true) (ho : o.op = .lookup T (.tmp x) (.tmp y) true) (h : a.eval (.tmp x) = m) (h' : a.eval (.tmp y) = k) (hr : (Instr.lookup T m k true).run Tryz.prog w = .ok v w) : (execOp a.eval o).run Tryz.prog w = .ok (nx o v) w := by
  rw [nx_some hd]
  unfold Act.eval at h h'
  obtain ⟨d, op, t, ps, af, gu⟩ := o
  simp only at ho
  subst ho
  go_simp
theorem op_ext {x : Tmp} {i : Nat} {u v r : Value} (hd : o.dst.isSome = true) (hi : (i = 0 ∧ r = u) ∨ (i = 1 ∧ r = v)) (ho : o.op = .extract (.tmp x) i) (h : a.eval (.tmp x) = .tuple #[u, v]) : (execOp a.eval o).run Tryz.prog w = .ok (nx o r) w := by
  rw [nx_some hd]
  unfold Act.eval at h
  obtain ⟨d, op, t, ps, af, gu⟩ := o
  simp only at ho
  subst ho
  rcases hi with ⟨rfl, rfl⟩ | ⟨rfl, rfl⟩ <;> go_simp
theorem op_al {m : Nat} (hs : w.heap.size = m) (hd : o.dst.isSome = true) (ho : o.op = .alloc 107) : (execOp a.eval o).run Tryz.prog w = .ok (nx o (.pointer (some ⟨m, 0, none⟩))) (w.alloc (.cells #[iv 0, iv 0] 107)) := by
  subst hs
  rw [nx_some hd]
  obtain ⟨d, op, t, ps, af, gu⟩ := o
  simp only at ho
  subst ho
  go_simp
theorem op_st {x y : Tmp} {g : Nat} {c b p q : Int} (hd : o.dst.isSome = false) (ho : o.op = .store 107 (.tmp x) (.tmp y)) (h : a.eval (.tmp x) = .pointer (some ⟨g, 0, none⟩)) (h' : a.eval (.tmp y) = .agg #[iv c, iv b]) (hg : w.heap[g]? = some (.cells #[iv p, iv q] 107 (0, 0))) : (execOp a.eval o).run Tryz.prog w = .ok (nx o undef) ((w.setCell ⟨g, 0, none⟩ (iv c)).setCell ⟨g, 1, none⟩ (iv b)) := by
  have c0 : w.cell? ⟨g, 0, none⟩ = some (iv p) := by rw [Lib.cell_of_heap hg]; rfl
  have c1 : w.cell? ⟨g, 1, none⟩ = some (iv q) := by rw [Lib.cell_of_heap hg]; rfl
  have f0 := frz hg 0
  have f1 := frz hg 1
  have h2 : a.tmps[x]?.getD undef = .pointer (some ⟨g, 0, none⟩) := by simpa [Act.eval] using h
  have h3 : a.tmps[y]?.getD undef = .agg #[iv c, iv b] := by simpa [Act.eval] using h'
  rw [nx_none hd]
  clear hg
  obtain ⟨d, op, t, ps, af, gu⟩ := o
  simp only at ho
  subst ho
  go_simp
end
end Go.Proofs.YtgboboljgcfggaaGreatDoor
namespace Go.Proofs.YtgboboljgcfggaaGreatDoor
open Go.RowKit Go.Maps Go.Shelf
attribute [local go_sem] Oper.semAt_some
theorem numF_keys : ∀ (i : Nat) (K : List Sp), (numF i K).map (·.1) = K
  | _, [] => rfl
  | i, s :: K => by rw [numF, List.map_cons, numF_keys (i + 1) K]
theorem key_of {K : List Sp} {u : Sp} (h : LK Sp.Key (numL K)) (hu : u ∈ K) : u.Key := by
  have h1 : u ∈ (numL K).map (·.1) := by unfold numL; rw [numF_keys]; exact hu
  obtain ⟨p, hp, rfl⟩ := List.mem_map.1 h1
  exact h.ok p hp
theorem spot_at {L : List Cod} {s : Sp} (h : SpOk (pls L) s) : ∃ (c : Cod) (sb : Nat) (b : Blk), L[s.code]? = some c ∧ s.block = (sb : Int) ∧ c.bs[sb]? = some b ∧ blkAt (pls L) s = b.pb := by
  obtain ⟨pc, h1, h2, h3⟩ := h
  unfold pls at h1
  rw [List.getElem?_map, Option.map_eq_some_iff] at h1
  obtain ⟨c, hc, rfl⟩ := h1
  simp [Cod.pl] at h3
  obtain ⟨sb, hsb⟩ : ∃ m : Nat, s.block = (m : Int) := ⟨s.block.toNat, by omega⟩
  refine ⟨c, sb, c.bs[sb]'(by omega), hc, hsb, List.getElem?_eq_getElem (by omega), ?_⟩
  unfold blkAt pls
  rw [List.getElem?_map, hc]
  simp only [Option.map_some, Cod.pl]
  rw [hsb, Int.toNat_natCast, List.getD_eq_getElem?_getD, List.getElem?_map, List.getElem?_eq_getElem (by omega)]
  rfl
set_option maxRecDepth 100000 in
set_option maxHeartbeats 8000000 in
theorem program_any (w : World) (Ad Ar Av : Option Addr) (cp cr cv kb m1 m2 base nk nr nc : Nat) (L : List Cod) (K : List Sp) (R : List Nam) (hL : CRd w Ad L) (hnc : L.length = nc) (h : LM kb m1 m2 base Ad cp nc (dlF 0 L) K (.slice Av nk cv) w) (hnk : K.length = nk) (ok : Okl L) (hil : ∀ c ∈ L, ∀ b ∈ c.bs, b.ins.length ≤ 100000) (kn : Kn (pls L) K)
    (cl : ∀ s ∈ K, ∀ x ∈ (blkAt (pls L) s).ins, ∀ t, tgt (pls L) s x = some t → ∃ u, t = some u ∧ u ∈ K) (hkl : nk ≤ 100000) (hR : RD 2 Nam.cs w Ar R) (hnr : R.length = nr) (hrl : nr ≤ 12) (hR2 : ∀ n ∈ R, n.Ok ∧ ∃ s, findC (pls L) 0 n.pack n.id = some s ∧ s ∈ K) :
    Calls Tryz.prog 44 #[.pointer (some ⟨kb, 0, none⟩), .slice Ar nr cr] w (PgP L K R w) := by
  have HL := Lib.hid (fun V (g : Gr w V) => hL.gr g)
  have HR := Lib.hid (fun V (g : Gr w V) => hR.gr g)
  have HM := Lib.hid (fun V (g : Gr w V) => h.gr g)
  have HN := Lib.hid hnk
  have HNR := Lib.hid hnr
  have HC := Lib.hid hnc
  have OK := Lib.hid ok
  have HI := Lib.hid hil
  have KN := Lib.hid kn
  have CL := Lib.hid cl
  have HR2 := Lib.hid hR2
  have HLW := Lib.hid hL
  have KB := Lib.hid (show kb < w.heap.size from heap_lt h.h)
  clear hL hR h hnk hnr hnc ok hil kn cl hR2
  refine (callsIn_wide (n := 5)).1 ?_
  refine callsIn_of_wp_marks Tryz.func44 rfl trivial ?_ rfl
  simp only [Tryz.ntmps44, List.size_toArray, List.length_cons, List.length_nil, Nat.reduceAdd, Nat.reduceSub, Array.replicate_succ, Array.replicate_zero, List.push_toArray, List.append_toArray, List.nil_append, List.cons_append]
  gi_upto_region 2 with (fail)
  obtain ⟨W0, hW0⟩ : ∃ W0, ((w.alloc (.cells #[.pointer (some ⟨kb, 0, none⟩)] 104)).alloc (.cells #[.slice none 0 0, .slice none 0 0] 26)).alloc (.cells #[.slice none 0 0, .slice none 0 0] 26) = W0 := ⟨_, rfl⟩
  have P0 := Lib.hid (show PgS w kb L K 0 (.slice none 0 0) [] [] W0 from by
    rw [← hW0]
    refine ⟨((gr_al _ _).trans (gr_al _ _)).trans (gr_al _ _), gr_h ((gr_al _ _).trans (gr_al _ _)) (al_new w _), gr_h (gr_al _ _) (al_at _ _ (by simp)), al_at _ _ (by simp), OR.nil, by simp, by simp, trivial⟩)
  rw [hW0]
  clear hW0
  obtain ⟨⟨q0, q1, q2, q3⟩, -⟩ := (HM.out _ P0.out.gr).hd
  obtain ⟨r0, -, -, -⟩ := P0.out.c
  gi_upto_region 3 with (fail)
  clear q0 q1 q2 q3 r0
  refine wpIn_loop (fun a' V => ∃ (i : Nat) (v1 : Value) (done : List Blk) (ds : List Deferred) (u7 u8 u9 u10 u19 u20 u21 u22 u23 u24 u25 u26 u27 u28 u29 u30 u31 u32 u33 u34 u35 u36 u37 u38 u39 u40 u41 u42 u43 u44 u45 u46 u47 u48 u49 u50 u51 u52 u53 u54 u55 u56 u57 u58 u59 u60 u61 u62 u63 u64 u65 u66 u67 : Value), i ≤ nk ∧ Hid (PgS w kb L K i v1 done ds V) ∧ a' = { tmps := #[.pointer (some ⟨kb, 0, none⟩), .slice Ar nr cr, .pointer (some ⟨w.heap.size, 0, none⟩), undef, .pointer (some ⟨w.heap.size + 1, 0, none⟩), .pointer (some ⟨w.heap.size + 1 + 1, 0, none⟩), undef, u7, u8, u9, u10, undef, undef, .pointer (some ⟨kb, 0, none⟩), .pointer (some ⟨kb, 0, none⟩), .pointer (some ⟨kb, 3, none⟩), .slice Av nk cv, .int .i64 nk, .int .i64 i, u19, u20, u21, u22, u23, u24, u25, u26, u27, u28, u29, u30, u31, u32, u33, u34, u35, u36, u37, u38, u39, u40, u41, u42, u43, u44, u45, u46, u47, u48, u49, u50, u51, u52, u53, u54, u55, u56, u57, u58, u59, u60, u61, u62, u63, u64, u65, u66, u67, undef, undef, undef, undef, undef, undef, undef, undef, undef, undef, undef, undef, undef, undef, undef, undef, undef, undef, undef, undef, undef, undef, undef, undef, undef, undef, undef, undef, undef, undef, undef, undef, undef], defers := ds }) (fun a' _ => nk - (intOf (a'.tmps.getD 18 undef)).toNat) ?_ ?_
  · exact ⟨0, .slice none 0 0, [], [], undef, undef, undef, undef, undef, undef, undef, undef, undef, undef, undef, undef, undef, undef, undef, undef, undef, undef, undef, undef, undef, undef, undef, undef, undef, undef, undef, undef, undef, undef, undef, undef, undef, undef, undef, undef, undef, undef, undef, undef, undef, undef, undef, undef, undef, undef, undef, undef, undef, undef, undef, undef, undef, Nat.zero_le _, P0, rfl⟩
  · rintro a' V ⟨i, v1, done, ds, u7, u8, u9, u10, u19, u20, u21, u22, u23, u24, u25, u26, u27, u28, u29, u30, u31, u32, u33, u34, u35, u36, u37, u38, u39, u40, u41, u42, u43, u44, u45, u46, u47, u48, u49, u50, u51, u52, u53, u54, u55, u56, u57, u58, u59, u60, u61, u62, u63, u64, u65, u66, u67, hi, HP, rfl⟩
    clear P0
    by_cases hlt : i < nk
    · obtain ⟨s, hs⟩ : ∃ s, K[i]? = some s := ⟨_, List.getElem?_eq_getElem (by rw [HN.out]; exact hlt)⟩
      have hsm := List.mem_of_getElem? hs
      obtain ⟨A0, c0, e0, hrd⟩ := (HM.out _ HP.out.gr).o.form elS.hn
      have e1 : Av = A0 := by cases e0; rfl
      subst e1
      obtain ⟨a, a1, rfl, ha, hab, y0, y1⟩ := hrd.sp (k := i) (by rw [HN.out]; exact hlt)
      have hsi : K[i]'(by rw [HN.out]; exact hlt) = s := by rw [List.getElem?_eq_getElem (by rw [HN.out]; exact hlt)] at hs; exact Option.some.inj hs
      obtain ⟨c, sb, b, hc, hsb, hb, hbp⟩ := spot_at (KN.out.ok s hsm)
      rw [hsi] at y0 y1
      rw [hsb] at y1
      have HS := Lib.hid (show K[i]? = some s from hs)
      have HSM := Lib.hid hsm
      have HCB := Lib.hid (show L[s.code]? = some c ∧ c.bs[sb]? = some b ∧ blkAt (pls L) s = b.pb ∧ s = ⟨s.code, (sb : Int)⟩ from ⟨hc, hb, hbp, by rw [← hsb]⟩)
      obtain ⟨sc, hsc⟩ : ∃ m : Nat, s.code = m := ⟨_, rfl⟩
      rw [hsc] at y0
      have HSC := Lib.hid hsc
      clear hs hsm e0 hrd hsi hc hsb hb hbp hsc
      gi_upto_region 5 with (fail)
      clear y0 y1
      obtain ⟨V1, hV1⟩ : ∃ V1, V.alloc (.cells #[.int .i64 sc, .int .i64 sb] 107) = V1 := ⟨_, rfl⟩
      have P1 := Lib.hid (show PgS w kb L K i v1 done ds V1 from by rw [← hV1]; exact HP.out.go (gr_al _ _))
      have S7 := Lib.hid (show V1.heap[V.heap.size]? = some (.cells #[.int .i64 sc, .int .i64 sb] 107 (0, 0)) from by rw [← hV1]; exact al_new _ _)
      have Z1 := Lib.hid (show V1.heap.size = V.heap.size + 1 ∧ w.heap.size + 3 ≤ V.heap.size from ⟨by rw [← hV1]; simp, by have := heap_lt HP.out.p; omega⟩)
      rw [hV1]
      obtain ⟨s7, hs7⟩ : ∃ m, V.heap.size = m := ⟨_, rfl⟩
      rw [hs7] at S7 Z1 ⊢
      clear hV1 HP hs7
      obtain ⟨⟨k0, k1, k2, k3⟩, -⟩ := (HM.out _ P1.out.gr).hd
      obtain ⟨r0, -, -, -⟩ := P1.out.c
      have x0 : V1.cell? ⟨s7, 0, none⟩ = some (.int .i64 sc) := by rw [Lib.cell_of_heap S7.out]; rfl
      have x1 : V1.cell? ⟨s7, 1, none⟩ = some (.int .i64 sb) := by rw [Lib.cell_of_heap S7.out]; rfl
      obtain ⟨hsc, ec⟩ := List.getElem?_eq_some_iff.1 (show L[sc]? = some c from by rw [← HSC.out]; exact HCB.out.1)
      obtain ⟨hsb, eb⟩ := List.getElem?_eq_some_iff.1 HCB.out.2.1
      have hcm : c ∈ L := List.mem_of_getElem? HCB.out.1
      have hbm : b ∈ c.bs := List.mem_of_getElem? HCB.out.2.1
      obtain ⟨d, d1, rfl, hd, hdb, y0, y1, y2⟩ := (HL.out _ P1.out.gr).rd.cod (k := sc) hsc
      obtain ⟨q, q1, eq, hq, hqb, z0, z1, z2⟩ := ((HL.out _ P1.out.gr).c c hcm).b.blk (k := sb) hsb
      rw [ec] at y0 y1 y2
      rw [eb] at z0 z1 z2
      rw [eq] at y1
      obtain ⟨nb, hnb⟩ : ∃ m, c.bs.length = m := ⟨_, rfl⟩
      obtain ⟨ni, hni⟩ : ∃ m, b.ins.length = m := ⟨_, rfl⟩
      rw [hnb] at y1 hsb
      rw [hni] at z2
      rw [HC.out] at hsc
      obtain ⟨bA, hbA⟩ : ∃ m, b.A = m := ⟨_, rfl⟩
      rw [hbA] at z2
      have HB := Lib.hid (show b.A = bA ∧ b.ins.length = ni ∧ c ∈ L ∧ b ∈ c.bs from ⟨hbA, hni, hcm, hbm⟩)
      clear hbA hni hcm hbm hnb ec eb eq
      obtain ⟨b8, hb8⟩ : ∃ m, V1.heap.size = m := ⟨_, rfl⟩
      have HB8 := Lib.hid hb8
      have GA := Lib.hid (gr_al V1 (.cells #[.int .i64 0, .bool false, .slice none 0 0] 69))
      have r0' := gr_c GA.out r0
      have k0' := gr_c GA.out k0
      have x0' := gr_c GA.out x0
      have x1' := gr_c GA.out x1
      have y1' := gr_c GA.out y1
      have z0' := gr_c GA.out z0
      have z1' := gr_c GA.out z1
      have z2' := gr_c GA.out z2
      refine wpIn_to { tmps := #[.pointer (some ⟨kb, 0, none⟩), .slice Ar nr cr, .pointer (some ⟨w.heap.size, 0, none⟩), undef, .pointer (some ⟨w.heap.size + 1, 0, none⟩), .pointer (some ⟨w.heap.size + 1 + 1, 0, none⟩), undef, .pointer (some ⟨s7, 0, none⟩), .pointer (some ⟨b8, 0, none⟩), u9, u10, undef, undef, .pointer (some ⟨kb, 0, none⟩), .pointer (some ⟨kb, 0, none⟩), .pointer (some ⟨kb, 3, none⟩), .slice (some a) nk cv, .int .i64 nk, .int .i64 i, .bool true, .pointer (some a1), .agg #[.int .i64 sc, .int .i64 sb], .pointer (some ⟨kb, 0, none⟩), .pointer (some ⟨kb, 0, none⟩), .pointer (some ⟨kb, 0, none⟩), .slice (some d) nc cp, .pointer (some ⟨s7, 0, none⟩), .int .i64 sc, .pointer (some d1), .pointer (some ⟨d1.block, d1.off + 1, none⟩), .slice (some q) nb c.bc, .pointer (some ⟨s7, 1, none⟩), .int .i64 sb, .pointer (some q1), .agg #[.int .i64 b.cap, .bool b.param, .slice bA ni b.c], u35, u36, u37, u38, u39, u40, u41, u42, u43, u44, u45, u46, u47, u48, u49, u50, u51, u52, u53, u54, u55, u56, u57, u58, u59, u60, u61, u62, u63, u64, u65, u66, u67, undef, undef, undef, undef, undef, undef, undef, undef, undef, undef, undef, undef, undef, undef, undef, undef, undef, undef, undef, undef, undef, undef, undef, undef, undef, undef, undef, undef, undef, undef, undef, undef, undef], defers := ds } ((V1.alloc (.cells #[.int .i64 b.cap, .bool b.param, .slice bA ni b.c] 69)).drew) (fun Q0 hQ => ?_) ?_
      · have HQ := Lib.hid hQ
        clear hQ
        go_region_law (fail)
        all_goals exact HQ.out
      · clear r0 k0 k1 k2 k3 x0 x1 y0 y1 y2 z0 z1 z2 r0' k0' x0' x1' y1' z0' z1' z2'
        have HCI := Lib.hid (show RD 4 Ins.cs V1 bA b.ins from by rw [← HB.out.1]; exact ((HL.out _ P1.out.gr).c c HB.out.2.2.1).i b HB.out.2.2.2)
        have G2 := Lib.hid (show Gr V1 ((V1.alloc (.cells #[.int .i64 b.cap, .bool b.param, .slice bA ni b.c] 69)).drew) from (gr_al _ _).trans (gr_drew _))
        have B8 := Lib.hid (show ((V1.alloc (.cells #[.int .i64 b.cap, .bool b.param, .slice bA ni b.c] 69)).drew).heap[b8]? = some (.cells #[.int .i64 b.cap, .bool b.param, .slice bA ni b.c] 69 (0, 0)) from by rw [← hb8]; exact al_new V1 _)
        have Z8 := Lib.hid (show ((V1.alloc (.cells #[.int .i64 b.cap, .bool b.param, .slice bA ni b.c] 69)).drew).heap.size = b8 + 1 from by rw [← hb8]; simp)
        generalize (V1.alloc (.cells #[.int .i64 b.cap, .bool b.param, .slice bA ni b.c] 69)).drew = V2 at *
        clear hb8 GA
        have hnl : ni ≤ 100000 := by have := HI.out c HB.out.2.2.1 b HB.out.2.2.2; rw [HB.out.2.1] at this; exact this
        have e2 : V2.cell? ⟨b8, 2, none⟩ = some (.slice bA ni b.c) := by rw [Lib.cell_of_heap B8.out]; rfl
        have CLN := Lib.hid (by have h := clone_any bA b.c b.ins V2 (HCI.out.gr G2.out) (by rw [HB.out.2.1]; exact hnl); rw [HB.out.2.1] at h; exact h)
        gi_upto_region 7 with (refine ⟨trivial, ?_⟩; gi_at_call 71; refine (callsIn_wide.2 CLN.out).mono ?_; rintro e V3 ⟨vc, rfl, oc, g3⟩; obtain ⟨Ac, cc, hvc, -⟩ := OR.form (cs := Ins.cs) (n := 4) (fun _ => rfl) oc; rw [HB.out.2.1] at hvc; subst hvc; have OC := Lib.hid oc; have G3 := Lib.hid g3; have e3 := gr_c g3 e2; have f3 := frz (gr_h g3 B8.out) 2; clear oc g3)
        have G4 := Lib.hid (show Gr V1 (V3.setCell ⟨b8, 2, none⟩ (.slice Ac ni cc)) from gr_cell (G2.out.trans G3.out) (by rw [HB8.out]; exact Nat.le_refl _) _)
        have B84 := Lib.hid (show (V3.setCell ⟨b8, 2, none⟩ (.slice Ac ni cc)).heap[b8]? = some (.cells #[.int .i64 b.cap, .bool b.param, .slice Ac ni cc] 69 (0, 0)) from by
          have h := gr_h G3.out B8.out
          simp [World.setCell, Array.getElem?_modify, h])
        have OC4 := Lib.hid (show OR 71 4 Ins.cs (V3.setCell ⟨b8, 2, none⟩ (.slice Ac ni cc)) (b8 + 1) (.slice Ac ni cc) b.ins from by
          have h := OC.out
          rw [Z8.out] at h
          refine h.kept (grown_set _ _ _) ?_
          cases hq : (Value.slice Ac ni cc).ownBlock with
          | none => exact .inl rfl
          | some j => right; intro e; cases e; have := (h.lt _ hq).1; omega)
        generalize V3.setCell ⟨b8, 2, none⟩ (.slice Ac ni cc) = V4 at *
        clear e2 e3 f3 OC G3 B8 Z8 G2 CLN HCI
        obtain ⟨r0, -, -, -⟩ := (P1.out.go G4.out).c
        have h7 := gr_h G4.out S7.out
        have x0 : V4.cell? ⟨s7, 0, none⟩ = some (.int .i64 sc) := by rw [Lib.cell_of_heap h7]; rfl
        have x1 : V4.cell? ⟨s7, 1, none⟩ = some (.int .i64 sb) := by rw [Lib.cell_of_heap h7]; rfl
        clear h7
        have RF := Lib.hid (refs_any kb sc sb V4)
        gi_wp2_with (refine ⟨trivial, ?_⟩; gi_at_call 43; refine (callsIn_wide.2 RF.out).mono ?_; rintro e V5 ⟨rfl, rfl⟩)
        clear r0 x0 x1 RF
        obtain ⟨b4, hb4⟩ : ∃ m, V4.heap.size = m := ⟨_, rfl⟩
        rw [hb4]
        obtain ⟨V6, hV6⟩ : ∃ V6, (V4.alloc (.cells #[.pointer (some ⟨kb, 0, none⟩)] 104)).alloc (.cells #[.int .i64 sc, .int .i64 sb] 107) = V6 := ⟨_, rfl⟩
        rw [hV6]
        have G46 := Lib.hid (show Gr V4 V6 from by rw [← hV6]; exact (gr_al _ _).trans (gr_al _ _))
        have BX := Lib.hid (show V6.heap[b4]? = some (.cells #[.pointer (some ⟨kb, 0, none⟩)] 104 (0, 0)) ∧ V6.heap[b4 + 1]? = some (.cells #[.int .i64 sc, .int .i64 sb] 107 (0, 0)) ∧ V6.heap.size = b4 + 2 ∧ b8 < b4 from by
          rw [← hV6, ← hb4]
          exact ⟨gr_h (gr_al _ _) (al_new V4 _), al_at _ _ (by simp), by simp, heap_lt B84.out⟩)
        have G6 := Lib.hid (show Gr V1 V6 from G4.out.trans G46.out)
        have B86 := Lib.hid (gr_h G46.out B84.out)
        have OC6 := Lib.hid (OC4.out.gr G46.out)
        have OB := Lib.hid (show ∀ j, (Value.slice Ac ni cc).ownBlock = some j → b8 + 1 ≤ j ∧ j < b4 from fun j hj => by have h := OC4.out.lt j hj; rw [hb4] at h; exact h)
        clear hV6 hb4 B84 OC4 G46
        have OB6 := Lib.hid (show ∀ j, (Value.slice Ac ni cc).ownBlock = some j → j < V6.heap.size from fun j hj => by have := (OB.out j hj).2; have := BX.out.2.2.1; omega)
        have GW := Lib.hid (show ∀ pre W, RgI V6 (b8 + 1) (.slice Ac ni cc) K b.ins pre W → Gr V1 W from fun pre W h => gr_opt G6.out h.g fun j hj => by have := (OB.out j hj).1; have := HB8.out; omega)
        have hsc0 : L[sc]? = some c := by rw [← HSC.out]; exact HCB.out.1
        have hseq : s = ⟨sc, (sb : Int)⟩ := by rw [← HSC.out]; exact HCB.out.2.2.2
        refine range_r (w0 := V1) (dl := dlF 0 L) (sc := sc) (sb := sb) (b1 := b4) (b2 := b4 + 1) (by omega) rfl rfl L (HL.out _ P1.out.gr) HC.out c hsc0 b HCB.out.2.1 (by have := HB.out.2.1; omega) (HM.out _ P1.out.gr).ld (Okl.get (L := L)) (OK.out.four HB.out.2.2.1 HB.out.2.2.2)
          (fun pre own W => (∀ k, ¬ own k) ∧ RgI V6 (b8 + 1) (.slice Ac ni cc) K b.ins pre W) (fun _ _ _ => False)
          (fun pre own W h => ⟨GW.out pre W h.2, h.2.g.size, ⟨h.2.old BX.out.1 (fun e => by have := (OB.out _ e).2; omega), h.2.old BX.out.2.1 (fun e => by have := (OB.out _ e).2; omega)⟩, ⟨(HM.out _ (P1.out.gr.trans (GW.out pre W h.2))).d, _, _, (HM.out _ (P1.out.gr.trans (GW.out pre W h.2))).h⟩, fun k hk => absurd hk (h.1 k)⟩)
          (fun pre own W W' h hb => ⟨h.1, h.2.kp OB6.out hb⟩) (fun _ _ _ _ h _ => h) ⟨fun _ h => h, World.grownBy.refl _ _, OC6.out⟩ ?_ ?_ (fun _ _ _ _ _ h _ => h.elim)
        · intro l pre own y W hI hsz _ hpost hl
          obtain ⟨j, t⟩ := y
          obtain ⟨post, hpost⟩ := hpost
          obtain ⟨x, hx, -, htg⟩ := trg_mem b.ins 0 j t (by rw [hpost]; simp)
          rw [Nat.sub_zero] at hx
          have hxm : x ∈ (blkAt (pls L) s).ins := by rw [HCB.out.2.2.1]; exact List.mem_of_getElem? hx
          obtain ⟨u, rfl, hu⟩ := CL.out s HSM.out x hxm t (by rw [hseq]; exact htg)
          have hj : j < ni := by rw [← HB.out.2.1]; exact (List.getElem?_eq_some_iff.1 hx).1
          have HU := Lib.hid hu
          have HI2 := Lib.hid hI
          have HSZ := Lib.hid hsz
          have HLL := Lib.hid hl
          clear hx hxm htg hpost hu hI hsz hl hsc0 hseq
          simp only [tgV]
          gi_wp2
          refine ⟨⟨fun k _ hk _ => Below.heap_alloc _ _ _ hk, by simp⟩, fun W₂ hb => ?_⟩
          have HBT := Lib.hid hb
          have H2 := Lib.hid (show RgI V6 (b8 + 1) (.slice Ac ni cc) K b.ins pre W₂ from (HI2.out.2.gr OB6.out (gr_al W _)).but OB6.out hb (by have := HLL.out; omega))
          have TB := Lib.hid (show W₂.heap[W.heap.size]? = some (.cells #[.int .i64 u.code, .int .i64 u.block, .bool true] 119 (0, 0)) from (hb.same _ (by have := HSZ.out; have := HLL.out; omega)).trans (al_new W _))
          clear hb
          have GV := Lib.hid (GW.out _ _ H2.out)
          obtain ⟨r0, -, -, -⟩ := (P1.out.go GV.out).c
          obtain ⟨⟨-, -, k2, -⟩, -⟩ := (HM.out _ (P1.out.gr.trans GV.out)).hd
          have hb8w := H2.out.old B86.out (fun e => by have := (OB.out _ e).1; omega)
          have e2 : W₂.cell? ⟨b8, 2, none⟩ = some (.slice Ac ni cc) := by rw [Lib.cell_of_heap hb8w]; rfl
          have t0 : W₂.cell? ⟨W.heap.size, 0, none⟩ = some (.int .i64 u.code) := by rw [Lib.cell_of_heap TB.out]; rfl
          have t1 : W₂.cell? ⟨W.heap.size, 1, none⟩ = some (.int .i64 u.block) := by rw [Lib.cell_of_heap TB.out]; rfl
          obtain ⟨g, rfl, ⟨x1, hx1⟩, ⟨x3, hx3⟩, fz⟩ := H2.out.cells HB.out.2.1 hj
          have f1 := fz (j * 4 + 1)
          have f3 := fz (j * 4 + 3)
          clear hb8w fz
          have lk1 : (Instr.lookup 110 (.map (some m2)) (.agg #[.int .i64 u.code, .int .i64 u.block]) false).run Tryz.prog W₂.drew = .ok (.int .i64 (K.idxOf u : Nat)) W₂.drew := by
            have hlm := HM.out W₂.drew ((P1.out.gr.trans GV.out).trans (gr_drew _))
            have h := (lookup_k ktS hlm.n hlm.ln Tryz.underlying110 (z := iv 0) (by kernel_rfl) (key_of hlm.ln HU.out)).1
            rw [numL_get, if_pos HU.out] at h
            exact h
          obtain ⟨ix, hix⟩ : ∃ m, K.idxOf u = m := ⟨_, rfl⟩
          rw [hix] at lk1
          have HIX := Lib.hid hix
          clear hix
          gi_upto_region 10 with (fail)
          refine wpIn_round_still_tail 10 (by kernel_rfl) (by kernel_rfl) (by kernel_rfl) ?_
          simp only [List.take_succ_cons, List.take_zero, List.drop_succ_cons, List.drop_zero]
          repeat still_step
          refine wpStill_nil ?_
          have HP2 := Lib.hid (show RgI V6 (b8 + 1) (.slice (some ⟨g, 0, none⟩) ni cc) K b.ins (pre ++ [(j, some u)]) ((W₂.setCell ⟨g, j * 4 + 1, none⟩ (.int .i64 ix)).drew.setCell ⟨g, j * 4 + 3, none⟩ (.string ⟨#[]⟩)) from by
            have h := (H2.out.gr OB6.out (gr_drew W₂)).put HB.out.2.1 hj u
            rw [HIX.out] at h
            exact h)
          have hgl := OB.out g rfl
          have HGL := Lib.hid hgl
          have hne : ¬ b8 = g := by omega
          clear hgl
          go_wp2
          gi_wp2
          intro _
          exact ⟨⟨fun k h1 h2 _ => (Below.heap_setCell _ _ _ _ (by show k ≠ g; have := HGL.out.2; have := BX.out.2.2.1; omega)).trans (Below.heap_setCell _ _ _ _ (by show k ≠ g; have := HGL.out.2; have := BX.out.2.2.1; omega)), by simp [World.setCell]⟩, own, fun k hk => .inl hk, HI2.out.1, HP2.out⟩
        · intro own W' hi _ hd
          obtain ⟨M, hM⟩ : ∃ M, b.ins.map (relab (pls L) K s) = M := ⟨_, rfl⟩
          have hall := relT_all (l := pls L) (K := K) (s := s) b.ins [] (fun x hx t ht => CL.out s HSM.out x (by rw [HCB.out.2.2.1]; exact hx) t ht)
          simp only [List.nil_append, List.length_nil] at hall
          rw [hM] at hall
          have OM := Lib.hid (show OR 71 4 Ins.cs W' (b8 + 1) (.slice Ac ni cc) M from by
            have h := hi.2.o
            rw [← hall, hseq]
            exact h)
          have HML := Lib.hid (show M.length = ni from by rw [← hM, List.length_map]; exact HB.out.2.1)
          have HMB := Lib.hid (show (⟨b.cap, b.param, M⟩ : PB) = blkP (pls L) K s from by unfold blkP; rw [HCB.out.2.2.1, ← hM]; rfl)
          have GX := Lib.hid (GW.out _ _ hi.2)
          have B8X := Lib.hid (hi.2.old B86.out (fun e => by have := (OB.out _ e).1; omega))
          have PX := Lib.hid (show PgS w kb L K i v1 done (⟨.collected V6.heap.size, #[]⟩ :: ds) W' from by
            have h := P1.out.go GX.out
            have z1 := Z1.out
            have z6 := G6.out.size
            exact ⟨h.gr, h.k, h.r, h.p, h.o, h.ins, h.e, h.mks.push (by omega) hd (fun hm => by have := heap_lt (P1.out.mks.lt _ hm); omega)⟩)
          have Z8 := Lib.hid (show w.heap.size + 3 ≤ b8 ∧ b8 < W'.heap.size ∧ b4 < W'.heap.size from by
            have := Z1.out; have := HB8.out; have := hi.2.g.size; have := BX.out.2.2; omega)
          have V1O := Lib.hid (show ∀ j, v1.ownBlock = some j → j < b8 from fun j hj => by have := (P1.out.o.lt j hj).2; have := HB8.out; omega)
          obtain ⟨A1, c1, e1, -⟩ := PX.out.o.form elB.hn
          obtain ⟨nd, hnd⟩ : ∃ n, done.length = n := ⟨_, rfl⟩
          have hdi : nd ≤ i := by have h := congrArg List.length PX.out.e; simp only [List.length_map, List.length_take] at h; omega
          have HND := Lib.hid hnd
          rw [hnd] at e1
          subst e1
          clear hi hd hall hM hnd hseq hsc0 OB6 GW OC6 G6 B86 BX P1 S7 Z1 G4
          generalize V6.heap.size = r6 at *
          gi_upto_region 12 with (fail)
          obtain ⟨-, p0, p1, pf⟩ := PX.out.c
          have f0 := pf 0
          have e0 : W'.cell? ⟨b8, 0, none⟩ = some (.int .i64 b.cap) := by rw [Lib.cell_of_heap B8X.out]; rfl
          have e1 : W'.cell? ⟨b8, 1, none⟩ = some (.bool b.param) := by rw [Lib.cell_of_heap B8X.out]; rfl
          have e2 : W'.cell? ⟨b8, 2, none⟩ = some (.slice Ac ni cc) := by rw [Lib.cell_of_heap B8X.out]; rfl
          clear pf
          have BRD := Lib.hid (show RD 3 Blk.cs (W'.alloc (.cells #[.int .i64 b.cap, .bool b.param, .slice Ac ni cc] 69)) (some ⟨W'.heap.size, 0, none⟩) [(⟨b.cap, b.param, Ac, cc, M⟩ : Blk)] from rd_cells (t := 69) elB.hn (by
            rw [al_new]
            show some (Obj.cells #[.int .i64 b.cap, .bool b.param, .slice Ac ni cc] 69 (0, 0)) = some (Obj.cells #[.int .i64 b.cap, .bool b.param, .slice Ac M.length cc] 69 (0, 0))
            rw [HML.out]))
          refine wpIn_wide.2 ?_
          have OWN := Lib.hid (show ∀ j, (Value.slice A1 nd c1).ownBlock = some j → w.heap.size + 3 ≤ j from fun j hj => (PX.out.o.lt j hj).1)
          go_wp2_with ((at_builtin; refine wpList_app elB rfl (.tmp 62) (.tmp 64) rfl (w.heap.size + 3) rfl (PX.out.o.gr (gr_al _ _)) (m := 1) (c := 1) rfl rfl BRD.out (by have := HND.out; simp; omega) (by have := Z8.out; simp; omega) ?_; intro v7 w7 o7 g7 h7; obtain ⟨A7, c7, rfl⟩ := blk_form HND.out o7; have O7 := Lib.hid o7; have G7 := Lib.hid g7; have H7 := Lib.hid h7; have hp7 := (g7.block (w.heap.size + 2) (by have := Z8.out; simp; omega) (fun e => by have := OWN.out _ e.symm; omega)).trans (gr_h (gr_al _ _) PX.out.p); have q7 : w7.cell? ⟨w.heap.size + 1 + 1, 0, none⟩ = some (.slice A1 nd c1) := (by rw [show w.heap.size + 1 + 1 = w.heap.size + 2 from rfl, Lib.cell_of_heap hp7]; rfl); have f7 : w7.frozen? ⟨w.heap.size + 1 + 1, 0, none⟩ = false := frz hp7 0; clear o7 g7 h7 hp7))
          gi_wp2
          have PN := Lib.hid (PX.out.put (gr_al W' _) O7.out G7.out H7.out (OM.out.form (cs := Ins.cs) (fun _ => rfl) |> fun ⟨A0, c0, e0, h0⟩ => by cases e0; exact h0.gr (gr_al _ _)) (by show M.length ≤ 100000; rw [HML.out]; exact hnl) (fun a0 e0 => by
            have h := OB.out a0.block (by show (Value.slice Ac ni cc).ownBlock = _; rw [show Ac = some a0 from e0]; rfl)
            have := Z8.out
            refine ⟨by omega, by simp; omega, fun e => ?_⟩
            have := V1O.out a0.block e.symm
            omega) HS.out HMB.out)
          refine ⟨⟨i + 1, _, _, _, _, _, _, _, _, _, _, _, _, _, _, _, _, _, _, _, _, _, _, _, _, _, _, _, _, _, _, _, _, _, _, _, _, _, _, _, _, _, _, _, _, _, _, _, _, _, _, _, _, _, _, _, _, by omega, PN, rfl⟩, ?_⟩
          simp [intOf]
          omega
    · obtain rfl : nk = i := by omega
      obtain ⟨A1, c1, e1, -⟩ := HP.out.o.form elB.hn
      obtain ⟨nd, hnd⟩ : ∃ n, done.length = n := ⟨_, rfl⟩
      have HND := Lib.hid hnd
      rw [hnd] at e1
      subst e1
      clear hnd
      have hVw := heap_lt HP.out.p
      have HVW := Lib.hid hVw
      clear hVw
      gi_upto_region 15 with (fail)
      gi_loopw [70] (fun u W => ∃ j : Nat, j ≤ nr ∧ u = .int .i64 j ∧ ∃ v2 : Value, Hid (SgS w V (.slice A1 nd c1) v2 ((R.take j).map (stN L K)) W)) (fun u _ => nr - (intOf u).toNat)
      case atStart => exact ⟨0, Nat.zero_le _, rfl, .slice none 0 0, Lib.hid ⟨World.grownBy.refl _ _, HP.out.p, OR.nil⟩⟩
      case round =>
        obtain ⟨j, hj, rfl, v2, HS⟩ := hrel
        by_cases hlt : j < nr
        · have GW := Lib.hid (HS.out.gw HP.out.gr)
          obtain ⟨a, a1, rfl, ha, hab, y0, y1⟩ := (HR.out _ GW.out).nam (k := j) (by rw [HNR.out]; exact hlt)
          obtain ⟨n, hn⟩ : ∃ n, R[j]? = some n := ⟨_, List.getElem?_eq_getElem (by rw [HNR.out]; exact hlt)⟩
          have hni : R[j]'(by rw [HNR.out]; exact hlt) = n := by rw [List.getElem?_eq_getElem (by rw [HNR.out]; exact hlt)] at hn; exact Option.some.inj hn
          rw [hni] at y0 y1
          have HNJ := Lib.hid hn
          obtain ⟨nok, s, hfs, hsk⟩ := HR2.out n (List.mem_of_getElem? hn)
          have HNO := Lib.hid nok
          have HFS := Lib.hid hfs
          have HSK := Lib.hid hsk
          clear hni hn nok hfs hsk
          gi_upto_region 17 with (fail)
          clear y0 y1
          obtain ⟨W1, hW1⟩ : ∃ W1, wr.alloc (.cells #[.string ⟨n.pack.toArray⟩, .int .i64 n.id] 33) = W1 := ⟨_, rfl⟩
          have S1 := Lib.hid (show SgS w V (.slice A1 nd c1) v2 ((R.take j).map (stN L K)) W1 from by rw [← hW1]; exact HS.out.go (gr_al _ _))
          have NB := Lib.hid (show W1.heap[wr.heap.size]? = some (.cells #[.string ⟨n.pack.toArray⟩, .int .i64 n.id] 33 (0, 0)) from by rw [← hW1]; exact al_new _ _)
          have KX := Lib.hid (show W1.heap[w.heap.size]? = some (.cells #[.pointer (some ⟨kb, 0, none⟩)] 104 (0, 0)) from (S1.out.g.block _ (heap_lt HP.out.k) (fun e => by have := Option.some.inj e; omega)).trans HP.out.k)
          rw [hW1]
          obtain ⟨n12, hn12⟩ : ∃ m, wr.heap.size = m := ⟨_, rfl⟩
          rw [hn12] at NB ⊢
          clear hW1 hn12 HS GW
          have GW := Lib.hid (S1.out.gw HP.out.gr)
          have hlen : ((R.take j).map (stN L K)).length = j := by rw [List.length_map, List.length_take, HNR.out]; omega
          have HLEN := Lib.hid hlen
          obtain ⟨A2, c2, rfl⟩ := stt_form hlen S1.out.o
          obtain ⟨-, p1, pf⟩ := S1.out.c
          have f1 := pf 1
          have r0 : W1.cell? ⟨w.heap.size, 0, none⟩ = some (.pointer (some ⟨kb, 0, none⟩)) := by rw [Lib.cell_of_heap KX.out]; rfl
          have x0 : W1.cell? ⟨n12, 0, none⟩ = some (.string ⟨n.pack.toArray⟩) := by rw [Lib.cell_of_heap NB.out]; rfl
          have x1 : W1.cell? ⟨n12, 1, none⟩ = some (.int .i64 n.id) := by rw [Lib.cell_of_heap NB.out]; rfl
          obtain ⟨⟨-, k1, k2, -⟩, -⟩ := (HM.out _ GW.out).hd
          have lkf1 : ∀ V', Gr w V' → (Instr.lookup 109 (.map (some m1)) (.agg #[.string ⟨n.pack.toArray⟩, .int .i64 n.id]) false).run Tryz.prog V' = .ok (.agg #[.int .i64 s.code, .int .i64 s.block]) V' := fun V' g => by
            have hlm := HM.out V' g
            have h := (lookup_k ktN hlm.d hlm.ld Tryz.underlying109 (z := .agg #[iv 0, iv 0]) (by kernel_rfl) HNO.out).1
            rw [show kget (dlF 0 L) n = some (Sp.v s) from by have h2 := Okl.get (L := L) n.pack n.id; rw [HFS.out] at h2; exact h2] at h
            exact h
          have lkf2 : ∀ V', Gr w V' → (Instr.lookup 110 (.map (some m2)) (.agg #[.int .i64 s.code, .int .i64 s.block]) false).run Tryz.prog V' = .ok (.int .i64 (K.idxOf s : Nat)) V' := fun V' g => by
            have hlm := HM.out V' g
            have h := (lookup_k ktS hlm.n hlm.ln Tryz.underlying110 (z := iv 0) (by kernel_rfl) (key_of hlm.ln HSK.out)).1
            rw [numL_get, if_pos HSK.out] at h
            exact h
          obtain ⟨ix, hix⟩ : ∃ m, K.idxOf s = m := ⟨_, rfl⟩
          rw [hix] at lkf2
          have HX := Lib.hid (show stN L K n = ⟨n.pack, n.id, (ix : Int)⟩ from by unfold stN stOf rootN; rw [HFS.out, ← hix])
          clear hix hlen pf
          refine wpIn_wide.2 ?_
          have GA := (gr_drew W1).trans (gr_al W1.drew (.cells #[.string ⟨n.pack.toArray⟩, .int .i64 n.id, .int .i64 ix] 79))
          have p1a := gr_c GA p1
          have r0a := gr_c GA r0
          have x0a := gr_c GA x0
          have x1a := gr_c GA x1
          have k1a := gr_c GA k1
          have k2a := gr_c GA k2
          have lk1 := lkf1 _ (GW.out.trans (gr_drew _))
          have lk2 := lkf2 _ (GW.out.trans (gr_drew _))
          have lk1a := lkf1 _ (GW.out.trans GA)
          have lk2a := lkf2 _ (GW.out.trans GA)
          clear lkf1 lkf2
          refine wp_phaseT [false, false, false, false, false, false, false, false, false, false, false, false, false, false, false, true] [[], [15]] [Value.pointer (some ⟨w.heap.size + 1 + 1, 1, none⟩), Value.slice A2 j c2, Value.agg #[.string ⟨n.pack.toArray⟩, .int .i64 n.id], Value.pointer (some ⟨kb, 0, none⟩), Value.pointer (some ⟨kb, 0, none⟩), Value.pointer (some ⟨kb, 2, none⟩), Value.map (some m2), Value.pointer (some ⟨kb, 0, none⟩), Value.pointer (some ⟨kb, 0, none⟩), Value.pointer (some ⟨kb, 1, none⟩), Value.map (some m1), Value.agg #[.string ⟨n.pack.toArray⟩, .int .i64 n.id], Value.agg #[.int .i64 s.code, .int .i64 s.block], Value.int .i64 ix, Value.agg #[.string ⟨n.pack.toArray⟩, .int .i64 n.id, .int .i64 ix], Value.slice (some ⟨W1.drew.heap.size, 0, none⟩) 1 1] [W1.drew, W1.drew.alloc (.cells #[.string ⟨n.pack.toArray⟩, .int .i64 n.id, .int .i64 ix] 79)] 1 16 (by decide) (by kernel_rfl) (by kernel_rfl) (by kernel_rfl) (by kernel_rfl) rfl (by kernel_rfl) (fun _ => by kernel_rfl) (fun _ => by kernel_rfl) rfl rfl ⟨?_, ?_, ?_, ?_, ?_, ?_, ?_, ?_, ?_, ?_, ?_, ?_, ?_, ?_, ?_, ?_, trivial⟩ rfl (by kernel_rfl) ?_
          · intro kk aa hk E
            have h5 : aa.eval (.tmp 5) = Value.pointer (some ⟨w.heap.size + 1 + 1, 0, none⟩) := (E 5 (by kernel_rfl)).trans (by kernel_rfl)
            exact obl_pure (by kernel_rfl) rfl hk fun w => op_faP rfl rfl h5
          · intro kk aa hk E
            have h74 : aa.eval (.tmp 74) = Value.pointer (some ⟨w.heap.size + 1 + 1, 1, none⟩) := (E 74 (by kernel_rfl)).trans (by kernel_rfl)
            refine obl_read (ks := [0, 1]) (by kernel_rfl) (by kernel_rfl) rfl hk ⟨?_, ?_, trivial⟩
            · intro w' hw; cases hw; exact op_ldP rfl (.inl rfl) rfl h74 p1
            · intro w' hw; cases hw; exact op_ldP rfl (.inl rfl) rfl h74 p1a
          · intro kk aa hk E
            have h12 : aa.eval (.tmp 12) = Value.pointer (some ⟨n12, 0, none⟩) := (E 12 (by kernel_rfl)).trans (by kernel_rfl)
            refine obl_read (ks := [0, 1]) (by kernel_rfl) (by kernel_rfl) rfl hk ⟨?_, ?_, trivial⟩
            · intro w' hw; cases hw; exact op_ldN rfl rfl h12 x0 x1
            · intro w' hw; cases hw; exact op_ldN rfl rfl h12 x0a x1a
          · intro kk aa hk E
            have h2 : aa.eval (.tmp 2) = Value.pointer (some ⟨w.heap.size, 0, none⟩) := (E 2 (by kernel_rfl)).trans (by kernel_rfl)
            refine obl_read (ks := [0, 1]) (by kernel_rfl) (by kernel_rfl) rfl hk ⟨?_, ?_, trivial⟩
            · intro w' hw; cases hw; exact op_ldP rfl (.inr (.inl rfl)) rfl h2 r0
            · intro w' hw; cases hw; exact op_ldP rfl (.inr (.inl rfl)) rfl h2 r0a
          · intro kk aa hk E
            have h77 : aa.eval (.tmp 77) = Value.pointer (some ⟨kb, 0, none⟩) := (E 77 (by kernel_rfl)).trans (by kernel_rfl)
            exact obl_pure (by kernel_rfl) rfl hk fun w => op_nil rfl rfl h77
          · intro kk aa hk E
            have h78 : aa.eval (.tmp 78) = Value.pointer (some ⟨kb, 0, none⟩) := (E 78 (by kernel_rfl)).trans (by kernel_rfl)
            exact obl_pure (by kernel_rfl) rfl hk fun w => op_faL rfl (.inr rfl) rfl h78
          · intro kk aa hk E
            have h79 : aa.eval (.tmp 79) = Value.pointer (some ⟨kb, 2, none⟩) := (E 79 (by kernel_rfl)).trans (by kernel_rfl)
            refine obl_read (ks := [0, 1]) (by kernel_rfl) (by kernel_rfl) rfl hk ⟨?_, ?_, trivial⟩
            · intro w' hw; cases hw; exact op_ldP rfl (.inr (.inr (.inr rfl))) rfl h79 k2
            · intro w' hw; cases hw; exact op_ldP rfl (.inr (.inr (.inr rfl))) rfl h79 k2a
          · intro kk aa hk E
            have h2 : aa.eval (.tmp 2) = Value.pointer (some ⟨w.heap.size, 0, none⟩) := (E 2 (by kernel_rfl)).trans (by kernel_rfl)
            refine obl_read (ks := [0, 1]) (by kernel_rfl) (by kernel_rfl) rfl hk ⟨?_, ?_, trivial⟩
            · intro w' hw; cases hw; exact op_ldP rfl (.inr (.inl rfl)) rfl h2 r0
            · intro w' hw; cases hw; exact op_ldP rfl (.inr (.inl rfl)) rfl h2 r0a
          · intro kk aa hk E
            have h81 : aa.eval (.tmp 81) = Value.pointer (some ⟨kb, 0, none⟩) := (E 81 (by kernel_rfl)).trans (by kernel_rfl)
            exact obl_pure (by kernel_rfl) rfl hk fun w => op_nil rfl rfl h81
          · intro kk aa hk E
            have h82 : aa.eval (.tmp 82) = Value.pointer (some ⟨kb, 0, none⟩) := (E 82 (by kernel_rfl)).trans (by kernel_rfl)
            exact obl_pure (by kernel_rfl) rfl hk fun w => op_faL rfl (.inl rfl) rfl h82
          · intro kk aa hk E
            have h83 : aa.eval (.tmp 83) = Value.pointer (some ⟨kb, 1, none⟩) := (E 83 (by kernel_rfl)).trans (by kernel_rfl)
            refine obl_read (ks := [0, 1]) (by kernel_rfl) (by kernel_rfl) rfl hk ⟨?_, ?_, trivial⟩
            · intro w' hw; cases hw; exact op_ldP rfl (.inr (.inr (.inl rfl))) rfl h83 k1
            · intro w' hw; cases hw; exact op_ldP rfl (.inr (.inr (.inl rfl))) rfl h83 k1a
          · intro kk aa hk E
            have h12 : aa.eval (.tmp 12) = Value.pointer (some ⟨n12, 0, none⟩) := (E 12 (by kernel_rfl)).trans (by kernel_rfl)
            refine obl_read (ks := [0, 1]) (by kernel_rfl) (by kernel_rfl) rfl hk ⟨?_, ?_, trivial⟩
            · intro w' hw; cases hw; exact op_ldN rfl rfl h12 x0 x1
            · intro w' hw; cases hw; exact op_ldN rfl rfl h12 x0a x1a
          · intro kk aa hk E
            have h84 : aa.eval (.tmp 84) = Value.map (some m1) := (E 84 (by kernel_rfl)).trans (by kernel_rfl)
            have h85 : aa.eval (.tmp 85) = Value.agg #[.string ⟨n.pack.toArray⟩, .int .i64 n.id] := (E 85 (by kernel_rfl)).trans (by kernel_rfl)
            refine obl_read (ks := [0, 1]) (by kernel_rfl) (by kernel_rfl) rfl hk ⟨?_, ?_, trivial⟩
            · intro w' hw; cases hw; exact op_lk rfl rfl h84 h85 lk1
            · intro w' hw; cases hw; exact op_lk rfl rfl h84 h85 lk1a
          · intro kk aa hk E
            have h80 : aa.eval (.tmp 80) = Value.map (some m2) := (E 80 (by kernel_rfl)).trans (by kernel_rfl)
            have h86 : aa.eval (.tmp 86) = Value.agg #[.int .i64 s.code, .int .i64 s.block] := (E 86 (by kernel_rfl)).trans (by kernel_rfl)
            refine obl_read (ks := [0, 1]) (by kernel_rfl) (by kernel_rfl) rfl hk ⟨?_, ?_, trivial⟩
            · intro w' hw; cases hw; exact op_lk rfl rfl h80 h86 lk2
            · intro w' hw; cases hw; exact op_lk rfl rfl h80 h86 lk2a
          · intro kk aa hk E
            have h76 : aa.eval (.tmp 76) = Value.agg #[.string ⟨n.pack.toArray⟩, .int .i64 n.id] := (E 76 (by kernel_rfl)).trans (by kernel_rfl)
            have h87 : aa.eval (.tmp 87) = Value.int .i64 ix := (E 87 (by kernel_rfl)).trans (by kernel_rfl)
            exact obl_pure (by kernel_rfl) rfl hk fun w => op_bd rfl rfl h76 h87 ⟨_, rfl⟩
          · intro kk aa hk E
            have h88 : aa.eval (.tmp 88) = Value.agg #[.string ⟨n.pack.toArray⟩, .int .i64 n.id, .int .i64 ix] := (E 88 (by kernel_rfl)).trans (by kernel_rfl)
            exact obl_write (ks := [0]) (by kernel_rfl) (by kernel_rfl) hk ⟨⟨1, _, _, by kernel_rfl, rfl, rfl, op_ns rfl rfl rfl h88⟩, trivial⟩
          intro af haf
          simp only [List.take_succ_cons, List.take_zero, finA, Act.put, List.setIfInBounds_toArray, List.set_cons_succ, List.set_cons_zero] at haf
          subst haf
          simp only [List.drop_succ_cons, List.drop_zero]
          have S2 := Lib.hid (S1.out.go (gr_drew W1))
          have F2 := Lib.hid (show W1.drew.cell? ⟨w.heap.size + 1 + 1, 1, none⟩ = some (.slice A2 j c2) from p1)
          clear r0 x0 x1 k1 k2 lk1 lk2 p1 f1 r0a x0a x1a k1a k2a lk1a lk2a p1a GA
          generalize W1.drew = W2 at *
          have BRD := Lib.hid (show RD 3 Stt.cs (W2.alloc (.cells #[.string ⟨n.pack.toArray⟩, .int .i64 n.id, .int .i64 ix] 79)) (some ⟨W2.heap.size, 0, none⟩) [stN L K n] from rd_cells (t := 79) elT.hn (by rw [HX.out]; exact al_new _ _))
          have OWN := Lib.hid (show ∀ q, (Value.slice A2 j c2).ownBlock = some q → V.heap.size ≤ q from fun q hq => (S2.out.o.lt q hq).1)
          have HVZ := Lib.hid (S2.out.g.size)
          go_wp2_with ((at_builtin; refine wpList_app elT rfl (.tmp 75) (.tmp 89) rfl V.heap.size rfl (S2.out.o.gr (gr_al _ _)) (m := 1) (c := 1) rfl rfl BRD.out (by have := HLEN.out; simp; omega) (by have := HVZ.out; simp; omega) ?_; intro v7 w7 o7 g7 h7; obtain ⟨A7, c7, rfl⟩ := stt_form (n := j + 1) (by rw [List.length_append, HLEN.out]; rfl) o7; have O7 := Lib.hid o7; have G7 := Lib.hid g7; have hp7 := (g7.block (w.heap.size + 2) (by have := HVZ.out; have := HVW.out; simp; omega) (fun e => by have := OWN.out _ e.symm; have := HVW.out; omega)).trans (gr_h (gr_al _ _) S2.out.p); have q7 : w7.cell? ⟨w.heap.size + 1 + 1, 1, none⟩ = some (.slice A2 j c2) := (by rw [show w.heap.size + 1 + 1 = w.heap.size + 2 from rfl, Lib.cell_of_heap hp7]; rfl); have f7 : w7.frozen? ⟨w.heap.size + 1 + 1, 1, none⟩ = false := frz hp7 1; clear o7 g7 h7 hp7))
          gi_wp2
          have SN := Lib.hid (show SgS w V (.slice A1 nd c1) (.slice A7 (j + 1) c7) ((R.take j).map (stN L K) ++ [stN L K n]) (w7.setCell ⟨w.heap.size + 2, 1, none⟩ (.slice A7 (j + 1) c7)) from SgS.put (S2.out.go (gr_al W2 (.cells #[.string ⟨n.pack.toArray⟩, .int .i64 n.id, .int .i64 ix] 79))) HVW.out O7.out G7.out)
          refine ⟨⟨j + 1, by omega, by simp, .slice A7 (j + 1) c7, ?_⟩, by simp [intOf]; omega⟩
          rw [List.take_add_one, HNJ.out, Option.toList_some, List.map_append, List.map_cons, List.map_nil]
          exact SN
        · obtain rfl : nr = j := by omega
          have hlen : ((R.take nr).map (stN L K)).length = nr := by rw [List.length_map, List.length_take, HNR.out]; omega
          have HLEN := Lib.hid hlen
          have GW := Lib.hid (HS.out.gw HP.out.gr)
          have MX := Lib.hid (show Mks (w.heap.size + 3) wr ds from HP.out.mks.keep fun q hq hr => (HS.out.g.block q (heap_lt hr) (fun e => by have := Option.some.inj e; omega)).trans hr)
          obtain ⟨A2, c2, rfl⟩ := stt_form hlen HS.out.o
          obtain ⟨-, p1, -⟩ := HS.out.c
          have SO := Lib.hid (sort_own V.heap.size _ _ wr HS.out.o (by rw [hlen]; exact hrl))
          clear hlen
          gi_upto_region 20 with (refine ⟨trivial, ?_⟩; gi_at_call 72; refine (callsIn_wide.2 SO.out).mono ?_; rintro e w1 ⟨rfl, M, m1, m2, o1, g1⟩; have HM1 := Lib.hid m1; have HM2 := Lib.hid m2; have S1 := Lib.hid (HS.out.row HVW.out o1 g1); clear m1 m2 o1 g1)
          obtain ⟨-, q1, -⟩ := S1.out.c
          have hml : M.length = nr := by rw [HM1.out.length_eq]; exact HLEN.out
          have CO := Lib.hid (compact_own V.heap.size _ M w1 S1.out.o (by omega))
          obtain ⟨n3, hn3⟩ : ∃ n, (cmpS M).length = n := ⟨_, rfl⟩
          have HN3 := Lib.hid hn3
          clear p1 hml hn3
          gi_upto_region 21 with (refine ⟨trivial, ?_⟩; gi_at_call 77; refine (callsIn_wide.2 CO.out).mono ?_; rintro e w2 ⟨v3, rfl, o3, g3⟩; obtain ⟨A3, c3, rfl⟩ := stt_form HN3.out o3; have hp3 := (g3.block (w.heap.size + 2) (heap_lt S1.out.p) (fun e => by have := (S1.out.o.lt _ e.symm).1; have := HVW.out; omega)).trans S1.out.p; have q3 : w2.cell? ⟨w.heap.size + 1 + 1, 1, none⟩ = some (.slice A2 nr c2) := (by rw [show w.heap.size + 1 + 1 = w.heap.size + 2 from rfl, Lib.cell_of_heap hp3]; rfl); have f3 : w2.frozen? ⟨w.heap.size + 1 + 1, 1, none⟩ = false := frz hp3 1; have S2 := Lib.hid (show SgS w V (.slice A1 nd c1) (.slice A3 n3 c3) (cmpS M) (w2.setCell ⟨w.heap.size + 2, 1, none⟩ (.slice A3 n3 c3)) from S1.out.put HVW.out o3 g3); clear o3 g3 hp3)
          have MX2 := Lib.hid (show Mks (w.heap.size + 3) (w2.setCell ⟨w.heap.size + 2, 1, none⟩ (.slice A3 n3 c3)) ds from HP.out.mks.keep fun q hq hr => (S2.out.g.block q (heap_lt hr) (fun e => by have := Option.some.inj e; omega)).trans hr)
          change Code.wpIn _ _ _ _ _ _ (w2.setCell ⟨w.heap.size + 2, 1, none⟩ (.slice A3 n3 c3))
          generalize w2.setCell ⟨w.heap.size + 2, 1, none⟩ (.slice A3 n3 c3) = W3 at *
          clear q1 q3 f3
          obtain ⟨s0, s1, -⟩ := S2.out.c
          have hr3 := (S2.out.g.block (w.heap.size + 1) (heap_lt HP.out.r) (fun e => by have := Option.some.inj e; omega)).trans HP.out.r
          have e0 : W3.cell? ⟨w.heap.size + 1, 0, none⟩ = some (.slice none 0 0) := by rw [Lib.cell_of_heap hr3]; rfl
          have e1 : W3.cell? ⟨w.heap.size + 1, 1, none⟩ = some (.slice none 0 0) := by rw [Lib.cell_of_heap hr3]; rfl
          have f0 := frz hr3 0
          have f1 := frz hr3 1
          have HR3 := Lib.hid hr3
          clear hr3
          gi_wp2
          have MX4 := MX2.out.keep (W' := (W3.setCell ⟨w.heap.size + 1, 0, none⟩ (.slice A1 nd c1)).setCell ⟨w.heap.size + 1, 1, none⟩ (.slice A3 n3 c3)) (fun q hq hr => (Below.heap_setCell _ _ _ _ (by show q ≠ w.heap.size + 1; omega)).trans ((Below.heap_setCell _ _ _ _ (by show q ≠ w.heap.size + 1; omega)).trans hr))
          refine leaves_mks ds _ MX4 fun W' hT => ?_
          have h4 := hT.low (w.heap.size + 1) (by omega)
          rw [set2c HR3.out] at h4
          refine ⟨_, results_prog rfl _ _ ⟨w.heap.size + 1, 0, none⟩ (.slice A1 nd c1) (.slice A3 n3 c3) rfl (by rw [Lib.cell_of_heap h4]; rfl) (by rw [Lib.cell_of_heap h4]; rfl), ⟨A1, c1, done, A3, c3, cmpS M⟩, ?_, ?_, ?_, ?_, ?_, ?_⟩
          · unfold Prg.v
            rw [HND.out, HN3.out]
          · have hb : RD 3 Blk.cs V A1 done := by
              obtain ⟨A0, c0, e0, hb⟩ := HP.out.o.form elB.hn
              cases e0
              exact hb
            have hss : RD 3 Stt.cs W3 A3 (cmpS M) := by
              obtain ⟨A0, c0, e0, hss⟩ := S2.out.o.form elT.hn
              cases e0
              exact hss
            have st : ∀ {α : Type} {m : Nat} {cs : α → List Value} {Aq : Option Addr} {Mq : List α}, RD m cs W3 Aq Mq → (∀ a, Aq = some a → w.heap.size + 3 ≤ a.block) → RD m cs W' Aq Mq := fun hR hA =>
              ((hR.but (grown_set (w := W3) (w.heap.size + 1) 0 (.slice A1 nd c1)) (fun a e e2 => by have := hA a e; have := Option.some.inj e2; omega)).but (grown_set (w := W3.setCell ⟨w.heap.size + 1, 0, none⟩ (.slice A1 nd c1)) (w.heap.size + 1) 1 (.slice A3 n3 c3)) (fun a e e2 => by have := hA a e; have := Option.some.inj e2; omega)).tk hT
            have sv : ∀ {α : Type} {m : Nat} {cs : α → List Value} {Aq : Option Addr} {Mq : List α}, RD m cs V Aq Mq → (∀ a, Aq = some a → w.heap.size + 3 ≤ a.block) → RD m cs W' Aq Mq := fun hR hA =>
              st (hR.but S2.out.g (fun a e e2 => by have := hA a e; have := Option.some.inj e2; omega)) hA
            refine ⟨sv hb fun a e => ?_, fun b hb2 => sv (HP.out.ins b hb2).1 fun a e => ((HP.out.ins b hb2).2.2 a e).1, st hss fun a e => ?_⟩
            · exact (HP.out.o.lt a.block (by rw [show A1 = some a from e]; rfl)).1
            · have := (S2.out.o.lt a.block (by rw [show A3 = some a from e]; rfl)).1
              have := HVW.out
              omega
          · rw [HP.out.e, List.take_of_length_le (Nat.le_of_eq HN.out)]
            rfl
          · have h := HM1.out
            rw [List.take_of_length_le (Nat.le_of_eq HNR.out)] at h
            exact sorted_ok h HM2.out
          · have g4 : Gr w ((W3.setCell ⟨w.heap.size + 1, 0, none⟩ (.slice A1 nd c1)).setCell ⟨w.heap.size + 1, 1, none⟩ (.slice A3 n3 c3)) := gr_cell (gr_cell (S2.out.gw HP.out.gr) (by omega) _) (by omega) _
            exact ⟨hT.os.trans g4.os, hT.tape.trans g4.tape, hT.output.trans g4.output, by rw [hT.size]; exact g4.size, fun k hk hn => (hT.low k (by omega)).trans (g4.block k hk hn)⟩
          · exact fun b hb => (HP.out.ins b hb).2.1
end Go.Proofs.YtgboboljgcfggaaGreatDoor
namespace Go.Proofs.YtgboboljgcfggaaGreatDoor
open Go.RowKit
attribute [local irreducible] Calls in
set_option maxRecDepth 100000 in
set_option maxHeartbeats 4000000 in
theorem check8_any (p : Cod) (w : World) (hp : p.Rd w) (hL : p.Lim) : Calls Tryz.prog 69 #[p.v] w fun e w' => e = .returned (.int .i64 (errC p)) ∧ Gr w w' := by
  obtain ⟨NB, hNB⟩ : ∃ n, p.bs.length = n := ⟨_, rfl⟩
  obtain ⟨ND, hND⟩ : ∃ n, p.ds.length = n := ⟨_, rfl⟩
  obtain ⟨bA, hbA⟩ : ∃ a, p.bA = a := ⟨_, rfl⟩
  obtain ⟨dA, hdA⟩ : ∃ a, p.dA = a := ⟨_, rfl⟩
  have hb9 : NB ≤ 9223372036854775807 := by rw [← hNB]; exact hL.b
  have hd9 : ND ≤ 9223372036854775807 := by rw [← hND]; exact hL.d
  have HB := Lib.hid (fun V (g : Gr w V) => show RD 3 Blk.cs V bA p.bs from by rw [← hbA]; exact (hp.gr g).b)
  have HD := Lib.hid (fun V (g : Gr w V) => show RD 3 Dcl.cs V dA p.ds from by rw [← hdA]; exact (hp.gr g).d)
  have CB := Lib.hid (fun V (g : Gr w V) (b : Blk) (hb : b ∈ p.bs) => show Calls Tryz.prog 95 #[.agg #[.string ⟨p.label.toArray⟩, .slice bA NB p.bc, .slice dA ND p.dc], .agg #[.int .i64 b.cap, .bool b.param, .slice b.A b.ins.length b.c]] V (fun e w' => e = .returned (.int .i64 (errB8 p.bs b)) ∧ Gr V w') from by
    have h := checkBlock8_any p b V (hp.gr g) ((hp.gr g).i b hb) (hL.i b hb) (hL.n b hb)
    unfold Cod.v Blk.v at h
    simp only [hNB, hND, hbA, hdA] at h
    exact h)
  have LB := Lib.hid (fun V => label_any p.label V hL.l)
  have GW := Lib.hid (show Gr w (w.alloc (.cells #[.string ⟨p.label.toArray⟩, .slice bA NB p.bc, .slice dA ND p.dc] 65)) from gr_al _ _)
  have HX := Lib.hid (fun V (g : Gr (w.alloc (.cells #[.string ⟨p.label.toArray⟩, .slice bA NB p.bc, .slice dA ND p.dc] 65)) V) => cells3 (gr_h g (al_new w (.cells #[.string ⟨p.label.toArray⟩, .slice bA NB p.bc, .slice dA ND p.dc] 65))))
  have EBI := Lib.hid (fun (k : Nat) (b : Blk) (hk : p.bs[k]? = some b) => show (p.bs.map (errB8 p.bs))[k]? = some (errB8 p.bs b) from by rw [List.getElem?_map, hk]; rfl)
  have EBL := Lib.hid (show (p.bs.map (errB8 p.bs)).length = NB from by rw [List.length_map, hNB])
  have EDI := Lib.hid (fun (k : Nat) (x : Dcl) (hk : p.ds[k]? = some x) => show ((List.range p.ds.length).map (errD p.bs p.ds))[k]? = some (if x.id < 1 ∨ 999999 < x.id then 2 else if ordD p.ds x k = false then 10 else if ¬ (x.kind = 1 ∨ x.kind = 2 ∨ x.kind = 3) then 9 else if plainB p.bs x.block = false then 2 else 0) from by
    rw [List.getElem?_map, List.getElem?_range (List.getElem?_eq_some_iff.1 hk).1]
    simp only [Option.map_some, errD, hk])
  have EDL := Lib.hid (show ((List.range p.ds.length).map (errD p.bs p.ds)).length = ND from by rw [List.length_map, List.length_range, hND])
  have EC := Lib.hid (show errC p = if lab p.label = false then 6 else if fe8 (p.bs.map (errB8 p.bs)) ≠ 0 then fe8 (p.bs.map (errB8 p.bs)) else fe8 ((List.range p.ds.length).map (errD p.bs p.ds)) from rfl)
  obtain ⟨EB, hEB⟩ : ∃ E, p.bs.map (errB8 p.bs) = E := ⟨_, rfl⟩
  obtain ⟨ED, hED⟩ : ∃ E, (List.range p.ds.length).map (errD p.bs p.ds) = E := ⟨_, rfl⟩
  simp only [hEB] at EBI EBL EC
  simp only [hED] at EDI EDL EC
  obtain ⟨r, hr⟩ : ∃ r, errC p = r := ⟨_, rfl⟩
  rw [hr] at EC ⊢
  obtain ⟨lb, hlb⟩ : ∃ b, lab p.label = b := ⟨_, rfl⟩
  rw [hlb] at EC
  simp only [hlb] at LB
  have HNB := Lib.hid hNB
  have HND := Lib.hid hND
  unfold Cod.v
  rw [hNB, hND, hbA, hdA]
  obtain ⟨x0, x1, x2⟩ := HX.out _ (gr_refl _)
  clear hp hL hNB hND hbA hdA hEB hED hr hlb
  cases lb with
  | false =>
    have e6 := EC.out
    rw [if_pos rfl] at e6
    subst e6
    clear HB HD CB EBI EDI
    go_enter Tryz.func69, Tryz.ntmps69
    go_wp2_with (first | (go_at_call 52; (with_reducible refine (LB.out _).mono ?_); rintro e w1 ⟨rfl, k1⟩; have G1 := Lib.hid (gr_of k1); clear k1))
    go_ret
    exact ⟨rfl, GW.out.trans G1.out⟩
  | true =>
    have e6 := EC.out
    rw [if_neg (by simp)] at e6
    have E6 := Lib.hid e6
    clear e6 EC
    go_enter Tryz.func69, Tryz.ntmps69
    go_upto_region 3 with (first | (go_at_call 52; (with_reducible refine (LB.out _).mono ?_); rintro e w1 ⟨rfl, k1⟩; have G1 := Lib.hid (gr_of k1); clear k1))
    clear x0 x1 x2
    obtain ⟨x0, x1, x2⟩ := HX.out _ G1.out
    have G0 := Lib.hid (gr_refl w1)
    go_wp2
    go_loopw [15] (fun i V => ∃ k : Nat, k ≤ NB ∧ i = .int .i64 k ∧ Hid (Gr w1 V ∧ fe8 (EB.take k) = 0)) (fun i _ => NB - (intOf i).toNat)
    case atStart => exact ⟨0, Nat.zero_le _, rfl, Lib.hid ⟨G0.out, rfl⟩⟩
    case round =>
      obtain ⟨k, hk, rfl, HK⟩ := hrel
      obtain ⟨gk, hfe⟩ := HK.out
      have GK := Lib.hid gk
      have FE := Lib.hid hfe
      clear gk hfe HK x0 x1 x2
      obtain ⟨x0, x1, x2⟩ := HX.out _ (G1.out.trans GK.out)
      by_cases hlt : k < NB
      · obtain ⟨a, a1, eA, ha, hab, y0, y1, y2⟩ := (HB.out _ (GW.out.trans (G1.out.trans GK.out))).blk (k := k) (by rw [HNB.out]; exact hlt)
        obtain rfl := eA
        obtain ⟨b, hb⟩ : ∃ x, p.bs[k]'(by rw [HNB.out]; exact hlt) = x := ⟨_, rfl⟩
        have HXI := Lib.hid (show p.bs[k]? = some b from by rw [List.getElem?_eq_getElem (by rw [HNB.out]; exact hlt), hb])
        rw [hb] at y0 y1 y2
        obtain ⟨z, hz⟩ : ∃ z, errB8 p.bs b = z := ⟨_, rfl⟩
        have CX := Lib.hid (fun V (g : Gr wr V) => CB.out V ((GW.out.trans (G1.out.trans GK.out)).trans g) b (List.mem_of_getElem? HXI.out))
        simp only [hz] at CX
        have FA := Lib.hid (show (z ≠ 0 → fe8 EB = z) ∧ (z = 0 → fe8 (EB.take (k + 1)) = 0) from fe8_fail (by rw [EBI.out k b HXI.out, hz]) FE.out)
        clear hb hz
        go_upto_region 6 with (fail)
        have HI := Lib.hid (fun V (g : Gr (wr.alloc (.cells #[.int .i64 b.cap, .bool b.param, .slice b.A b.ins.length b.c] 69)) V) => cells3 (gr_h g (al_new wr (.cells #[.int .i64 b.cap, .bool b.param, .slice b.A b.ins.length b.c] 69))))
        have G7 := Lib.hid (gr_al wr (.cells #[.int .i64 b.cap, .bool b.param, .slice b.A b.ins.length b.c] 69))
        obtain ⟨q, hq⟩ : ∃ q, wr.heap.size = q := ⟨_, rfl⟩
        rw [hq] at HI ⊢
        clear hq
        generalize World.alloc wr _ = W7 at *
        clear x0 x1 x2 y0 y1 y2
        obtain ⟨x0, x1, x2⟩ := HX.out _ (G1.out.trans (GK.out.trans G7.out))
        obtain ⟨i0, i1, i2⟩ := HI.out _ (gr_refl _)
        by_cases hz0 : z = 0
        · subst hz0
          go_wp2_with (first | (go_at_call 95; (with_reducible refine (CX.out _ G7.out).mono ?_); rintro e w6 ⟨rfl, g6⟩; have G6 := Lib.hid (G7.out.trans g6); clear g6))
          exact ⟨⟨k + 1, hlt, by simp, Lib.hid ⟨GK.out.trans G6.out, FA.out.2 trivial⟩⟩, by simp [intOf]; omega⟩
        · have hb0 : (z != 0) = true := by simpa using hz0
          have hfin : r = z := E6.out.trans (by rw [if_pos (by rw [FA.out.1 hz0]; exact hz0)]; exact FA.out.1 hz0)
          subst hfin
          clear hz0
          go_wp2_with (first | (go_at_call 95; (with_reducible refine (CX.out _ G7.out).mono ?_); rintro e w6 ⟨rfl, g6⟩; have G6 := Lib.hid (G7.out.trans g6); clear g6))
          go_ret
          exact ⟨rfl, (GW.out.trans (G1.out.trans GK.out)).trans G6.out⟩
      · obtain rfl : NB = k := by omega
        have h0 := FE.out
        rw [List.take_of_length_le (by rw [EBL.out]; exact Nat.le_refl _)] at h0
        have e7 := E6.out
        rw [if_neg (by rw [h0]; simp)] at e7
        have E7 := Lib.hid e7
        have G8 := Lib.hid (G1.out.trans GK.out)
        obtain ⟨w8, rfl⟩ : ∃ x, x = wr := ⟨_, rfl⟩
        have G00 := Lib.hid (gr_refl w8)
        clear h0 e7 E6 FE EBI EBL CB hk hlt G0 GK
        go_wp2
        go_loopw [29] (fun i V => ∃ k : Nat, k ≤ ND ∧ i = .int .i64 k ∧ Hid (Gr w8 V ∧ fe8 (ED.take k) = 0)) (fun i _ => ND - (intOf i).toNat)
        case atStart => exact ⟨0, Nat.zero_le _, rfl, Lib.hid ⟨G00.out, rfl⟩⟩
        case round =>
          obtain ⟨k, hk, rfl, HK⟩ := hrel
          obtain ⟨gk, hfe⟩ := HK.out
          have GK := Lib.hid gk
          have FE := Lib.hid hfe
          clear gk hfe HK x0 x1 x2
          obtain ⟨x0, x1, x2⟩ := HX.out _ (G8.out.trans GK.out)
          by_cases hlt : k < ND
          · obtain ⟨a, a1, eA, ha, hab, y0, y1, y2⟩ := (HD.out _ (GW.out.trans (G8.out.trans GK.out))).dcl (k := k) (by rw [HND.out]; exact hlt)
            obtain rfl := eA
            obtain ⟨d, hd⟩ : ∃ x, p.ds[k]'(by rw [HND.out]; exact hlt) = x := ⟨_, rfl⟩
            have HXI := Lib.hid (show p.ds[k]? = some d from by rw [List.getElem?_eq_getElem (by rw [HND.out]; exact hlt), hd])
            rw [hd] at y0 y1 y2
            have FA := Lib.hid (show (∀ v : Int, v ≠ 0 → (if d.id < 1 ∨ 999999 < d.id then 2 else if ordD p.ds d k = false then 10 else if ¬ (d.kind = 1 ∨ d.kind = 2 ∨ d.kind = 3) then 9 else if plainB p.bs d.block = false then 2 else 0 : Int) = v → fe8 ED = v) ∧ ((if d.id < 1 ∨ 999999 < d.id then 2 else if ordD p.ds d k = false then 10 else if ¬ (d.kind = 1 ∨ d.kind = 2 ∨ d.kind = 3) then 9 else if plainB p.bs d.block = false then 2 else 0 : Int) = 0 → fe8 (ED.take (k + 1)) = 0) from by
              have h := fe8_fail (EDI.out k d HXI.out) FE.out
              exact ⟨fun v hv e => (h.1 (by rw [e]; exact hv)).trans e, h.2⟩)
            obtain ⟨di, hdi⟩ : ∃ z, d.id = z := ⟨_, rfl⟩
            obtain ⟨dk, hdk⟩ : ∃ z, d.kind = z := ⟨_, rfl⟩
            obtain ⟨db, hdb⟩ : ∃ z, d.block = z := ⟨_, rfl⟩
            have HOR := Lib.hid (show ∀ (j : Nat) (q : Dcl), k = j + 1 → p.ds[j]? = some q → ordD p.ds d k = decide (q.id < di) from fun j q hj hq => by rw [hj, ordD, hq, ← hdi])
            have HO0 := Lib.hid (show k = 0 → ordD p.ds d k = true from fun h => by rw [h]; rfl)
            rw [hdi] at y0
            rw [hdk] at y1
            rw [hdb] at y2
            simp only [hdi, hdk, hdb] at FA
            obtain ⟨od, hod⟩ : ∃ b, ordD p.ds d k = b := ⟨_, rfl⟩
            simp only [hod] at FA HOR HO0
            clear hd hdi hdk hdb hod
            go_upto_region 13 with (fail)
            have HI := Lib.hid (fun V (g : Gr (wr.alloc (.cells #[.int .i64 di, .int .i64 dk, .int .i64 db] 126)) V) => cells3 (gr_h g (al_new wr (.cells #[.int .i64 di, .int .i64 dk, .int .i64 db] 126))))
            have GZ := Lib.hid (GK.out.trans (gr_al wr (.cells #[.int .i64 di, .int .i64 dk, .int .i64 db] 126)))
            obtain ⟨q, hq⟩ : ∃ q, wr.heap.size = q := ⟨_, rfl⟩
            rw [hq] at HI ⊢
            clear hq
            generalize World.alloc wr _ = W7 at *
            clear x0 x1 x2 y0 y1 y2
            obtain ⟨x0, x1, x2⟩ := HX.out _ (G8.out.trans GZ.out)
            obtain ⟨i0, i1, i2⟩ := HI.out _ (gr_refl _)
            by_cases hid : di < 1 ∨ 999999 < di
            · have hfin : r = 2 := E7.out.trans (FA.out.1 2 (by simp) (by rw [if_pos hid]))
              subst hfin
              clear E7 FA
              by_cases h1 : di < 1
              · clear hid
                go_wp2
                go_ret
                exact ⟨rfl, (GW.out.trans G8.out).trans GZ.out⟩
              · have h2 : 999999 < di := hid.resolve_left h1
                clear hid
                go_wp2
                go_ret
                exact ⟨rfl, (GW.out.trans G8.out).trans GZ.out⟩
            · have n1 : ¬ di < 1 := fun h => hid (.inl h)
              have n2 : ¬ 999999 < di := fun h => hid (.inr h)
              rcases Nat.eq_zero_or_pos k with rfl | hk0
              · obtain rfl := HO0.out rfl
                go_upto_region 15 with (fail)
                go_quiet (fail)
                generalize hW8 : World.drewN W7 _ = W8
                have G78 := Lib.hid (show Gr W7 W8 from by rw [← hW8]; exact gr_drewN _ _)
                clear hW8 x0 x1 x2 i0 i1 i2
                obtain ⟨x0, x1, x2⟩ := HX.out _ (G8.out.trans (GZ.out.trans G78.out))
                obtain ⟨i0, i1, i2⟩ := HI.out _ G78.out
                have GZ := Lib.hid (GZ.out.trans G78.out)
                by_cases hkd : dk = 1 ∨ dk = 2 ∨ dk = 3
                · have FA2 := Lib.hid (show plainB p.bs db = false → fe8 ED = 2 from fun h => FA.out.1 2 (by simp) (by rw [if_neg hid, if_neg (by simp), if_neg (fun h => h hkd), if_pos h]))
                  have FA0 := Lib.hid (show plainB p.bs db = true → fe8 (ED.take (0 + 1)) = 0 from fun h => FA.out.2 (by rw [if_neg hid, if_neg (by simp), if_neg (fun h => h hkd), if_neg (by rw [h]; simp)]))
                  clear FA
                  rcases hkd with rfl | rfl | rfl
                  · go_upto_region 19 with (fail)
                    by_cases hb0 : db < 0
                    · have hfin : r = 2 := E7.out.trans (FA2.out (plainB_neg hb0))
                      subst hfin
                      clear E7 FA2
                      go_wp2
                      go_ret
                      exact ⟨rfl, (GW.out.trans G8.out).trans GZ.out⟩
                    · obtain ⟨M, rfl⟩ : ∃ M : Nat, db = M := ⟨db.toNat, by omega⟩
                      by_cases hbN : M < NB
                      · obtain ⟨a5, a6, eA5, ha5, hab5, z0, z1, -⟩ := (HB.out _ ((GW.out.trans G8.out).trans GZ.out)).blk (k := M) (by rw [HNB.out]; exact hbN)
                        obtain rfl := eA5
                        have EPL := Lib.hid (plainB_at (bs := p.bs) (M := M) (by rw [HNB.out]; exact hbN))
                        obtain ⟨cp, hcp⟩ : ∃ z, (p.bs[M]'(by rw [HNB.out]; exact hbN)).cap = z := ⟨_, rfl⟩
                        obtain ⟨pr, hpr⟩ : ∃ z, (p.bs[M]'(by rw [HNB.out]; exact hbN)).param = z := ⟨_, rfl⟩
                        rw [hcp] at z0 EPL
                        rw [hpr] at z1 EPL
                        have hMN : (M : Int) < (NB : Int) := by omega
                        clear hcp hpr hb0
                        by_cases hc0 : cp = 0
                        · subst hc0
                          cases pr with
                          | true =>
                            have hfin : r = 2 := E7.out.trans (FA2.out (by rw [EPL.out]; rfl))
                            subst hfin
                            clear E7 FA2 EPL
                            go_wp2
                            go_ret
                            exact ⟨rfl, (GW.out.trans G8.out).trans GZ.out⟩
                          | false =>
                            have hok := FA0.out (by rw [EPL.out]; rfl)
                            have HOK := Lib.hid hok
                            clear hok E7 FA2 EPL FA0
                            go_wp2
                            exact ⟨⟨0 + 1, hlt, by simp, Lib.hid ⟨GZ.out, HOK.out⟩⟩, by simp [intOf]; omega⟩
                        · have hcb : (cp != 0) = true := by simpa using hc0
                          have hfin : r = 2 := E7.out.trans (FA2.out (by rw [EPL.out]; simp [hc0]))
                          subst hfin
                          clear hc0 E7 FA2 EPL
                          go_wp2
                          go_ret
                          exact ⟨rfl, (GW.out.trans G8.out).trans GZ.out⟩
                      · have hfin : r = 2 := E7.out.trans (FA2.out (plainB_big (by rw [HNB.out]; omega)))
                        have hMN : ¬ (M : Int) < (NB : Int) := by omega
                        subst hfin
                        clear E7 FA2
                        go_wp2
                        go_ret
                        exact ⟨rfl, (GW.out.trans G8.out).trans GZ.out⟩
                  · go_upto_region 19 with (fail)
                    by_cases hb0 : db < 0
                    · have hfin : r = 2 := E7.out.trans (FA2.out (plainB_neg hb0))
                      subst hfin
                      clear E7 FA2
                      go_wp2
                      go_ret
                      exact ⟨rfl, (GW.out.trans G8.out).trans GZ.out⟩
                    · obtain ⟨M, rfl⟩ : ∃ M : Nat, db = M := ⟨db.toNat, by omega⟩
                      by_cases hbN : M < NB
                      · obtain ⟨a5, a6, eA5, ha5, hab5, z0, z1, -⟩ := (HB.out _ ((GW.out.trans G8.out).trans GZ.out)).blk (k := M) (by rw [HNB.out]; exact hbN)
                        obtain rfl := eA5
                        have EPL := Lib.hid (plainB_at (bs := p.bs) (M := M) (by rw [HNB.out]; exact hbN))
                        obtain ⟨cp, hcp⟩ : ∃ z, (p.bs[M]'(by rw [HNB.out]; exact hbN)).cap = z := ⟨_, rfl⟩
                        obtain ⟨pr, hpr⟩ : ∃ z, (p.bs[M]'(by rw [HNB.out]; exact hbN)).param = z := ⟨_, rfl⟩
                        rw [hcp] at z0 EPL
                        rw [hpr] at z1 EPL
                        have hMN : (M : Int) < (NB : Int) := by omega
                        clear hcp hpr hb0
                        by_cases hc0 : cp = 0
                        · subst hc0
                          cases pr with
                          | true =>
                            have hfin : r = 2 := E7.out.trans (FA2.out (by rw [EPL.out]; rfl))
                            subst hfin
                            clear E7 FA2 EPL
                            go_wp2
                            go_ret
                            exact ⟨rfl, (GW.out.trans G8.out).trans GZ.out⟩
                          | false =>
                            have hok := FA0.out (by rw [EPL.out]; rfl)
                            have HOK := Lib.hid hok
                            clear hok E7 FA2 EPL FA0
                            go_wp2
                            exact ⟨⟨0 + 1, hlt, by simp, Lib.hid ⟨GZ.out, HOK.out⟩⟩, by simp [intOf]; omega⟩
                        · have hcb : (cp != 0) = true := by simpa using hc0
                          have hfin : r = 2 := E7.out.trans (FA2.out (by rw [EPL.out]; simp [hc0]))
                          subst hfin
                          clear hc0 E7 FA2 EPL
                          go_wp2
                          go_ret
                          exact ⟨rfl, (GW.out.trans G8.out).trans GZ.out⟩
                      · have hfin : r = 2 := E7.out.trans (FA2.out (plainB_big (by rw [HNB.out]; omega)))
                        have hMN : ¬ (M : Int) < (NB : Int) := by omega
                        subst hfin
                        clear E7 FA2
                        go_wp2
                        go_ret
                        exact ⟨rfl, (GW.out.trans G8.out).trans GZ.out⟩
                  · go_upto_region 19 with (fail)
                    by_cases hb0 : db < 0
                    · have hfin : r = 2 := E7.out.trans (FA2.out (plainB_neg hb0))
                      subst hfin
                      clear E7 FA2
                      go_wp2
                      go_ret
                      exact ⟨rfl, (GW.out.trans G8.out).trans GZ.out⟩
                    · obtain ⟨M, rfl⟩ : ∃ M : Nat, db = M := ⟨db.toNat, by omega⟩
                      by_cases hbN : M < NB
                      · obtain ⟨a5, a6, eA5, ha5, hab5, z0, z1, -⟩ := (HB.out _ ((GW.out.trans G8.out).trans GZ.out)).blk (k := M) (by rw [HNB.out]; exact hbN)
                        obtain rfl := eA5
                        have EPL := Lib.hid (plainB_at (bs := p.bs) (M := M) (by rw [HNB.out]; exact hbN))
                        obtain ⟨cp, hcp⟩ : ∃ z, (p.bs[M]'(by rw [HNB.out]; exact hbN)).cap = z := ⟨_, rfl⟩
                        obtain ⟨pr, hpr⟩ : ∃ z, (p.bs[M]'(by rw [HNB.out]; exact hbN)).param = z := ⟨_, rfl⟩
                        rw [hcp] at z0 EPL
                        rw [hpr] at z1 EPL
                        have hMN : (M : Int) < (NB : Int) := by omega
                        clear hcp hpr hb0
                        by_cases hc0 : cp = 0
                        · subst hc0
                          cases pr with
                          | true =>
                            have hfin : r = 2 := E7.out.trans (FA2.out (by rw [EPL.out]; rfl))
                            subst hfin
                            clear E7 FA2 EPL
                            go_wp2
                            go_ret
                            exact ⟨rfl, (GW.out.trans G8.out).trans GZ.out⟩
                          | false =>
                            have hok := FA0.out (by rw [EPL.out]; rfl)
                            have HOK := Lib.hid hok
                            clear hok E7 FA2 EPL FA0
                            go_wp2
                            exact ⟨⟨0 + 1, hlt, by simp, Lib.hid ⟨GZ.out, HOK.out⟩⟩, by simp [intOf]; omega⟩
                        · have hcb : (cp != 0) = true := by simpa using hc0
                          have hfin : r = 2 := E7.out.trans (FA2.out (by rw [EPL.out]; simp [hc0]))
                          subst hfin
                          clear hc0 E7 FA2 EPL
                          go_wp2
                          go_ret
                          exact ⟨rfl, (GW.out.trans G8.out).trans GZ.out⟩
                      · have hfin : r = 2 := E7.out.trans (FA2.out (plainB_big (by rw [HNB.out]; omega)))
                        have hMN : ¬ (M : Int) < (NB : Int) := by omega
                        subst hfin
                        clear E7 FA2
                        go_wp2
                        go_ret
                        exact ⟨rfl, (GW.out.trans G8.out).trans GZ.out⟩
                · have hfin : r = 9 := E7.out.trans (FA.out.1 9 (by simp) (by rw [if_neg hid, if_neg (by simp), if_pos hkd]))
                  have k1 : (dk != 1) = true := by simp; intro e; exact hkd (.inl e)
                  have k2 : (dk != 2) = true := by simp; intro e; exact hkd (.inr (.inl e))
                  have k3 : (dk != 3) = true := by simp; intro e; exact hkd (.inr (.inr e))
                  subst hfin
                  clear E7 FA hkd hid
                  go_wp2
                  go_ret
                  exact ⟨rfl, (GW.out.trans G8.out).trans GZ.out⟩
              · obtain ⟨j, hkj⟩ : ∃ j, k = j + 1 := ⟨k - 1, by omega⟩
                have HKJ := Lib.hid hkj
                obtain ⟨a7, a8, eA7, ha7, hab7, v0, -⟩ := (HD.out _ (GW.out.trans (G8.out.trans GZ.out))).dcl (k := j) (by rw [HND.out]; omega)
                have hp2 := HOR.out j _ hkj (List.getElem?_eq_getElem (by rw [HND.out]; omega))
                obtain ⟨qi, hqi⟩ : ∃ z, (p.ds[j]'(by rw [HND.out]; omega)).id = z := ⟨_, rfl⟩
                rw [hqi] at hp2 v0
                obtain rfl := Option.some.inj eA7
                have hgt : (0 : Int) < (k : Int) := by omega
                have hjj : ((k : Int) - 1) = ((j : Nat) : Int) := by omega
                have hjl : ((j : Nat) : Int) < (ND : Int) := by omega
                clear hkj hqi
                by_cases hord : qi < di
                · have hle : ¬ di ≤ qi := by omega
                  obtain rfl : od = true := by rw [hp2]; exact decide_eq_true hord
                  clear hp2 hord
                  go_upto_region 15 with (fail)
                  go_quiet (fail)
                  generalize hW8 : World.drewN W7 _ = W8
                  have G78 := Lib.hid (show Gr W7 W8 from by rw [← hW8]; exact gr_drewN _ _)
                  clear hW8 x0 x1 x2 i0 i1 i2
                  obtain ⟨x0, x1, x2⟩ := HX.out _ (G8.out.trans (GZ.out.trans G78.out))
                  obtain ⟨i0, i1, i2⟩ := HI.out _ G78.out
                  have GZ := Lib.hid (GZ.out.trans G78.out)
                  by_cases hkd : dk = 1 ∨ dk = 2 ∨ dk = 3
                  · have FA2 := Lib.hid (show plainB p.bs db = false → fe8 ED = 2 from fun h => FA.out.1 2 (by simp) (by rw [if_neg hid, if_neg (by simp), if_neg (fun h => h hkd), if_pos h]))
                    have FA0 := Lib.hid (show plainB p.bs db = true → fe8 (ED.take (k + 1)) = 0 from fun h => FA.out.2 (by rw [if_neg hid, if_neg (by simp), if_neg (fun h => h hkd), if_neg (by rw [h]; simp)]))
                    clear FA
                    rcases hkd with rfl | rfl | rfl
                    · go_upto_region 19 with (fail)
                      by_cases hb0 : db < 0
                      · have hfin : r = 2 := E7.out.trans (FA2.out (plainB_neg hb0))
                        subst hfin
                        clear E7 FA2
                        go_wp2
                        go_ret
                        exact ⟨rfl, (GW.out.trans G8.out).trans GZ.out⟩
                      · obtain ⟨M, rfl⟩ : ∃ M : Nat, db = M := ⟨db.toNat, by omega⟩
                        by_cases hbN : M < NB
                        · obtain ⟨a5, a6, eA5, ha5, hab5, z0, z1, -⟩ := (HB.out _ ((GW.out.trans G8.out).trans GZ.out)).blk (k := M) (by rw [HNB.out]; exact hbN)
                          obtain rfl := eA5
                          have EPL := Lib.hid (plainB_at (bs := p.bs) (M := M) (by rw [HNB.out]; exact hbN))
                          obtain ⟨cp, hcp⟩ : ∃ z, (p.bs[M]'(by rw [HNB.out]; exact hbN)).cap = z := ⟨_, rfl⟩
                          obtain ⟨pr, hpr⟩ : ∃ z, (p.bs[M]'(by rw [HNB.out]; exact hbN)).param = z := ⟨_, rfl⟩
                          rw [hcp] at z0 EPL
                          rw [hpr] at z1 EPL
                          have hMN : (M : Int) < (NB : Int) := by omega
                          clear hcp hpr hb0
                          by_cases hc0 : cp = 0
                          · subst hc0
                            cases pr with
                            | true =>
                              have hfin : r = 2 := E7.out.trans (FA2.out (by rw [EPL.out]; rfl))
                              subst hfin
                              clear E7 FA2 EPL
                              go_wp2
                              go_ret
                              exact ⟨rfl, (GW.out.trans G8.out).trans GZ.out⟩
                            | false =>
                              have hok := FA0.out (by rw [EPL.out]; rfl)
                              have HOK := Lib.hid hok
                              clear hok E7 FA2 EPL FA0
                              go_wp2
                              exact ⟨⟨k + 1, hlt, by simp, Lib.hid ⟨GZ.out, HOK.out⟩⟩, by simp [intOf]; omega⟩
                          · have hcb : (cp != 0) = true := by simpa using hc0
                            have hfin : r = 2 := E7.out.trans (FA2.out (by rw [EPL.out]; simp [hc0]))
                            subst hfin
                            clear hc0 E7 FA2 EPL
                            go_wp2
                            go_ret
                            exact ⟨rfl, (GW.out.trans G8.out).trans GZ.out⟩
                        · have hfin : r = 2 := E7.out.trans (FA2.out (plainB_big (by rw [HNB.out]; omega)))
                          have hMN : ¬ (M : Int) < (NB : Int) := by omega
                          subst hfin
                          clear E7 FA2
                          go_wp2
                          go_ret
                          exact ⟨rfl, (GW.out.trans G8.out).trans GZ.out⟩
                    · go_upto_region 19 with (fail)
                      by_cases hb0 : db < 0
                      · have hfin : r = 2 := E7.out.trans (FA2.out (plainB_neg hb0))
                        subst hfin
                        clear E7 FA2
                        go_wp2
                        go_ret
                        exact ⟨rfl, (GW.out.trans G8.out).trans GZ.out⟩
                      · obtain ⟨M, rfl⟩ : ∃ M : Nat, db = M := ⟨db.toNat, by omega⟩
                        by_cases hbN : M < NB
                        · obtain ⟨a5, a6, eA5, ha5, hab5, z0, z1, -⟩ := (HB.out _ ((GW.out.trans G8.out).trans GZ.out)).blk (k := M) (by rw [HNB.out]; exact hbN)
                          obtain rfl := eA5
                          have EPL := Lib.hid (plainB_at (bs := p.bs) (M := M) (by rw [HNB.out]; exact hbN))
                          obtain ⟨cp, hcp⟩ : ∃ z, (p.bs[M]'(by rw [HNB.out]; exact hbN)).cap = z := ⟨_, rfl⟩
                          obtain ⟨pr, hpr⟩ : ∃ z, (p.bs[M]'(by rw [HNB.out]; exact hbN)).param = z := ⟨_, rfl⟩
                          rw [hcp] at z0 EPL
                          rw [hpr] at z1 EPL
                          have hMN : (M : Int) < (NB : Int) := by omega
                          clear hcp hpr hb0
                          by_cases hc0 : cp = 0
                          · subst hc0
                            cases pr with
                            | true =>
                              have hfin : r = 2 := E7.out.trans (FA2.out (by rw [EPL.out]; rfl))
                              subst hfin
                              clear E7 FA2 EPL
                              go_wp2
                              go_ret
                              exact ⟨rfl, (GW.out.trans G8.out).trans GZ.out⟩
                            | false =>
                              have hok := FA0.out (by rw [EPL.out]; rfl)
                              have HOK := Lib.hid hok
                              clear hok E7 FA2 EPL FA0
                              go_wp2
                              exact ⟨⟨k + 1, hlt, by simp, Lib.hid ⟨GZ.out, HOK.out⟩⟩, by simp [intOf]; omega⟩
                          · have hcb : (cp != 0) = true := by simpa using hc0
                            have hfin : r = 2 := E7.out.trans (FA2.out (by rw [EPL.out]; simp [hc0]))
                            subst hfin
                            clear hc0 E7 FA2 EPL
                            go_wp2
                            go_ret
                            exact ⟨rfl, (GW.out.trans G8.out).trans GZ.out⟩
                        · have hfin : r = 2 := E7.out.trans (FA2.out (plainB_big (by rw [HNB.out]; omega)))
                          have hMN : ¬ (M : Int) < (NB : Int) := by omega
                          subst hfin
                          clear E7 FA2
                          go_wp2
                          go_ret
                          exact ⟨rfl, (GW.out.trans G8.out).trans GZ.out⟩
                    · go_upto_region 19 with (fail)
                      by_cases hb0 : db < 0
                      · have hfin : r = 2 := E7.out.trans (FA2.out (plainB_neg hb0))
                        subst hfin
                        clear E7 FA2
                        go_wp2
                        go_ret
                        exact ⟨rfl, (GW.out.trans G8.out).trans GZ.out⟩
                      · obtain ⟨M, rfl⟩ : ∃ M : Nat, db = M := ⟨db.toNat, by omega⟩
                        by_cases hbN : M < NB
                        · obtain ⟨a5, a6, eA5, ha5, hab5, z0, z1, -⟩ := (HB.out _ ((GW.out.trans G8.out).trans GZ.out)).blk (k := M) (by rw [HNB.out]; exact hbN)
                          obtain rfl := eA5
                          have EPL := Lib.hid (plainB_at (bs := p.bs) (M := M) (by rw [HNB.out]; exact hbN))
                          obtain ⟨cp, hcp⟩ : ∃ z, (p.bs[M]'(by rw [HNB.out]; exact hbN)).cap = z := ⟨_, rfl⟩
                          obtain ⟨pr, hpr⟩ : ∃ z, (p.bs[M]'(by rw [HNB.out]; exact hbN)).param = z := ⟨_, rfl⟩
                          rw [hcp] at z0 EPL
                          rw [hpr] at z1 EPL
                          have hMN : (M : Int) < (NB : Int) := by omega
                          clear hcp hpr hb0
                          by_cases hc0 : cp = 0
                          · subst hc0
                            cases pr with
                            | true =>
                              have hfin : r = 2 := E7.out.trans (FA2.out (by rw [EPL.out]; rfl))
                              subst hfin
                              clear E7 FA2 EPL
                              go_wp2
                              go_ret
                              exact ⟨rfl, (GW.out.trans G8.out).trans GZ.out⟩
                            | false =>
                              have hok := FA0.out (by rw [EPL.out]; rfl)
                              have HOK := Lib.hid hok
                              clear hok E7 FA2 EPL FA0
                              go_wp2
                              exact ⟨⟨k + 1, hlt, by simp, Lib.hid ⟨GZ.out, HOK.out⟩⟩, by simp [intOf]; omega⟩
                          · have hcb : (cp != 0) = true := by simpa using hc0
                            have hfin : r = 2 := E7.out.trans (FA2.out (by rw [EPL.out]; simp [hc0]))
                            subst hfin
                            clear hc0 E7 FA2 EPL
                            go_wp2
                            go_ret
                            exact ⟨rfl, (GW.out.trans G8.out).trans GZ.out⟩
                        · have hfin : r = 2 := E7.out.trans (FA2.out (plainB_big (by rw [HNB.out]; omega)))
                          have hMN : ¬ (M : Int) < (NB : Int) := by omega
                          subst hfin
                          clear E7 FA2
                          go_wp2
                          go_ret
                          exact ⟨rfl, (GW.out.trans G8.out).trans GZ.out⟩
                  · have hfin : r = 9 := E7.out.trans (FA.out.1 9 (by simp) (by rw [if_neg hid, if_neg (by simp), if_pos hkd]))
                    have k1 : (dk != 1) = true := by simp; intro e; exact hkd (.inl e)
                    have k2 : (dk != 2) = true := by simp; intro e; exact hkd (.inr (.inl e))
                    have k3 : (dk != 3) = true := by simp; intro e; exact hkd (.inr (.inr e))
                    subst hfin
                    clear E7 FA hkd hid
                    go_wp2
                    go_ret
                    exact ⟨rfl, (GW.out.trans G8.out).trans GZ.out⟩
                · obtain rfl : od = false := by rw [hp2]; exact decide_eq_false hord
                  clear hp2
                  have hfin : r = 10 := E7.out.trans (FA.out.1 10 (by simp) (by rw [if_neg hid, if_pos rfl]))
                  have hle : di ≤ qi := by omega
                  subst hfin
                  clear E7 FA hid
                  go_upto_region 15 with (fail)
                  go_quiet (fail)
                  go_wp2
                  go_ret
                  exact ⟨rfl, ((GW.out.trans G8.out).trans GZ.out).trans (gr_drewN _ _)⟩
          · obtain rfl : ND = k := by omega
            have h0 := FE.out
            rw [List.take_of_length_le (by rw [EDL.out]; exact Nat.le_refl _), ← E7.out] at h0
            subst h0
            go_wp2
            go_ret
            exact ⟨rfl, GW.out.trans (G8.out.trans GK.out)⟩
end Go.Proofs.YtgboboljgcfggaaGreatDoor
namespace Go.Proofs.YtgboboljgcfggaaGreatDoor
open Go.RowKit
end Go.Proofs.YtgboboljgcfggaaGreatDoor

/- Walks: the reference's match (71). -/
import Derived.Test.YtjlmhfdigoogfaaInA
namespace Go.Proofs.Ytjlmhfdigoogfaa
open Go.RowKit

theorem fas_idx (k : Int) : ∀ l : FA, fas k l = (fidx k l).bind fun i => (l[i]?).map (·.2)
  | [] => rfl
  | p :: l => by
    have ih := fas_idx k l
    unfold fas at ih ⊢
    simp only [fidx, List.find?_cons]
    by_cases h : p.1 = k
    · simp [h]
    · simp only [h, decide_false, if_false, ih]
      cases fidx k l <;> simp
theorem run_app0 {α : Type} {cs : α → List Value} {w : World} {base : Nat} {v : Value} {L : List α} (ty : TypeId) (c : Nat) (h : OR 43 4 cs w base v L) : (Builtin.append_ #[27, 27] ty #[v, .slice none 0 c]).run Try.prog w = .ok v w := by
  obtain ⟨i0, hi, hz0, hz1, hz2⟩ := info_parts info43
  rcases h.2 with ⟨rfl, hl⟩ | ⟨g, cap, cur, rfl, hg, hh, hn, -⟩
  · simp [Builtin.append_, run_underlying Try.underlying27, Go.sizeOf, typeInfo, hi, Builtin.lenOf, Builtin.firstCells]
  · simp [Builtin.append_, run_underlying Try.underlying27, Go.sizeOf, typeInfo, hi, Builtin.lenOf, Builtin.firstCells, hn, storeCells]
theorem run_appA {w : World} {base : Nat} {v : Value} {L : List As} (ty : TypeId) (hown : OR 43 4 As.cs w base v L) {A : Option Addr} {M : List As} (c : Nat) (hr : RD 4 As.cs w A M) (hsz : L.length + M.length ≤ 1000000) (hb : base ≤ w.heap.size) :
    ∃ v' w', (Builtin.append_ #[27, 27] ty #[v, .slice A M.length c]).run Try.prog w = .ok v' w' ∧ OR 43 4 As.cs w' base v' (L ++ M) ∧ w.grownBy w' v.ownBlock ∧ (v'.ownBlock = v.ownBlock ∨ v'.ownBlock = some w.heap.size) := by
  by_cases hA : A = none
  · subst hA
    have hM : M = [] := by
      rcases hr with h | ⟨a, e, _⟩
      · exact h
      · cases e
    subst hM
    exact ⟨v, w, run_app0 ty c hown, by simpa using hown, World.grownBy.but (gr_refl _) _, .inl rfl⟩
  · exact run_appR 27 ty As.cs_len As.cell1 Try.underlying27 info43 rfl (by decide) (by decide) hown c hr hA hsz hb
theorem step_appA {ops : Array Oper} {o : Oper} {a : Act} {w : World} {K : Act → World → Prop} {Q : Exit → Act → World → Prop} {E : Prop} (hgd : o.guard = none) (s x : Operand)
    (ho : o.op = .call { callee := .builtin .append, args := #[s, x], argTypes := #[27, 27] }) (base : Nat) {v : Value} {L : List As} (hs : a.eval s = v) (hown : OR 43 4 As.cs w base v L)
    {A : Option Addr} {M : List As} {m c : Nat} (hm : M.length = m) (hx : a.eval x = .slice A m c) (hr : RD 4 As.cs w A M) (hsz : L.length + M.length ≤ 1000000) (hb : base ≤ w.heap.size)
    (h : ∀ v' w', OR 43 4 As.cs w' base v' (L ++ M) → w.grownBy w' v.ownBlock → (v'.ownBlock = v.ownBlock ∨ v'.ownBlock = some w.heap.size) → K (a.put o.dst v') w') : if Region.wanted o (yielded ops a.tmps) = true then Oper.wp Try.prog o a w K Q else E := by
  have hw : Region.wanted o (yielded ops a.tmps) = true := by simp [Region.wanted, hgd]
  rw [if_pos hw]
  subst hm
  obtain ⟨v', w', hrun, h2, h3, h4⟩ := run_appA o.type hown c hr hsz hb
  unfold Oper.wp
  simp [execOp, ho, resolve, invoke, builtin, hs, hx, hrun, Result.andThen]
  exact h v' w' h2 h3 h4
theorem or_made {V : World} {b base : Nat} (h : V.heap[b]? = some (.cells #[] 43 (0, 0))) (hb : base ≤ b) : OR 43 4 As.cs V base (.slice (some ⟨b, 0, none⟩) 0 0) ([] : List As) :=
  ⟨by simp, .inr ⟨b, 0, #[], rfl, hb, h, Nat.le_refl _, by unfold maxLen; omega, by simp, by simp⟩⟩
theorem lz1 {w : World} {B : Nat} {o : Obj} (h : w.heap.size = B) : ((w.alloc o).drew).heap[B]? = some o := by subst h; exact al_new w o
theorem lz2 {w : World} {B : Nat} {o p : Obj} (h : w.heap.size = B) : (((w.alloc o).alloc p).drew).heap[B]? = some o := by subst h; exact gr_h ((gr_al _ _).trans (gr_drew _)) (al_new w o)
theorem lz3 {w : World} {B : Nat} {o p : Obj} (h : w.heap.size = B) : (((w.alloc p).alloc o).drew).heap[B + 1]? = some o := by subst h; exact al_at _ _ (by simp)
/-- Every node has the parts of its kind. -/
inductive WSh : PT → Prop
  | mk (t : PT) : t.sub.length = prt t.kind → (∀ x ∈ t.sub, WSh x) → WSh t
theorem WSh.ok {t : PT} (h : WSh t) : t.sub.length = prt t.kind ∧ ∀ x ∈ t.sub, WSh x := by cases h with | mk _ h1 h2 => exact ⟨h1, h2⟩
theorem wsh_of {t : PT} (h : cke t = 0) : WSh t := by
  induction t using PT.ind with
  | h k v s ih => exact .mk _ (cke_ok h).1.n fun x hx => ih x hx ((cke_ok h).2 x hx)
theorem wsh_ren (f : Int → Int) {t : PT} (h : cke t = 0) : WSh (t.rep fun n => vr (f n)) := by
  induction t using PT.ind with
  | h k v s ih =>
    rw [PT.rep, reps_map]
    by_cases hk : k = 5
    · rw [if_pos hk]
      exact .mk _ rfl (by simp [vr, PT.sub])
    · rw [if_neg hk]
      refine .mk _ (by simpa [PT.sub, PT.kind] using (cke_ok h).1.n) fun x hx => ?_
      obtain ⟨y, hy, rfl⟩ := List.mem_map.1 hx
      exact ih y hy ((cke_ok h).2 y hy)
/-- What the reference's match answers. -/
def RMt (w : World) (r : Option FA) (n : Nat) (e : Ending) (w' : World) : Prop := Gr w w' ∧ match r with
  | some fd => ∃ A L c, e = .returned (.tuple #[.slice A (List.length L) c, .bool true]) ∧ ARd w' A L ∧ L.map As.er = fd ∧ L.length ≤ n
  | none => ∃ v, e = .returned (.tuple #[v, .bool false])
theorem rm_put {w V : World} {B n : Nat} {v : Value} {L : List As} {a : As} {U : Int} {t : PT} (g : Gr w V) (o : OR 43 4 As.cs V B v ([] ++ L ++ [a])) (hL : ∀ x ∈ L, x.ty.Rd V) (ha : a.ty.Rd V) (he : a.er = (U, t)) (hn : L.length + 1 ≤ n) : RMt w (some (L.map As.er ++ [(U, t)])) n (.returned (.tuple #[v, .bool true])) V := by
  rw [List.nil_append] at o
  obtain ⟨A, c, rfl, hr⟩ := o.form As.cs_len
  refine ⟨g, A, L ++ [a], c, rfl, ⟨hr, fun x hx => ?_⟩, by simp [he], by simpa using hn⟩
  rcases List.mem_append.1 hx with h | h
  · exact hL x h
  · rw [List.mem_singleton.1 h]; exact ha
set_option maxRecDepth 100000 in
set_option maxHeartbeats 4000000 in
theorem rmatch_any (x : Ty) : ∀ (m : Int) (y : Ty) (A : Option Addr) (c : Nat) (L : List As) (w : World), x.Rd w → y.Rd w → cke x.er = 0 → WSh y.er → 0 ≤ m ∧ m ≤ 200 → ARd w A L → L.length + x.er.size ≤ 1000 → Calls Try.prog 71 #[iv m, .slice A L.length c, x.v, y.v] w (RMt w (mt m x.er y.er (L.map As.er)) (L.length + x.er.size)) := by
  induction x using Ty.ind with
  | h x ih =>
    intro m y A c L w hx hy hcx hcy hm hL hsz
    have IH := Lib.hid ih
    have HX := Lib.hid (fun V (g : Gr w V) => TRd.gr hx g)
    have HY := Lib.hid (fun V (g : Gr w V) => TRd.gr hy g)
    have HL := Lib.hid (fun V (g : Gr w V) => hL.gr g)
    have VX := Lib.hid (cke_ok hcx)
    have VY := Lib.hid hcy.ok
    have HSZ := Lib.hid hsz
    have BX := Lib.hid (BB.of x.kind x.var (.slice x.A x.sub.length x.c) y.kind y.var (.slice y.A y.sub.length y.c) w)
    have MT := Lib.hid (mt_eq m x.er y.er (L.map As.er))
    have hlen : x.sub.length ≤ 9223372036854775807 := Nat.le_trans hx.hc hx.hm
    have xr := VX.out.1.r
    have yn := VY.out.1
    have xn := VX.out.1.n
    rw [er_kind, er_var, er_sub, er_kind, er_sub, ers_length, ers_length] at MT
    rw [er_var] at xr
    rw [er_kind, er_sub, ers_length] at xn yn
    clear hx hy hcx hcy ih
    unfold Ty.v
    have EX := Lib.hid (er_eq x)
    have EY := Lib.hid (er_eq y)
    obtain ⟨K, hK⟩ : ∃ K, x.kind = K := ⟨_, rfl⟩
    obtain ⟨U, hU⟩ : ∃ U, x.var = U := ⟨_, rfl⟩
    obtain ⟨K', hK'⟩ : ∃ K, y.kind = K := ⟨_, rfl⟩
    obtain ⟨U', hU'⟩ : ∃ U, y.var = U := ⟨_, rfl⟩
    rw [hK, hU, hK', hU'] at BX ⊢
    rw [hK, hU, hK'] at MT
    rw [hK, hU] at EX
    rw [hK', hU'] at EY
    rw [hK] at xn
    rw [hK'] at yn
    rw [hU] at xr
    have HKY := Lib.hid hK'
    have HUY := Lib.hid hU'
    clear hK hU hK' hU'
    have XN := Lib.hid xn
    have YN := Lib.hid yn
    clear xn yn hsz
    obtain ⟨b0, b1, b2⟩ := BX.out.c
    obtain ⟨c0, c1, c2⟩ := BX.out.c'
    by_cases h5 : K = 5
    · subst h5
      rw [if_pos rfl] at MT
      by_cases hmU : m ≤ U
      · rw [if_pos hmU] at MT
        have hw : IntKind.i64.wrap (U - m) = U - m := IntWalk.i64_in _ (by omega)
        have hw2 : wr64 (U - m) = U - m := hw
        rw [hw2] at MT
        clear hw2
        have MT2 := Lib.hid (show mt m x.er y.er (L.map As.er) = if K' = 5 ∧ U' = U - m then some (L.map As.er) else none from by
          rw [MT.out]
          by_cases h : K' = 5 ∧ U' = U - m
          · rw [if_pos h, if_pos]
            rw [seq_iff, EY.out, h.1, h.2]
            have : y.sub = [] := List.eq_nil_of_length_eq_zero (by rw [YN.out, h.1]; rfl)
            rw [this]
            rfl
          · rw [if_neg h, if_neg]
            rw [seq_iff, EY.out]
            intro h2
            injection h2 with h3 h4 h5
            exact h ⟨h3, h4⟩)
        clear MT
        go_enter Try.func71, Try.ntmps71
        go_upto_region 2 with (fail)
        by_cases hk5 : K' = 5
        · subst hk5
          by_cases hu : U' = U - m
          · have hb : (U' == U - m) = true := by simpa using hu
            have HU := Lib.hid hu
            clear hu
            go_quiet (fail)
            go_wp2
            go_ret2
            rw [MT2.out, if_pos ⟨by simp, HU.out⟩]
            exact ⟨BX.out.gr.trans (gr_drewN _ _), A, L, c, rfl, HL.out _ (BX.out.gr.trans (gr_drewN _ _)), rfl, by omega⟩
          · have hb : (U' == U - m) = false := by simpa using hu
            have HU := Lib.hid hu
            clear hu
            go_quiet (fail)
            go_wp2
            go_ret2
            rw [MT2.out, if_neg (fun h => HU.out h.2)]
            exact ⟨BX.out.gr.trans (gr_drewN _ _), _, rfl⟩
        · have hb : (K' == 5) = false := by simpa using hk5
          go_quiet (fail)
          go_wp2
          go_ret2
          rw [MT2.out, if_neg (fun h => hk5 h.1)]
          exact ⟨BX.out.gr.trans (gr_drewN _ _), _, rfl⟩
      · rw [if_neg hmU, fas_idx] at MT
        have F86 := Lib.hid (fun V (g : Gr w V) => find86 A c L U V (HL.out V g) (by have := HSZ.out; omega))
        unfold fii at F86
        cases hf : fidx U (L.map As.er) with
        | some i =>
          rw [hf] at MT F86
          obtain ⟨p, hp, hpu⟩ := fidx_at hf
          rw [List.getElem?_map] at hp
          obtain ⟨o, ho, rfl⟩ := Option.map_eq_some_iff.1 hp
          have MT2 := Lib.hid (show mt m x.er y.er (L.map As.er) = if o.ty.er.seq y.er = true then some (L.map As.er) else none from by
            rw [MT.out]
            simp [ho, As.er])
          have C25 := Lib.hid (fun V (g : Gr w V) => same_any o.ty y V (TRd.gr ((HL.out w (gr_refl _)).ty o (List.mem_of_getElem? ho)) g) (HY.out V g))
          obtain ⟨r, hr⟩ : ∃ r, o.ty.er.seq y.er = r := ⟨_, rfl⟩
          rw [hr] at MT2
          simp only [hr] at C25
          unfold Ty.v at C25
          simp only [HKY.out, HUY.out] at C25
          obtain ⟨hi, a, a1, rfl, ha1, hb1, q0, q1, q2, q3, -⟩ := asr_at (HL.out _ BX.out.gr) ho
          have Q := Lib.hid (And.intro q1 (And.intro q2 q3))
          clear MT hf hpu hp ho hr q0 q1 q2 q3 b0 b1 b2 c0 c1 c2
          obtain ⟨b0, b1, b2⟩ := BX.out.c
          obtain ⟨c0, c1, c2⟩ := BX.out.c'
          go_enter Try.func71, Try.ntmps71
          go_upto_region 6 with (first | (go_at_call 86; (with_reducible refine (F86.out _ BX.out.gr).mono ?_); rintro e w5 ⟨rfl, rfl⟩))
          generalize hW0 : World.alloc (World.alloc w _) _ = W0 at *
          clear hW0 b0 b1 b2 c0 c1 c2
          obtain ⟨b0, b1, b2⟩ := BX.out.c
          obtain ⟨c0, c1, c2⟩ := BX.out.c'
          obtain ⟨q1, q2, q3⟩ := Q.out
          go_region_law (first | (go_simp; go_at_call 25; (with_reducible refine (C25.out _ (BX.out.gr.trans (gr_drew _))).mono ?_); rintro e w6 ⟨rfl, g6⟩; have G6 := Lib.hid ((BX.out.gr.trans (gr_drew _)).trans g6); clear g6))
          all_goals go_wp2
          all_goals go_ret2
          all_goals rw [MT2.out]
          all_goals cases r
          all_goals first | exact ⟨G6.out, some a, L, c, rfl, HL.out _ G6.out, rfl, by omega⟩ | exact ⟨G6.out, _, rfl⟩
        | none =>
          rw [hf] at MT F86
          have MT2 := Lib.hid (show mt m x.er y.er (L.map As.er) = some (L.map As.er ++ [(U, y.er)]) from MT.out)
          clear MT hf b0 b1 b2 c0 c1 c2
          obtain ⟨b0, b1, b2⟩ := BX.out.c
          obtain ⟨c0, c1, c2⟩ := BX.out.c'
          go_enter Try.func71, Try.ntmps71
          go_upto_region 7 with (first | (go_at_call 86; (with_reducible refine (F86.out _ BX.out.gr).mono ?_); rintro e w5 ⟨rfl, rfl⟩))
          generalize hW0 : World.alloc (World.alloc w _) _ = W0 at *
          clear hW0 b0 b1 b2 c0 c1 c2
          obtain ⟨b0, b1, b2⟩ := BX.out.c
          obtain ⟨c0, c1, c2⟩ := BX.out.c'
          have HA := Lib.hid (fun V (g : Gr W0 V) => (HL.out V (BX.out.gr.trans g)).rd)
          have HLN := Lib.hid (show L.length ≤ 1000 from by have := HSZ.out; omega)
          obtain ⟨B, hB⟩ : ∃ B, W0.heap.size = B := ⟨_, rfl⟩
          have GW := Lib.hid BX.out.gr
          have HS0 := Lib.hid (show w.heap.size ≤ B from by rw [← hB]; exact BX.out.gr.size)
          have HNL := Lib.hid (show L.length + 1 ≤ L.length + x.er.size from by have := size_pos x.er; omega)
          obtain ⟨i0, i1, i2⟩ := (BX.out.grow (gr_al W0 (.cells #[] 43))).c
          obtain ⟨j0, j1, j2⟩ := (BX.out.grow (gr_al W0 (.cells #[] 43))).c'
          go_region_law (first
            | (refine step_appA rfl (.tmp 53) (.tmp 54) rfl B (v := .slice (some ⟨_, 0, none⟩) 0 0) (L := []) rfl (or_made (by first | exact lz1 hB | exact lz2 hB | exact lz3 hB) (by omega)) (A := A) (M := L) (m := L.length) (c := c) rfl rfl (HA.out _ (by first | exact (gr_al _ _).trans (gr_drew _) | exact ((gr_al _ _).trans (gr_al _ _)).trans (gr_drew _))) (by have := HLN.out; simp; omega) (by first | omega | (simp; omega)) ?_
               intro v7 w7 o7 g7 h7
               have O7 := Lib.hid o7
               have G7 := Lib.hid (show Gr W0 w7 from gr_own (by first | exact (gr_al _ _).trans (gr_drew _) | exact ((gr_al _ _).trans (gr_al _ _)).trans (gr_drew _)) (by dsimp only; omega) g7)
               have GG := Lib.hid g7
               obtain ⟨e0, e1, e2⟩ := (BX.out.grow G7.out).c
               obtain ⟨f0, f1, f2⟩ := (BX.out.grow G7.out).c'
               clear o7 g7 h7)
            | (refine step_appA rfl (.tmp 55) (.tmp 60) rfl B (v := _) (L := [] ++ L) rfl (by first | exact O7.out | exact O7.out.alloc _) (A := some ⟨_, 0, none⟩) (M := [⟨U, .mk K' U' y.A y.c y.sub⟩]) (m := 1) (c := 1) rfl rfl (rd_cells (t := 43) As.cs_len (by first | exact al_new _ _ | exact (GG.out.block _ (by simp; omega) (fun h => by have h2 := Option.some.inj h; dsimp only at h2; omega)).trans (lz2 hB) | exact (GG.out.block _ (by simp; omega) (fun h => by have h2 := Option.some.inj h; dsimp only at h2; omega)).trans (lz3 hB))) (by have := HLN.out; simp; omega) (by have := G7.out.size; first | omega | (simp; omega)) ?_
               intro v8 w8 o8 g8 h8
               have O8 := Lib.hid o8
               have G8 := Lib.hid (show Gr W0 w8 from OR.grow (by first | exact G7.out | exact G7.out.trans (gr_al _ _)) (by first | exact O7.out | exact O7.out.alloc _) (by omega) g8)
               clear o8 g8 h8))
          all_goals go_wp2
          all_goals go_ret2
          all_goals rw [MT2.out]
          all_goals exact rm_put (GW.out.trans G8.out) O8.out (HL.out _ (GW.out.trans G8.out)).ty (HY.out _ (GW.out.trans G8.out)) (by show (U, _) = _; rw [EY.out]; rfl) HNL.out
    · rw [if_neg h5] at MT
      have hb5 : (K == 5) = false := by simpa using h5
      by_cases hk : K = K'
      · subst hk
        have MT2 := Lib.hid (show mt m x.er y.er (L.map As.er) = mts m (ers x.sub) (ers y.sub) (L.map As.er) from by rw [MT.out, if_pos ⟨rfl, XN.out.trans YN.out.symm⟩])
        have NX := Lib.hid (rfl : x.sub.length = x.sub.length)
        have NY := Lib.hid (show y.sub.length = x.sub.length from YN.out.trans XN.out.symm)
        have SX := Lib.hid (size_eq x.er)
        rw [er_sub] at SX
        rw [NY.out] at BX ⊢
        clear b0 b1 b2 c0 c1 c2 MT
        obtain ⟨N, hN⟩ : ∃ N, x.sub.length = N := ⟨_, rfl⟩
        rw [hN] at BX NX NY hlen ⊢
        have HN := Lib.hid hN
        clear hN
        obtain ⟨b0, b1, b2⟩ := BX.out.c
        obtain ⟨c0, c1, c2⟩ := BX.out.c'
        go_enter Try.func71, Try.ntmps71
        go_wp2
        go_loopw [1, 11] (fun v i V => ∃ k : Nat, k ≤ N ∧ i = .int .i64 k ∧ ∃ (A' : Option Addr) (c' n' : Nat), v = .slice A' n' c' ∧ Hid (∃ L' : List As, L'.length = n' ∧ BB K U (.slice x.A N x.c) K U' (.slice y.A N y.c) w V ∧ ARd V A' L' ∧ mts m ((ers x.sub).take k) ((ers y.sub).take k) (L.map As.er) = some (L'.map As.er) ∧ L'.length ≤ L.length + psz ((ers x.sub).take k))) (fun _ i _ => N - (intOf i).toNat)
        case atStart => exact ⟨0, Nat.zero_le _, rfl, A, c, _, rfl, Lib.hid ⟨L, rfl, BX.out, HL.out _ BX.out.gr, by simp [mts], by simp⟩⟩
        case round =>
          clear BX b0 b1 b2 c0 c1 c2
          obtain ⟨k, hk, rfl, A', c', n', rfl, HG⟩ := hrel
          obtain ⟨R6, rfl⟩ : ∃ W, W = wr := ⟨_, rfl⟩
          obtain ⟨L', hn', hbb, hard, hmts, hl'⟩ := HG.out
          have HB := Lib.hid hbb
          have HMT := Lib.hid hmts
          have HLL := Lib.hid hl'
          have HN' := Lib.hid hn'
          obtain ⟨b0, b1, b2⟩ := hbb.c
          obtain ⟨c0, c1, c2⟩ := hbb.c'
          by_cases hlt : k < N
          · have h1 : k < x.sub.length := by rw [HN.out]; exact hlt
            have h2 : k < y.sub.length := by rw [NY.out]; exact hlt
            obtain ⟨a, a1, hA, ha, hab, d0, d1, d2, hsub⟩ := (HX.out _ hbb.gr).at h1
            obtain ⟨b, e1, hB, hb, hbb2, f0, f1, f2, hsub'⟩ := (HY.out _ hbb.gr).at h2
            have g1 : k < (ers x.sub).length := by simpa using h1
            have g2 : k < (ers y.sub).length := by simpa using h2
            have S1 := mts_succ (m := m) (fd := L.map As.er) g1 g2
            have S2 := psz_take_succ g1
            have S3 := psz_mem (List.getElem_mem g1)
            have e4 : (ers x.sub)[k] = x.sub[k].er := by simp [ers_map]
            have e5 : (ers y.sub)[k] = y.sub[k].er := by simp [ers_map]
            have S4 : psz ((ers x.sub).take (k + 1)) ≤ psz (ers x.sub) := by
              have h := congrArg psz (List.take_append_drop (k + 1) (ers x.sub))
              rw [psz_append] at h
              omega
            rw [hmts, Option.bind_some, e4, e5] at S1
            rw [e4] at S2 S3
            have IM := List.getElem_mem h1
            have IM2 := List.getElem_mem h2
            have V1 := VX.out.2 _ (by rw [er_sub, ers_map]; exact List.mem_map.2 ⟨_, IM, rfl⟩)
            have V2 := VY.out.2 _ (by rw [er_sub, ers_map]; exact List.mem_map.2 ⟨_, IM2, rfl⟩)
            generalize x.sub[k] = p at *
            generalize y.sub[k] = q at *
            have HS1 := Lib.hid S1
            have HS2 := Lib.hid S2
            have CL := Lib.hid (fun V (g : Gr R6 V) => IH.out p IM m q A' c' L' V (hsub.gr g) (hsub'.gr g) V1 V2 hm (hard.gr g) (by have := HSZ.out; have := SX.out; omega))
            have HS4 := Lib.hid S4
            rw [hA] at b2
            rw [hB] at c2
            unfold Ty.v at CL
            rw [hn'] at CL
            clear hA hB hsub hsub' IM IM2 h1 h2 g1 g2 e4 e5 S1 S2 S3 S4 V1 V2 hbb hard hmts hl' hn' HG
            obtain ⟨r, hr⟩ : ∃ r, mt m p.er q.er (L'.map As.er) = r := ⟨_, rfl⟩
            rw [hr] at CL HS1
            clear hr
            cases r with
            | some fd' =>
              go_upto_region 13 with (fail)
              go_region_law (first | (go_simp; go_at_call 71; (with_reducible refine (CL.out _ (gr_drew _)).mono ?_); rintro e w6 ⟨g6, A2, L2, cc2, rfl, hA2, he2, hl2⟩; have G6 := Lib.hid ((gr_drew _).trans g6); have T6 := Lib.hid (And.intro hA2 (And.intro he2 hl2)); clear g6 hA2 he2 hl2))
              all_goals go_wp2
              all_goals exact ⟨⟨k + 1, hlt, by simp, A2, cc2, _, rfl, Lib.hid ⟨L2, rfl, HB.out.grow G6.out, T6.out.1, by rw [HS1.out, T6.out.2.1], by have := T6.out.2.2; have := HLL.out; have := HN'.out; have := HS2.out; omega⟩⟩, by simp [intOf]; omega⟩
            | none =>
              have HNO := Lib.hid (mts_stop (by simp [NY.out, HN.out]) HS1.out)
              go_upto_region 13 with (fail)
              go_region_law (first | (go_simp; go_at_call 71; (with_reducible refine (CL.out _ (gr_drew _)).mono ?_); rintro e w6 ⟨g6, vv, rfl⟩; have G6 := Lib.hid ((gr_drew _).trans g6); clear g6))
              all_goals go_wp2
              all_goals go_ret2
              all_goals rw [MT2.out, HNO.out]
              all_goals exact ⟨HB.out.gr.trans G6.out, _, rfl⟩
          · obtain rfl : N = k := by omega
            go_wp2
            go_ret2
            have h1 := HMT.out
            rw [List.take_of_length_le (by simp [HN.out]), List.take_of_length_le (by simp [NY.out])] at h1
            have h2 := HLL.out
            rw [List.take_of_length_le (by simp [HN.out])] at h2
            have := SX.out
            rw [MT2.out, h1]
            subst hn'
            exact ⟨hbb.gr, A', L', c', rfl, hard, rfl, by omega⟩
      · have hbk : (K == K') = false := by simpa using hk
        have hbk2 : (K != K') = true := by simpa using hk
        have MT2 := Lib.hid (show mt m x.er y.er (L.map As.er) = none by rw [MT.out, if_neg (fun h => hk h.1)])
        rw [MT2.out]
        go_enter Try.func71, Try.ntmps71
        go_wp2
        go_ret2
        exact ⟨BX.out.gr, _, rfl⟩
end Go.Proofs.Ytjlmhfdigoogfaa

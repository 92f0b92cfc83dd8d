/- Words for Close. -/
import Derived.Test.YtjlmhfdigoogfaaClA
namespace Go.Proofs.Ytjlmhfdigoogfaa
open Go.RowKit Go.ChangeMaps

/-- No kind is nought. -/
def KZ (t : PT) : Prop := ∀ z ∈ t.pre, z.kind ≠ 0
theorem kz_sub {t x : PT} (h : KZ t) (hx : x ∈ t.sub) : KZ x := fun z hz => h z (by rw [pre_eq]; exact List.mem_cons.2 (.inr (mem_pres.2 ⟨x, hx, hz⟩)))
theorem kz_top {t : PT} (h : KZ t) : t.kind ≠ 0 := h t (by rw [pre_eq]; simp)
theorem kz_mk {t : PT} (h : t.kind ≠ 0) (hs : ∀ x ∈ t.sub, KZ x) : KZ t := by
  intro z hz
  rw [pre_eq] at hz
  rcases List.mem_cons.1 hz with rfl | hz
  · exact h
  · obtain ⟨x, hx, hz⟩ := mem_pres.1 hz
    exact hs x hx z hz
theorem kz_good {t : PT} (h : cke t = 0) : KZ t := by
  induction t using PT.ind with
  | h k v s ih => exact kz_mk (by have := (cke_ok h).1.k; omega) fun x hx => ih x hx (good_sub h hx)
theorem kz_rep {f : Int → PT} (hf : ∀ n, KZ (f n)) {t : PT} (h : KZ t) : KZ (t.rep f) := by
  induction t using PT.ind with
  | h k v s ih =>
    rw [rep_eq]
    by_cases hk : (PT.mk k v s).kind = 5
    · rw [if_pos hk]; exact hf _
    · rw [if_neg hk]
      refine kz_mk (show (PT.mk k v s).kind ≠ 0 from kz_top h) fun x hx => ?_
      obtain ⟨y, hy, rfl⟩ := List.mem_map.1 hx
      exact ih y hy (kz_sub h hy)
theorem kz_vr (n : Int) : KZ (vr n) := kz_mk (by simp [vr, PT.kind]) (by simp [vr, PT.sub])
/-- A type with kinds does not lie in a block of noughts. -/
theorem tin_nz {w : World} {k : Nat} {c0 : Array Value} {t0 : TypeId} {fr : Nat × Nat} (hh : w.heap[k]? = some (.cells c0 t0 fr)) (hz : ∀ (i : Nat) (n : Int), c0[i]? = some (iv n) → n = 0) {A : Option Addr} {c : Nat} {L : List Ty} (h : TRd w A c L) : (∀ x ∈ L, KZ x.er) → TIn (fun j => j ≠ k) A L := by
  induction h with
  | mk hc hm h0 hr hs ih =>
    rename_i A c L
    intro hg
    refine .mk (fun a e hn => ?_) fun x hx => ih x hx fun y hy => kz_sub (hg x hx) (by rw [er_sub, ers_map]; exact List.mem_map.2 ⟨y, hy, rfl⟩)
    intro he
    obtain ⟨x, hx⟩ : ∃ x, L[0]? = some x := ⟨_, List.getElem?_eq_getElem (List.length_pos_iff.2 hn)⟩
    rcases hr with rfl | ⟨a', e', hb, hcell⟩
    · exact hn rfl
    · rw [e] at e'
      cases e'
      have h1 := hcell 0 x hx 0 (iv x.kind) rfl
      rw [show 0 * 3 + 0 = 0 from rfl, add_zero'] at h1
      unfold World.cell? at h1
      rw [he, hh] at h1
      simp only at h1
      split at h1
      · cases h1
      · have h2 := kz_top (hg x (List.mem_of_getElem? hx))
        rw [er_kind] at h2
        exact h2 (hz _ _ h1)
/-- The variables that a scheme has of its own. -/
def owns (keep : List Int) (t : PT) : List Int := (sn [] t).filter fun n => decide (n ∉ keep)
/-- What Close answers. -/
def clE (keep : List Int) (t : PT) : (Int × PT) × Int :=
  if ck t ≠ 0 then ((0, .mk 0 0 []), ck t)
  else if (sn [] t).any (fun n => decide (n ∈ keep ∧ 999999 < n + ((owns keep t).length : Int))) then ((0, .mk 0 0 []), 2)
  else (((owns keep t).length, t.rep fun n => vr (cln (owns keep t) n)), 0)
/-- A scheme and an error as a result. -/
def SEP (w : World) (R : (Int × PT) × Int) (e : Ending) (w' : World) : Prop := ∃ q : Ty, e = .returned (.tuple #[.agg #[iv R.1.1, iv q.kind, iv q.var, .slice q.A q.sub.length q.c], iv R.2]) ∧ q.Rd w' ∧ q.er = R.1.2 ∧ Gr w w'
theorem sep_bad {w V : World} {b : Nat} (n : Int) (g : Gr w V) (hb : w.heap.size ≤ b) : SEP w ((0, .mk 0 0 []), n) (.returned (.tuple #[.agg #[iv 0, iv 0, iv 0, .slice none 0 0], iv n])) ((((V.setCell ⟨b, 0, none⟩ (iv 0)).setCell ⟨b, 1, none⟩ (iv 0)).setCell ⟨b, 2, none⟩ (iv 0)).setCell ⟨b, 3, none⟩ (.slice none 0 0)) :=
  ⟨yk 0 0, rfl, TRd.nil _, yk_er 0 0, set4g g hb _ _ _ _⟩
/-- Behind the boxes. -/
structure CB (x : Ty) (w : World) (b0 b1 : Nat) (V : World) : Prop where
  gr : Gr w V
  ht : V.heap[b0]? = some (.cells #[iv x.kind, iv x.var, .slice x.A x.sub.length x.c] 24 (0, 0))
  hz : V.heap[b1]? = some (.cells #[iv 0, iv 0, iv 0, .slice none 0 0] 47 (0, 0))
  lo : w.heap.size ≤ b1
theorem CB.grow {x : Ty} {w V V' : World} {b0 b1 : Nat} (h : CB x w b0 b1 V) (g : Gr V V') : CB x w b0 b1 V' := ⟨h.gr.trans g, gr_h g h.ht, gr_h g h.hz, h.lo⟩
theorem CB.of (x : Ty) (w : World) : CB x w w.heap.size (w.heap.size + 1) ((w.alloc (.cells #[iv x.kind, iv x.var, .slice x.A x.sub.length x.c] 24)).alloc (.cells #[iv 0, iv 0, iv 0, .slice none 0 0] 47)) :=
  ⟨(gr_al _ _).trans (gr_al _ _), gr_h (gr_al _ _) (al_new _ _), al_at _ _ (by simp), by omega⟩
theorem CB.map {x : Ty} {w V U : World} {b0 b1 kb : Nat} {l : ML} (h : CB x w b0 b1 V) (hm : MP V kb l) (hk : w.heap.size ≤ kb) (g : V.grownBy U (some kb)) : CB x w b0 b1 U := by
  unfold MP at hm
  have hne : ∀ {b : Nat} {c : Array Value} {t : TypeId}, V.heap[b]? = some (.cells c t (0, 0)) → U.heap[b]? = some (.cells c t (0, 0)) := fun {b c t} hb => (g.block _ (heap_lt hb) (fun e => by cases e; rw [hb] at hm; cases hm)).trans hb
  exact ⟨gr_own h.gr hk g, hne h.ht, hne h.hz, h.lo⟩
theorem MP.map {V U : World} {kb kb' : Nat} {l : ML} (h : MP V kb l) (hne : kb ≠ kb') (g : V.grownBy U (some kb')) : MP U kb l := by
  unfold MP at *
  exact (g.block _ (heap_lt h) (fun e => hne (Option.some.inj e))).trans h
theorem cells_map {V U : World} {kb b : Nat} {l : ML} {c : Array Value} {t : TypeId} (hm : MP V kb l) (hb : V.heap[b]? = some (.cells c t (0, 0))) (g : V.grownBy U (some kb)) : U.heap[b]? = some (.cells c t (0, 0)) := by
  unfold MP at hm
  exact (g.block _ (heap_lt hb) (fun e => by cases e; rw [hb] at hm; cases hm)).trans hb
theorem nodup_sn0 (t : PT) : (sn [] t).Nodup := nodup_fold_adv t.pre [] List.nodup_nil
theorem owns_len (keep : List Int) (t : PT) : (owns keep t).length ≤ t.size := by
  have h1 := List.length_filter_le (fun n => decide (n ∉ keep)) (sn [] t)
  have h2 := sn_len [] t
  simp at h2
  unfold owns
  omega
theorem run_len_m {w : World} {b : Nat} {l : ML} (h : MP w b l) (ty : TypeId) : (Builtin.len_ #[66] ty #[.map (some b)]).run Try.prog w = .ok (.int .i64 l.length) w := by
  have h2 : (ensF 0 l).length = l.length := ensF_len l 0
  unfold MP at h
  simp [Builtin.len_, run_underlying Try.underlying66, MapKept.run_getObj_map h, goInt, Result.andThen, h2]
end Go.Proofs.Ytjlmhfdigoogfaa

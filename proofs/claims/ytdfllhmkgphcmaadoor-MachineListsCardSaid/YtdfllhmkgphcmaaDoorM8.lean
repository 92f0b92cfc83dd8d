/- The walks and the words of the family machine, part 8: RunBj, RunBk, RunBl, RunBm, RunBn, RunBo, RunBp, BegA, BegB, Sta, Stb, Pla, Pvb, Res, Rsu. -/
import Derived.Test.YtdfllhmkgphcmaaDoorM7
import Derived.LoopTactic
import Derived.Deep.RegionHeld3
namespace Go.Proofs.YtdfllhmkgphcmaaDoor
open Go.RowKit

/-- A machine as an argument. -/
structure AM where
  p : Prg
  S : List AV
  sA : Option Addr
  sc : Nat
  F : List Fr
  fA : Option Addr
  fc : Nat
  steps : Int
  seed : Int
  done : Bool
  err : Int
def AM.v (M : AM) : Value := .agg #[.slice M.p.bA M.p.bs.length M.p.bc, .slice M.p.sA M.p.ss.length M.p.sc, .slice M.sA M.S.length M.sc, .slice M.fA M.F.length M.fc, iv M.steps, .int .u64 M.seed, .bool M.done, iv M.err]
def AM.er (M : AM) : MM := ⟨M.p.bs, ers M.S, M.F.map Fr.er, M.steps, M.seed, M.done, M.err⟩
abbrev noT : Nat → Tag := fun _ => .no
/-- It lies in memory. -/
structure AM.Rd (w : World) (M : AM) : Prop where
  p : M.p.Rd w
  s : LRd w.heap.size noT w M.sA M.sc M.S
  f : RD 3 Fr.cs w M.fA M.F
  fc : M.F.length ≤ M.fc
  fm : M.fc ≤ 9223372036854775807
  f0 : M.fA = none → M.fc = 0
  fl : ∀ f ∈ M.F, LRd w.heap.size noT w f.A f.c f.L

def Fr.clip (f : Fr) : Fr := { f with c := f.L.length }
def clipF (k : Nat) (F : List Fr) : List Fr := (F.take k).map Fr.clip ++ F.drop k
theorem clipF_len (k : Nat) (F : List Fr) : (clipF k F).length = F.length := by simp [clipF]; omega
theorem clipF_zero (F : List Fr) : clipF 0 F = F := by simp [clipF]
theorem clipF_all (F : List Fr) : clipF F.length F = F.map Fr.clip := by simp [clipF]
theorem clipF_at {F : List Fr} {k : Nat} (hk : k < F.length) : (clipF k F)[k]? = some F[k] := by
  have h1 : ((F.take k).map Fr.clip).length = k := by simp; omega
  unfold clipF
  rw [List.getElem?_append_right (by omega), h1, Nat.sub_self, List.getElem?_drop, Nat.add_zero]
  simp [hk]
theorem clipF_succ {F : List Fr} {k : Nat} (hk : k < F.length) : clipF (k + 1) F = (clipF k F).set k F[k].clip := by
  apply List.ext_getElem?
  intro i
  have h1 : ((F.take k).map Fr.clip).length = k := by simp; omega
  have h2 : ((F.take (k + 1)).map Fr.clip).length = k + 1 := by simp; omega
  unfold clipF
  rcases Nat.lt_trichotomy i k with h | h | h
  · rw [List.getElem?_append_left (by omega), List.getElem?_set_ne (by omega), List.getElem?_append_left (by omega)]
    simp [h, show i < k + 1 by omega]
  · subst h
    rw [List.getElem?_append_left (by omega), List.getElem?_set_self (by simp; omega)]
    simp [hk]
  · rw [List.getElem?_append_right (by omega), List.getElem?_set_ne (by omega), List.getElem?_append_right (by omega), h1, h2, List.getElem?_drop, List.getElem?_drop]
    congr 1
    omega
theorem flat_set_at {α : Type} (f : α → List Value) (m : Nat) (h : ∀ x, (f x).length = m) {x x' : α} {i : Nat} {u : Value} (hi : i < m) (hx : f x' = (f x).set i u) : ∀ (L : List α) (k : Nat), L[k]? = some x → (L.set k x').flatMap f = (L.flatMap f).set (k * m + i) u
  | [], _, e => by simp at e
  | y :: l, 0, e => by
    simp at e
    subst e
    simp only [List.set_cons_zero, List.flatMap_cons, hx, Nat.zero_mul, Nat.zero_add]
    rw [List.set_append_left _ _ (by rw [h]; exact hi)]
  | y :: l, k + 1, e => by
    simp only [List.set_cons_succ, List.flatMap_cons]
    rw [flat_set_at f m h hi hx l k (by simpa using e), List.set_append_right _ _ (by rw [h, Nat.succ_mul]; omega), h]
    congr 2
    rw [Nat.succ_mul]
    omega

/-- A runner that is being made. -/
structure NS (w : World) (M : AM) (rb mb : Nat) (sv fv : Value) (F : List Fr) (ev : Value) (W : World) : Prop where
  gr : w.grownBy W none
  rbh : W.heap[rb]? = some (.cells #[.slice M.p.bA M.p.bs.length M.p.bc, .slice M.p.sA M.p.ss.length M.p.sc, sv, fv, iv M.steps, .int .u64 M.seed, .bool M.done, iv M.err, ev, .map (some mb)] 87 (0, 0))
  mbh : W.heap[mb]? = some (.map #[] 0)
  rbB : w.heap.size ≤ rb
  mbB : w.heap.size ≤ mb
  st : W.ownsRow w.heap.size 54 8 sv M.S.length (M.S.flatMap AV.cs)
  fr : W.ownsRow w.heap.size 78 3 fv F.length (F.flatMap Fr.cs)
theorem NS.grow {w W W' : World} {M : AM} {rb mb : Nat} {sv fv : Value} {F : List Fr} {ev : Value} (h : NS w M rb mb sv fv F ev W) (hg : W.grownBy W' none) : NS w M rb mb sv fv F ev W' :=
  ⟨h.gr.trans hg, (hg.block _ (heap_lt h.rbh) (by simp)).trans h.rbh, (hg.block _ (heap_lt h.mbh) (by simp)).trans h.mbh, h.rbB, h.mbB, row_keep h.st fun k cur _ e => hg.block k (heap_lt e) (by simp), row_keep h.fr fun k cur _ e => hg.block k (heap_lt e) (by simp)⟩
theorem own_block {w : World} {B T sz n : Nat} {v : Value} {xs : List Value} (h : w.ownsRow B T sz v n xs) {k : Nat} (hk : v.ownBlock = some k) : ∃ cur, w.heap[k]? = some (.cells cur T (0, 0)) := by
  rcases h.2 with ⟨e, _⟩ | ⟨g, cap, cur, e, _, hg, _⟩
  · rw [e] at hk; cases hk
  · rw [e] at hk; cases hk; exact ⟨cur, hg⟩
/-- One call's variables are clipped. -/
theorem NS.clip {w W : World} {M : AM} {rb mb fb c : Nat} {sv : Value} {F : List Fr} {ev : Value} (h : NS w M rb mb sv (.slice (some ⟨fb, 0, none⟩) F.length c) F ev W) {k : Nat} {f : Fr} (hf : F[k]? = some f) : NS w M rb mb sv (.slice (some ⟨fb, 0, none⟩) F.length c) (F.set k f.clip) ev (W.setCell ⟨fb, k * 3 + 2, none⟩ (.slice f.A f.L.length f.L.length)) := by
  obtain ⟨cur, hcur⟩ := own_block h.fr (k := fb) rfl
  have hB := (World.ownsRow.lt h.fr fb rfl).1
  have o : ∀ i, i ≠ fb → (W.setCell ⟨fb, k * 3 + 2, none⟩ (.slice f.A f.L.length f.L.length)).heap[i]? = W.heap[i]? := fun i hi => Below.heap_setCell _ _ _ _ hi
  refine ⟨⟨h.gr.os, h.gr.tape, h.gr.output, by simpa using h.gr.size, fun i hi hn => (o i (by omega)).trans (h.gr.block i hi hn)⟩, (o _ (fun e => by have := h.rbh; rw [e, hcur] at this; cases this)).trans h.rbh, (o _ (fun e => by have := h.mbh; rw [e, hcur] at this; cases this)).trans h.mbh, h.rbB, h.mbB, row_keep h.st fun i cur' e1 e2 => o i (fun e => by subst e; rw [hcur] at e2; cases e2), ?_⟩
  obtain ⟨r1, _⟩ := World.ownsRow.stored h.fr (k * 3 + 2) (.slice f.A f.L.length f.L.length)
  rw [List.length_set, flat_set_at Fr.cs 3 Fr.cs_len (i := 2) (u := .slice f.A f.L.length f.L.length) (x := f) (by omega) (by simp [Fr.cs, Fr.clip]) F k hf]
  exact r1
theorem owns_base {w : World} {B B' T sz n : Nat} {v : Value} {xs : List Value} (h : w.ownsRow B T sz v n xs) (hB : B' ≤ B) : w.ownsRow B' T sz v n xs := by
  refine ⟨h.1, ?_⟩
  rcases h.2 with e | ⟨g, cap, cur, e, h1, h2⟩
  · exact .inl e
  · exact .inr ⟨g, cap, cur, e, Nat.le_trans hB h1, h2⟩
/-- It lies in memory: in the blocks of a base world, and in blocks of its own. -/
structure AM.RdX (w0 : World) (tg : Nat → Tag) (w : World) (M : AM) : Prop where
  gr : w0.grownBy w none
  t : ∀ k, tg k = .no ∨ (w0.heap.size ≤ k ∧ k < w.heap.size ∧ tg k = .all)
  p : M.p.Rd w0
  s : LRd w0.heap.size tg w M.sA M.sc M.S
  f : RD 3 Fr.cs w M.fA M.F
  fx : ∀ a, M.fA = some a → M.F ≠ [] → a.block < w0.heap.size ∨ tg a.block = .all
  fc : M.F.length ≤ M.fc
  fm : M.fc ≤ 9223372036854775807
  f0 : M.fA = none → M.fc = 0
  fl : ∀ f ∈ M.F, LRd w0.heap.size tg w f.A f.c f.L
/-- The runner is there. -/
theorem NS.mem {w0 w W : World} {tg : Nat → Tag} {M : AM} {rb mb eb tb : Nat} {sv fv : Value} (h : NS w M rb mb sv fv (M.F.map Fr.clip) (.map (some eb)) W) (hM : M.RdX w0 tg w) (het : W.heap[eb]? = some (.map (effs tb rb) 16)) (htb : W.heap[tb]? = some (.cells #[.pointer (some ⟨rb, 0, none⟩)] 82 (0, 0))) (hebB : w.heap.size ≤ eb) (htbB : w.heap.size ≤ tb) :
    ∃ g, MR ⟨w0, rb, tb, eb, mb⟩ M.p W g M.er ∧ ∀ k, k < w.heap.size → g.tag k = tg k := by
  have hw := hM.gr
  have hws := hw.size
  have hgr := hw.trans h.gr
  have lt : ∀ {k : Nat} {o : Obj}, W.heap[k]? = some o → k < W.heap.size := fun h => heap_lt h
  let tag : Nat → Tag := fun k => if k = rb ∨ k = tb ∨ k = eb ∨ k = mb ∨ sv.ownBlock = some k ∨ fv.ownBlock = some k then .own else tg k
  have tno : ∀ k, ¬ (k = rb ∨ k = tb ∨ k = eb ∨ k = mb ∨ sv.ownBlock = some k ∨ fv.ownBlock = some k) → tag k = tg k := fun k hk => if_neg hk
  have tow : ∀ k, (k = rb ∨ k = tb ∨ k = eb ∨ k = mb ∨ sv.ownBlock = some k ∨ fv.ownBlock = some k) → tag k = .own := fun k hk => if_pos hk
  have hlow : ∀ k, (k = rb ∨ k = tb ∨ k = eb ∨ k = mb ∨ sv.ownBlock = some k ∨ fv.ownBlock = some k) → w.heap.size ≤ k ∧ k < W.heap.size := fun k hk => by
    rcases hk with rfl | rfl | rfl | rfl | hk | hk
    · exact ⟨h.rbB, lt h.rbh⟩
    · exact ⟨htbB, lt htb⟩
    · exact ⟨hebB, lt het⟩
    · exact ⟨h.mbB, lt h.mbh⟩
    · exact World.ownsRow.lt h.st k hk
    · exact World.ownsRow.lt h.fr k hk
  have old : ∀ k, k < w0.heap.size → W.heap[k]? = w0.heap[k]? := fun k hk => hgr.block k hk (by simp)
  have mono : ∀ {A : Option Addr} {c : Nat} {L : List AV}, LRd w0.heap.size tg w A c L → LRd w0.heap.size tag W A c L := fun hL => hL.mono h.gr.size (fun k hk => by rw [tno k (fun e => by have := (hlow k e).1; omega)]; exact Tag.le_refl _) fun p hp _ => World.cell?_of_block (w := w) (h.gr.block _ hp (by simp))
  have tarr : ∀ k lo sz, tag k ≠ .arr lo sz := fun k lo sz e => by
    by_cases hk : (k = rb ∨ k = tb ∨ k = eb ∨ k = mb ∨ sv.ownBlock = some k ∨ fv.ownBlock = some k)
    · rw [tow k hk] at e; cases e
    · rw [tno k hk] at e
      rcases hM.t k with h' | ⟨_, _, h'⟩
      · rw [h'] at e; cases e
      · rw [h'] at e; cases e
  have lo' : ∀ k, k < w0.heap.size → tag k = .no := fun k hk => by
    rw [tno k (fun e => by have := (hlow k e).1; omega)]
    rcases hM.t k with h' | ⟨h', _, _⟩
    · exact h'
    · omega
  have new' : ∀ k, W.heap.size ≤ k → tag k = .no := fun k hk => by
    rw [tno k (fun e => by have := (hlow k e).2; omega)]
    have h2 := h.gr.size
    rcases hM.t k with h' | ⟨_, h', _⟩
    · exact h'
    · omega
  refine ⟨⟨tag, M.S, sv, M.F.map Fr.clip, fv, []⟩, ⟨{ os := hgr.os, tape := hgr.tape, output := hgr.output, hs := hgr.size, old := old, lo := lo', new := new', rt := tow _ (by simp), rbb := Nat.le_trans hws h.rbB, et := tow _ (by simp), eo := het, tt := tow _ (by simp), to := htb, mt := tow _ (by simp), mbb := Nat.le_trans hws h.mbB, mo := ⟨#[], 0, h.mbh, rfl⟩, st := owns_base h.st hws, stt := fun k e => tow k (by simp [e]), fr := owns_base h.fr hws, frt := fun k e => tow k (by simp [e]), sr := fun x hx => mono (hM.s.hr x hx), fl := fun d f hd => ?_, rm := fun r hr => by simp at hr, ra := List.Pairwise.nil }, h.rbh, rfl, by simp [AM.er, Fr.er, Fr.clip], rfl⟩, fun k hk => tno k (fun e => by have := (hlow k e).1; omega)⟩
  obtain ⟨f0, hf0, rfl⟩ := List.mem_map.1 (List.mem_of_getElem? hd)
  exact ⟨(mono (hM.fl f0 hf0)).clip, fun a lo sz _ => tarr _ _ _, .inl rfl⟩
end Go.Proofs.YtdfllhmkgphcmaaDoor
namespace Go.Proofs.YtdfllhmkgphcmaaDoor
open Go.RowKit
theorem heap_sc (w : World) (r j : Nat) (u : Value) {k : Nat} (h : k ≠ r) : (w.setCell ⟨r, j, none⟩ u).heap[k]? = w.heap[k]? := Below.heap_setCell _ _ _ _ h
theorem own_slice {w : World} {B T sz n : Nat} {v : Value} {xs : List Value} (h : w.ownsRow B T sz v n xs) : ∃ A c, v = .slice A n c := by
  rcases h.2 with ⟨e, rfl⟩ | ⟨g, cap, cur, e, _⟩
  · exact ⟨none, 0, e⟩
  · exact ⟨_, _, e⟩
def oM (M : AM) : Obj := .cells #[.slice M.p.bA M.p.bs.length M.p.bc, .slice M.p.sA M.p.ss.length M.p.sc, .slice M.sA M.S.length M.sc, .slice M.fA M.F.length M.fc, iv M.steps, .int .u64 M.seed, .bool M.done, iv M.err] 36
def oR (M : AM) (mb : Nat) : Obj := .cells #[.slice M.p.bA M.p.bs.length M.p.bc, .slice M.p.sA M.p.ss.length M.p.sc, .slice M.sA M.S.length M.sc, .slice M.fA M.F.length M.fc, iv M.steps, .int .u64 M.seed, .bool M.done, iv M.err, .map none, .map (some mb)] 87
theorem frs_one (L : List Fr) : ∀ u ∈ L.flatMap Fr.cs, u.oneCell' = true := fun u hu => by
  obtain ⟨f, _, h⟩ := List.mem_flatMap.1 hu
  simp [Fr.cs] at h
  rcases h with rfl | rfl | rfl <;> rfl
theorem rd_src {α : Type} {n : Nat} {cs : α → List Value} {w : World} {A : Option Addr} {L : List α} (h : RD n cs w A L) (hn : ∀ x, (cs x).length = n) (h0 : 0 < n) : ∀ a, A = some a → L ≠ [] → a.block < w.heap.size ∧ ∀ (j : Nat) v, (L.flatMap cs)[j]? = some v → w.cell? (a.add j) = some v := fun a ha hL => by
  rcases id h with h' | ⟨a', e, hb, _⟩
  · exact absurd h' hL
  · rw [ha] at e
    cases e
    refine ⟨hb, fun j v hj => ?_⟩
    have hlt : j < L.length * n := by
      rcases Nat.lt_or_ge j (L.length * n) with h' | h'
      · exact h'
      · rw [List.getElem?_eq_none (by rw [flat_len _ n hn]; exact h')] at hj; cases hj
    have e : j = j / n * n + j % n := by rw [Nat.mul_comm]; exact (Nat.div_add_mod j n).symm
    have hq : j / n < L.length := by rw [Nat.div_lt_iff_lt_mul h0]; exact hlt
    have hg : L[j / n]? = some L[j / n] := by simp [hq]
    obtain ⟨a'', e3, _, hc⟩ := h.at hq
    rw [ha] at e3
    cases e3
    rw [e, flat_at cs n hn (Nat.mod_lt _ h0) L _ hg] at hj
    rw [e]
    exact hc _ _ hj
/-- Before and behind the first copy. -/
theorem newr1 (M : AM) (w : World) : let W0 := ((w.alloc (oM M)).alloc (.map #[] 0)).alloc (oR M (w.heap.size + 1)); w.grownBy W0 none ∧ W0.heap[w.heap.size]? = some (oM M) ∧ W0.heap[w.heap.size + 1]? = some (.map #[] 0) ∧ W0.heap[w.heap.size + 1 + 1]? = some (oR M (w.heap.size + 1)) := by
  refine ⟨((World.grownBy_alloc w _ none).trans (World.grownBy_alloc _ _ none)).trans (World.grownBy_alloc _ _ none), ?_, ?_, ?_⟩
  · rw [Below.heap_alloc _ _ _ (by simp; omega), Below.heap_alloc _ _ _ (by simp)]
    exact al_new w _
  · rw [Below.heap_alloc _ _ _ (by simp)]
    have := al_new (w.alloc (oM M)) (.map #[] 0)
    simpa using this
  · have := al_new ((w.alloc (oM M)).alloc (.map #[] 0)) (oR M (w.heap.size + 1))
    simpa using this
theorem NS.ev {w W : World} {M : AM} {rb mb : Nat} {sv fv : Value} {F : List Fr} {ev : Value} (h : NS w M rb mb sv fv F ev W) (ev' : Value) : NS w M rb mb sv fv F ev' (W.setCell ⟨rb, 8, none⟩ ev') := by
  have ne : ∀ {i : Nat} {o : Obj}, W.heap[i]? = some o → (∀ c, o ≠ .cells c 87 (0, 0)) → i ≠ rb := fun {i o} e1 e2 e3 => by subst e3; rw [h.rbh] at e1; exact e2 _ (Option.some.inj e1).symm
  have hB := h.rbB
  exact ⟨⟨h.gr.os, h.gr.tape, h.gr.output, by simpa using h.gr.size, fun k hk hn => (heap_sc _ _ _ _ (by omega)).trans (h.gr.block k hk hn)⟩, (heap_set h.rbh 8 _).trans (by simp), (heap_sc _ _ _ _ (ne h.mbh (by simp))).trans h.mbh, h.rbB, h.mbB, row_keep h.st fun k cur e1 e2 => heap_sc _ _ _ _ (ne e2 (by simp)), row_keep h.fr fun k cur e1 e2 => heap_sc _ _ _ _ (ne e2 (by simp))⟩
theorem NS.c3 {w W : World} {M : AM} {rb mb : Nat} {sv fv : Value} {F : List Fr} {ev : Value} (h : NS w M rb mb sv fv F ev W) : W.cell? ⟨rb, 3, none⟩ = some fv ∧ W.cell? ⟨rb, 8, none⟩ = some ev ∧ ∀ j, W.frozen? ⟨rb, j, none⟩ = false :=
  ⟨by simp [World.cell?, h.rbh], by simp [World.cell?, h.rbh], fun j => by simp [World.frozen?, h.rbh]⟩
theorem NS.cf {w W : World} {M : AM} {rb mb fb n c : Nat} {sv : Value} {F : List Fr} {ev : Value} (h : NS w M rb mb sv (.slice (some ⟨fb, 0, none⟩) n c) F ev W) {k : Nat} {f : Fr} (hf : F[k]? = some f) : W.cell? ⟨fb, k * 3 + 2, none⟩ = some (.slice f.A f.L.length f.c) ∧ ∀ j, W.frozen? ⟨fb, j, none⟩ = false := by
  have hlt : k < F.length := (List.getElem?_eq_some_iff.1 hf).1
  obtain ⟨cur, hcur⟩ := own_block h.fr (k := fb) rfl
  refine ⟨?_, fun j => by simp [World.frozen?, hcur]⟩
  have hfr := h.fr
  have e : ∃ c', (Value.slice (some ⟨fb, 0, none⟩) n c) = .slice (some ⟨fb, 0, none⟩) F.length c' := by
    rcases hfr.2 with ⟨e, _⟩ | ⟨g, cap, cur', e, _⟩
    · cases e
    · cases e; exact ⟨_, rfl⟩
  obtain ⟨c', e⟩ := e
  rw [e] at hfr
  rw [World.ownsRow.cellAt hfr _ (by omega), flat_at Fr.cs 3 Fr.cs_len (by omega) F k hf]
  rfl
theorem LRd.old {B : Nat} {tag : Nat → Tag} {w : World} {A : Option Addr} {c : Nat} {L : List AV} (h : LRd B tag w A c L) : LRd w.heap.size noT w A c L := by
  induction h with
  | @mk A c L hc hm h0 hb he hx hr ih =>
    refine .mk hc hm h0 hb (fun a lo sz _ e => by cases e) (fun a e j x hj i v hi => ⟨(hx a e j x hj i v hi).1, .inl (by rw [add_block]; exact hb a e)⟩) ih
theorem AM.Rd.grow {w W : World} {M : AM} (h : M.Rd w) (hg : w.grownBy W none) : M.Rd W := by
  have mono : ∀ {A : Option Addr} {c : Nat} {L : List AV}, LRd w.heap.size noT w A c L → LRd W.heap.size noT W A c L := fun hL =>
    LRd.old (B := w.heap.size) (tag := noT) (hL.mono hg.size (fun _ _ => Tag.le_refl _) fun p hp _ => World.cell?_of_block (w := w) (hg.block _ hp (by simp)))
  exact ⟨h.p.below ⟨hg.os, hg.tape, hg.output, hg.size, fun k hk => hg.block k hk (by simp)⟩, mono h.s, h.f.keep hg.size fun p hp => World.cell?_of_block (w := w) (hg.block _ hp (by simp)), h.fc, h.fm, h.f0, fun f hf => mono (h.fl f hf)⟩

theorem AM.RdX.rd {w0 w : World} {tg : Nat → Tag} {M : AM} (h : M.RdX w0 tg w) : M.Rd w :=
  ⟨h.p.below ⟨h.gr.os, h.gr.tape, h.gr.output, h.gr.size, fun k hk => h.gr.block k hk (by simp)⟩, h.s.old, h.f, h.fc, h.fm, h.f0, fun f hf => (h.fl f hf).old⟩
/-- What it does not own may change. -/
theorem AM.RdX.keep {w0 w V : World} {tg : Nat → Tag} {M : AM} (h : M.RdX w0 tg w) (hg : w0.grownBy V none) (hs : w.heap.size ≤ V.heap.size) (hk : ∀ k, k < w.heap.size → tg k ≠ .no → V.heap[k]? = w.heap[k]?) : M.RdX w0 tg V := by
  have ck : ∀ p : Addr, p.block < w.heap.size → (p.block < w0.heap.size ∨ tg p.block ≠ .no) → V.cell? p = w.cell? p := fun p hp hq => by
    by_cases h0 : p.block < w0.heap.size
    · exact (World.cell?_of_block (w := w0) (hg.block _ h0 (by simp))).trans (World.cell?_of_block (w := w0) (h.gr.block _ h0 (by simp))).symm
    · exact World.cell?_of_block (w := w) (hk _ hp (hq.resolve_left h0))
  have mono : ∀ {A : Option Addr} {c : Nat} {L : List AV}, LRd w0.heap.size tg w A c L → LRd w0.heap.size tg V A c L := fun hL => hL.mono hs (fun k _ => Tag.le_refl _) fun p hp hst => by
    refine ck p hp ?_
    rcases hst with h1 | h1 | ⟨_, _, h1, _⟩ | ⟨_, _, h1, _⟩
    · exact .inl h1
    · exact .inr (by rw [h1]; simp)
    · exact .inr (by rw [h1]; simp)
    · exact .inr (by rw [h1]; simp)
  refine ⟨hg, fun k => ?_, h.p, mono h.s, ?_, h.fx, h.fc, h.fm, h.f0, fun f hf => mono (h.fl f hf)⟩
  · rcases h.t k with h1 | ⟨h1, h2, h3⟩
    · exact .inl h1
    · exact .inr ⟨h1, by omega, h3⟩
  · by_cases hF : M.F = []
    · exact .inl hF
    · rcases h.f with h1 | ⟨a, e, hb, hc⟩
      · exact .inl h1
      · have hx := h.fx a e hF
        refine .inr ⟨a, e, by omega, fun j x hj i v hi => (ck _ (by rw [add_block]; exact hb) ?_).trans (hc j x hj i v hi)⟩
        rw [add_block]
        rcases hx with h1 | h1
        · exact .inl h1
        · exact .inr (by rw [h1]; simp)
theorem AM.RdX.grow {w0 w V : World} {tg : Nat → Tag} {M : AM} (h : M.RdX w0 tg w) (hg : w.grownBy V none) : M.RdX w0 tg V :=
  h.keep (h.gr.trans hg) hg.size fun k hk _ => hg.block k hk (by simp)
theorem AM.Rd.x {w : World} {M : AM} (h : M.Rd w) : M.RdX w noT w :=
  ⟨⟨rfl, rfl, rfl, Nat.le_refl _, fun _ _ _ => rfl⟩, fun _ => .inl rfl, h.p, h.s, h.f, fun a e hF => by
    rcases h.f with h1 | ⟨a', e', hb, _⟩
    · exact absurd h1 hF
    · rw [e] at e'; cases e'; exact .inl hb, h.fc, h.fm, h.f0, h.fl⟩

set_option maxRecDepth 100000 in
set_option maxHeartbeats 4000000 in
theorem newRunner_any (M : AM) (w0 w : World) (tg : Nat → Tag) (hM0 : M.RdX w0 tg w) (hF : M.F ≠ []) (hn : M.S.length ≤ 1000000) (hn2 : M.F.length ≤ 1000000) :
    Calls Tryd.prog 37 #[M.v] w fun e w' => ∃ rb tb eb mb g, e = .returned (.pointer (some ⟨rb, 0, none⟩)) ∧ MR ⟨w0, rb, tb, eb, mb⟩ M.p w' g M.er ∧ (∀ k, k < w.heap.size → g.tag k = tg k) ∧ w.grownBy w' none := by
  have hM := hM0.rd
  have HM0 := Lib.hid hM0
  clear hM0
  have C53 : ∀ o o' o'', Calls Tryd.prog 53 #[.slice M.sA M.S.length M.sc] (((w.alloc o).alloc o').alloc o'') (ClP 54 8 (((w.alloc o).alloc o').alloc o'') M.S.length (M.S.flatMap AV.cs)) := fun o o' o'' =>
    clone53_any M.sA M.S.length M.sc (M.S.flatMap AV.cs) _ (flat8 M.S) (fun a ha => by
      obtain ⟨h1, h2⟩ := hM.s.src a ha
      exact ⟨by simp; omega, fun j v hj => cell_al3 (h2 j v hj) (by rw [add_block]; exact h1) o o' o''⟩) (flat_one M.S) (fun e => ⟨by have := hM.s.h0 e; have := hM.s.hc; omega, hM.s.h0 e⟩) hn
  have H53 := Lib.hid C53
  clear C53
  have xe : M.v = .agg #[.slice M.p.bA M.p.bs.length M.p.bc, .slice M.p.sA M.p.ss.length M.p.sc, .slice M.sA M.S.length M.sc, .slice M.fA M.F.length M.fc, iv M.steps, .int .u64 M.seed, .bool M.done, iv M.err] := rfl
  rw [xe]
  clear xe
  have HM := Lib.hid hM
  have HF := Lib.hid hF
  clear hM hF
  have mm : ∀ W, (Instr.makeMap 85 none).run Tryd.prog W = .ok (.map (some W.heap.size)) (W.alloc (.map #[] 0)) := fun _ => rfl
  have N1 := Lib.hid (newr1 M w)
  have B53 : ∀ W1 v, (((w.alloc (oM M)).alloc (.map #[] 0)).alloc (oR M (w.heap.size + 1))).grownBy W1 none → W1.ownsRow (((w.alloc (oM M)).alloc (.map #[] 0)).alloc (oR M (w.heap.size + 1))).heap.size 54 8 v M.S.length (M.S.flatMap AV.cs) → W1.heap[w.heap.size]? = some (oM M) ∧ W1.heap[w.heap.size + 1]? = some (.map #[] 0) ∧ W1.heap[w.heap.size + 1 + 1]? = some (oR M (w.heap.size + 1)) ∧ w.grownBy W1 none ∧ W1.ownsRow w.heap.size 54 8 v M.S.length (M.S.flatMap AV.cs) := fun W1 v hg ho => by
    obtain ⟨g0, k0, k1, k2⟩ := N1.out
    exact ⟨(hg.block _ (heap_lt k0) (by simp)).trans k0, (hg.block _ (heap_lt k1) (by simp)).trans k1, (hg.block _ (heap_lt k2) (by simp)).trans k2, g0.trans hg, owns_base ho (by simp; omega)⟩
  have B53 := Lib.hid B53
  clear N1
  go_enter Tryd.func37, Tryd.ntmps37
  go_wp2_with (go_at_call 53; refine (H53.out _ _ _).mono ?_; rintro e w1 ⟨v, rfl, hg1, ho1⟩; obtain ⟨vA, vc, rfl⟩ := own_slice ho1; obtain ⟨k0, k1, k2, gw, ow⟩ := B53.out w1 _ hg1 ho1; clear hg1 ho1; have r2 := Lib.cell_of_heap k2 2; have rf : ∀ j, w1.frozen? ⟨w.heap.size + 1 + 1, j, none⟩ = false := (fun j => by simp [World.frozen?, k2, oR]); simp at r2; have m3 := Lib.cell_of_heap k0 3; simp at m3; have K0 := Lib.hid k0; have K1 := Lib.hid k1; have K2 := Lib.hid k2; have GW := Lib.hid gw; have OW := Lib.hid ow; clear k0 k1 k2 gw ow)
  have hF' := HF.out
  have C54 : ∀ W, w.grownBy W none → Calls Tryd.prog 54 #[.slice M.fA M.F.length M.fc] W (ClP 78 3 W M.F.length (M.F.flatMap Fr.cs)) := fun W hg =>
    clone54_any M.fA M.F.length M.fc (M.F.flatMap Fr.cs) W (flat3 M.F) (fun a ha => by
      obtain ⟨h1, h2⟩ := rd_src HM.out.f Fr.cs_len (by decide) a ha HF.out
      exact ⟨Nat.lt_of_lt_of_le h1 hg.size, fun j v hj => (World.cell?_of_block (w := w) (hg.block _ (by rw [add_block]; exact h1) (by simp))).trans (h2 j v hj)⟩) (frs_one M.F) (fun e => by
      rcases HM.out.f with h | ⟨a', e', _⟩
      · exact absurd h HF.out
      · rw [e] at e'; cases e') hn2
  have gs : w.grownBy (w1.setCell ⟨w.heap.size + 1 + 1, 2, none⟩ (.slice vA M.S.length vc)) none := ⟨GW.out.os, GW.out.tape, GW.out.output, by simpa using GW.out.size, fun k hk hn' => (heap_sc _ _ _ _ (by omega)).trans (GW.out.block k hk hn')⟩
  refine (C54 _ gs).mono ?_
  rintro e w2 ⟨fv, rfl, hg2, ho2⟩
  obtain ⟨fb, fc', rfl⟩ : ∃ fb fc', fv = .slice (some ⟨fb, 0, none⟩) M.F.length fc' := by
    rcases ho2.2 with ⟨_, e2⟩ | ⟨g, cap, cur, e, _⟩
    · exact absurd (List.eq_nil_of_length_eq_zero e2) HF.out
    · exact ⟨g, cap, e⟩
  have ns0 : NS w M (w.heap.size + 1 + 1) (w.heap.size + 1) (.slice vA M.S.length vc) (.slice (some ⟨fb, 0, none⟩) M.F.length fc') M.F (.map none) (w2.setCell ⟨w.heap.size + 1 + 1, 3, none⟩ (.slice (some ⟨fb, 0, none⟩) M.F.length fc')) := by
    have l2 := heap_lt K2.out
    have l1 := heap_lt K1.out
    have hs : (w1.setCell ⟨w.heap.size + 1 + 1, 2, none⟩ (.slice vA M.S.length vc)).heap.size = w1.heap.size := by simp
    have h2 : (w1.setCell ⟨w.heap.size + 1 + 1, 2, none⟩ (.slice vA M.S.length vc)).heap[w.heap.size + 1 + 1]? = _ := heap_set (show w1.heap[w.heap.size + 1 + 1]? = some (oR M (w.heap.size + 1)) from K2.out) 2 (.slice vA M.S.length vc)
    have h1 : (w1.setCell ⟨w.heap.size + 1 + 1, 2, none⟩ (.slice vA M.S.length vc)).heap[w.heap.size + 1]? = some (.map #[] 0) := (heap_sc _ _ _ _ (by omega)).trans K1.out
    have q2 := (hg2.block _ (by rw [hs]; exact l2) (by simp)).trans h2
    have q1 := (hg2.block _ (by rw [hs]; exact l1) (by simp)).trans h1
    have ne : ∀ {i : Nat} {o : Obj}, w2.heap[i]? = some o → (∀ c, o ≠ .cells c 87 (0, 0)) → i ≠ w.heap.size + 1 + 1 := fun {i o} e1 e2 e3 => by subst e3; rw [q2] at e1; exact e2 _ (Option.some.inj e1).symm
    refine ⟨⟨hg2.os.trans gs.os, hg2.tape.trans gs.tape, hg2.output.trans gs.output, ?_, fun k hk _ => ?_⟩, ?_, (heap_sc _ _ _ _ (by omega)).trans q1, by omega, by omega, ?_, ?_⟩
    · have a1 := hg2.size
      have a2 := gs.size
      simp at a1 a2 ⊢
      omega
    · rw [heap_sc _ _ _ _ (by omega), hg2.block k (by have := gs.size; omega) (by simp)]
      exact gs.block k hk (by simp)
    · rw [heap_set q2 3 _]
      simp
    · refine row_keep (row_keep OW.out (w' := w2) fun k cur e1 e2 => ?_) fun k cur e1 e2 => Below.heap_setCell _ _ _ _ (ne e2 (by simp))
      rw [hg2.block k (by rw [hs]; exact heap_lt e2) (by simp)]
      refine Below.heap_setCell _ _ _ _ fun e => ?_
      subst e
      have := K2.out
      unfold oR at this
      rw [e2] at this
      cases this
    · exact row_keep (owns_base ho2 (by rw [hs]; exact GW.out.size)) fun k cur e1 e2 => Below.heap_setCell _ _ _ _ (ne e2 (by simp))
  have NS0 := Lib.hid ns0
  have v2 := Lib.cell_of_heap ((hg2.block (w.heap.size + 1 + 1) (by simp; exact heap_lt K2.out) (by simp)).trans (heap_set (show w1.heap[w.heap.size + 1 + 1]? = some (oR M (w.heap.size + 1)) from K2.out) 2 (.slice vA M.S.length vc))) 3
  simp at v2
  have vf : ∀ j, w2.frozen? ⟨w.heap.size + 1 + 1, j, none⟩ = false := fun j => by
    have h := (hg2.block (w.heap.size + 1 + 1) (by simp; exact heap_lt K2.out) (by simp)).trans (heap_set (show w1.heap[w.heap.size + 1 + 1]? = some (oR M (w.heap.size + 1)) from K2.out) 2 (.slice vA M.S.length vc))
    simp [World.frozen?, h]
  clear hF' C54 gs hg2 ho2 ns0 r2 rf m3 K0 K1 K2 GW OW B53 H53 mm
  go_wp2
  go_loopw [4, 29] (fun _ i wr => ∃ k : Nat, k ≤ M.F.length ∧ i = .int .i64 k ∧ Hid (NS w M (w.heap.size + 1 + 1) (w.heap.size + 1) (.slice vA M.S.length vc) (.slice (some ⟨fb, 0, none⟩) M.F.length fc') (clipF k M.F) (.map none) wr)) (fun _ i _ => M.F.length - (intOf i).toNat)
  case atStart => exact ⟨0, Nat.zero_le _, rfl, Lib.hid (by rw [clipF_zero]; exact NS0.out)⟩
  case round =>
    obtain ⟨k, hk, rfl, HN⟩ := hrel
    clear NS0 v2 vf
    by_cases hlt : k < M.F.length
    · go_wp2
      obtain ⟨f, hf⟩ : ∃ f, f = M.F[k] := ⟨_, rfl⟩
      have hfk := clipF_at hlt
      rw [← hf] at hfk
      have hfl := HM.out.fl f (by rw [hf]; exact List.getElem_mem hlt)
      have hfc := hfl.hc
      have hf0 := hfl.h0
      have dn := HN.out.grow (grown_drewN wr 1 none)
      have q3 := dn.c3.1
      have qf := (dn.cf hfk).1
      have qz := (dn.cf hfk).2
      have HFK := Lib.hid hfk
      have HFE := Lib.hid hf
      clear hfk hf hfl dn
      refine wp_phaseT [false, false, false, false, false, false, false, false, false, false, false, false, false, false, false, false, false, false, true] [[], [18]] [Value.pointer (some ⟨w.heap.size + 1 + 1, 0, none⟩), Value.pointer (some ⟨w.heap.size + 1 + 1, 0, none⟩), Value.pointer (some ⟨w.heap.size + 1 + 1, 0, none⟩), Value.pointer (some ⟨w.heap.size + 1 + 1, 3, none⟩), .slice (some ⟨fb, 0, none⟩) M.F.length fc', Value.int IntKind.i64 ↑k, Value.pointer (some ⟨w.heap.size + 1 + 1, 0, none⟩), Value.pointer (some ⟨w.heap.size + 1 + 1, 0, none⟩), Value.pointer (some ⟨w.heap.size + 1 + 1, 0, none⟩), Value.pointer (some ⟨w.heap.size + 1 + 1, 3, none⟩), .slice (some ⟨fb, 0, none⟩) M.F.length fc', Value.int IntKind.i64 ↑k, Value.pointer (some ⟨fb, k * 3, none⟩), Value.pointer (some ⟨fb, k * 3 + 2, none⟩), .slice f.A f.L.length f.c, .slice f.A f.L.length f.L.length, Value.pointer (some ⟨fb, k * 3, none⟩), Value.pointer (some ⟨fb, k * 3 + 2, none⟩), undef] [_, (wr.drew.setCell ⟨fb, k * 3 + 2, none⟩ (.slice f.A f.L.length f.L.length))] 1 19 (by decide) (by kernel_rfl) (by kernel_rfl) (by kernel_rfl) (by kernel_rfl) rfl (by kernel_rfl) (fun h => absurd h (by decide)) (fun h => absurd h (by decide)) rfl rfl ⟨?_, ?_, ?_, ?_, ?_, ?_, ?_, ?_, ?_, ?_, ?_, ?_, ?_, ?_, ?_, ?_, ?_, ?_, ?_, trivial⟩ rfl (by kernel_rfl) ?_
      · intro kk aa hk E
        have h3 : aa.eval (.tmp 3) = Value.pointer (some ⟨w.heap.size + 1 + 1, 0, none⟩) := (E 3 (by kernel_rfl)).trans (by kernel_rfl)
        exact obl_pure (by kernel_rfl) rfl hk fun w => op_move rfl rfl h3
      · intro kk aa hk E
        have h32 : aa.eval (.tmp 32) = Value.pointer (some ⟨w.heap.size + 1 + 1, 0, none⟩) := (E 32 (by kernel_rfl)).trans (by kernel_rfl)
        exact obl_pure (by kernel_rfl) rfl hk fun w => op_nil rfl rfl h32
      · intro kk aa hk E
        have h33 : aa.eval (.tmp 33) = Value.pointer (some ⟨w.heap.size + 1 + 1, 0, none⟩) := (E 33 (by kernel_rfl)).trans (by kernel_rfl)
        exact obl_pure (by kernel_rfl) rfl hk fun w => op_fa (k := 0) rfl rfl rfl h33
      · intro kk aa hk E
        have h34 : aa.eval (.tmp 34) = Value.pointer (some ⟨w.heap.size + 1 + 1, 0, none⟩) := (E 34 (by kernel_rfl)).trans (by kernel_rfl)
        exact obl_pure (by kernel_rfl) rfl hk fun w => op_fa (k := 3) rfl rfl rfl h34
      · intro kk aa hk E
        have h35 : aa.eval (.tmp 35) = Value.pointer (some ⟨w.heap.size + 1 + 1, 3, none⟩) := (E 35 (by kernel_rfl)).trans (by kernel_rfl)
        refine obl_read (ks := [0]) (by kernel_rfl) (by kernel_rfl) rfl hk ⟨?_, trivial⟩
        · intro w' hw; cases hw; exact op_load1 rfl (by decide) rfl h35 q3
      · intro kk aa hk E
        have h4 : aa.eval (.tmp 4) = Value.int IntKind.i64 ↑k := (E 4 (by kernel_rfl)).trans (by kernel_rfl)
        exact obl_pure (by kernel_rfl) rfl hk fun w => op_move rfl rfl h4
      · intro kk aa hk E
        have h3 : aa.eval (.tmp 3) = Value.pointer (some ⟨w.heap.size + 1 + 1, 0, none⟩) := (E 3 (by kernel_rfl)).trans (by kernel_rfl)
        exact obl_pure (by kernel_rfl) rfl hk fun w => op_move rfl rfl h3
      · intro kk aa hk E
        have h38 : aa.eval (.tmp 38) = Value.pointer (some ⟨w.heap.size + 1 + 1, 0, none⟩) := (E 38 (by kernel_rfl)).trans (by kernel_rfl)
        exact obl_pure (by kernel_rfl) rfl hk fun w => op_nil rfl rfl h38
      · intro kk aa hk E
        have h39 : aa.eval (.tmp 39) = Value.pointer (some ⟨w.heap.size + 1 + 1, 0, none⟩) := (E 39 (by kernel_rfl)).trans (by kernel_rfl)
        exact obl_pure (by kernel_rfl) rfl hk fun w => op_fa (k := 0) rfl rfl rfl h39
      · intro kk aa hk E
        have h40 : aa.eval (.tmp 40) = Value.pointer (some ⟨w.heap.size + 1 + 1, 0, none⟩) := (E 40 (by kernel_rfl)).trans (by kernel_rfl)
        exact obl_pure (by kernel_rfl) rfl hk fun w => op_fa (k := 3) rfl rfl rfl h40
      · intro kk aa hk E
        have h41 : aa.eval (.tmp 41) = Value.pointer (some ⟨w.heap.size + 1 + 1, 3, none⟩) := (E 41 (by kernel_rfl)).trans (by kernel_rfl)
        refine obl_read (ks := [0]) (by kernel_rfl) (by kernel_rfl) rfl hk ⟨?_, trivial⟩
        · intro w' hw; cases hw; exact op_load1 rfl (by decide) rfl h41 q3
      · intro kk aa hk E
        have h4 : aa.eval (.tmp 4) = Value.int IntKind.i64 ↑k := (E 4 (by kernel_rfl)).trans (by kernel_rfl)
        exact obl_pure (by kernel_rfl) rfl hk fun w => op_move rfl rfl h4
      · intro kk aa hk E
        have h42 : aa.eval (.tmp 42) = .slice (some ⟨fb, 0, none⟩) M.F.length fc' := (E 42 (by kernel_rfl)).trans (by kernel_rfl)
        have h43 : aa.eval (.tmp 43) = Value.int IntKind.i64 ↑k := (E 43 (by kernel_rfl)).trans (by kernel_rfl)
        exact obl_pure (by kernel_rfl) rfl hk fun w => op_index (sz := 3) (k := k) (Nat.zero_add _) rfl (.inr (.inl ⟨rfl, rfl⟩)) rfl h42 h43 rfl hlt
      · intro kk aa hk E
        have h44 : aa.eval (.tmp 44) = Value.pointer (some ⟨fb, k * 3, none⟩) := (E 44 (by kernel_rfl)).trans (by kernel_rfl)
        exact obl_pure (by kernel_rfl) rfl hk fun w => op_fa (k := 2) rfl rfl rfl h44
      · intro kk aa hk E
        have h45 : aa.eval (.tmp 45) = Value.pointer (some ⟨fb, k * 3 + 2, none⟩) := (E 45 (by kernel_rfl)).trans (by kernel_rfl)
        refine obl_read (ks := [0]) (by kernel_rfl) (by kernel_rfl) rfl hk ⟨?_, trivial⟩
        · intro w' hw; cases hw; exact op_load1 rfl (by decide) rfl h45 qf
      · intro kk aa hk E
        have h46 : aa.eval (.tmp 46) = .slice f.A f.L.length f.c := (E 46 (by kernel_rfl)).trans (by kernel_rfl)
        refine obl_call (ks := [0]) (by kernel_rfl) (by kernel_rfl) rfl hk ⟨?_, trivial⟩
        · intro w' hw; cases hw; exact op_call55 rfl h46 hfc hf0
      · intro kk aa hk E
        have h36 : aa.eval (.tmp 36) = .slice (some ⟨fb, 0, none⟩) M.F.length fc' := (E 36 (by kernel_rfl)).trans (by kernel_rfl)
        have h37 : aa.eval (.tmp 37) = Value.int IntKind.i64 ↑k := (E 37 (by kernel_rfl)).trans (by kernel_rfl)
        exact obl_pure (by kernel_rfl) rfl hk fun w => op_index (sz := 3) (k := k) (Nat.zero_add _) rfl (.inr (.inl ⟨rfl, rfl⟩)) rfl h36 h37 rfl hlt
      · intro kk aa hk E
        have h48 : aa.eval (.tmp 48) = Value.pointer (some ⟨fb, k * 3, none⟩) := (E 48 (by kernel_rfl)).trans (by kernel_rfl)
        exact obl_pure (by kernel_rfl) rfl hk fun w => op_fa (k := 2) rfl rfl rfl h48
      · intro kk aa hk E
        have h49 : aa.eval (.tmp 49) = Value.pointer (some ⟨fb, k * 3 + 2, none⟩) := (E 49 (by kernel_rfl)).trans (by kernel_rfl)
        have h47 : aa.eval (.tmp 47) = .slice f.A f.L.length f.L.length := (E 47 (by kernel_rfl)).trans (by kernel_rfl)
        exact obl_write (ks := [0]) (by kernel_rfl) (by kernel_rfl) hk ⟨⟨1, _, _, by kernel_rfl, rfl, rfl, op_store1 rfl (by decide) rfl h49 h47 qf (qz _) (.inl ⟨_, _, _, rfl⟩)⟩, trivial⟩
      intro af haf
      simp only [List.take_succ_cons, List.take_zero, finA, Act.put, List.setIfInBounds_toArray, List.set_cons_succ, List.set_cons_zero] at haf
      subst haf
      simp only [List.drop_succ_cons, List.drop_zero]
      have nn := HN.out.grow (grown_drewN wr 1 none)
      rw [← clipF_len k M.F] at nn
      have n2 := nn.clip HFK.out
      rw [clipF_len, HFE.out, ← clipF_succ hlt, ← HFE.out] at n2
      have N2 := Lib.hid n2
      clear nn n2 q3 qf qz
      go_wp2
      go_roundw
      case rel => exact ⟨k + 1, by omega, by go_num, N2⟩
      case measure => simp [intOf]; omega
    · obtain rfl : k = M.F.length := by omega
      have hN := HN.out
      rw [clipF_all] at hN
      have N3 := Lib.hid hN
      have TAB := Lib.hid (fun (W : World) => table_any (w.heap.size + 1 + 1) W)
      clear hN HN
      go_wp2_with (go_at_call 56; refine (TAB.out _).mono ?_; rintro e w5 ⟨rfl, g5, k5, k6⟩; have n5 := N3.out.grow g5; have N5 := Lib.hid n5; have c8 := n5.c3.2.1; have cf := n5.c3.2.2; have K5 := Lib.hid k5; have K6 := Lib.hid k6; have G5 := Lib.hid g5; clear n5 k5 k6 g5)
      go_ret
      have n6 := N5.out.ev (.map (some (wr.heap.size + 1)))
      have l5 := N3.out.gr.size
      have r5 := heap_lt N3.out.rbh
      obtain ⟨g, hg, hg2⟩ := n6.mem HM0.out (eb := wr.heap.size + 1) (tb := wr.heap.size) ((heap_sc _ _ _ _ (by omega)).trans K6.out) ((heap_sc _ _ _ _ (by omega)).trans K5.out) (by omega) (by omega)
      exact ⟨_, _, _, _, g, rfl, hg, hg2, n6.gr⟩
end Go.Proofs.YtdfllhmkgphcmaaDoor
namespace Go.Proofs.YtdfllhmkgphcmaaDoor
open Go.RowKit

/-- Another block is written. -/
theorem Mem.boxes {b : Bl} {w w' : World} {g : Gh} (h : Mem b w g) {x : Nat} (hx : b.B ≤ x) (ht : g.tag x = .no) (os : w'.os = w.os) (tape : w'.tape = w.tape) (output : w'.output = w.output) (hs : w.heap.size ≤ w'.heap.size) (hk : ∀ k, k < w.heap.size → k ≠ x → w'.heap[k]? = w.heap[k]?) : Mem b w' g :=
  h.keep os tape output hs w.heap.size (fun h => by omega) fun k hk' _ hr => hk k hk' fun e => by
    subst e
    rcases hr with hr | hr
    · omega
    · exact hr ht
theorem MR.boxes {b : Bl} {p : Prg} {w w' : World} {g : Gh} {m : MM} (h : MR b p w g m) {x : Nat} (hx : b.B ≤ x) (ht : g.tag x = .no) (os : w'.os = w.os) (tape : w'.tape = w.tape) (output : w'.output = w.output) (hs : w.heap.size ≤ w'.heap.size) (hk : ∀ k, k < w.heap.size → k ≠ x → w'.heap[k]? = w.heap[k]?) : MR b p w' g m :=
  ⟨h.mem.boxes hx ht os tape output hs hk, h.R.keep (hk _ h.R.lt (fun e => by have := h.mem.rt; rw [e, ht] at this; cases this)), h.S, h.F, h.bs⟩
theorem MR.grow {b : Bl} {p : Prg} {w w' : World} {g : Gh} {m : MM} (h : MR b p w g m) (hg : w.grownBy w' none) : MR b p w' g m :=
  ⟨h.mem.only (grown_weak hg _) h.R, h.R.keep (hg.block _ h.R.lt (by simp)), h.S, h.F, h.bs⟩
/-- The blocks that a machine may use. -/
def Tag.isNo : Tag → Bool
  | .no => true
  | _ => false
theorem Tag.isNo_ne {t : Tag} (h : t ≠ .no) : t.isNo = false := by
  cases t <;> first | rfl | exact absurd rfl h
def tgOf (w0 w : World) (tag : Nat → Tag) (k : Nat) : Tag := if w0.heap.size ≤ k ∧ k < w.heap.size ∧ (tag k).isNo = false then .all else .no
theorem tgOf_t (w0 w : World) (tag : Nat → Tag) (k : Nat) : tgOf w0 w tag k = .no ∨ (w0.heap.size ≤ k ∧ k < w.heap.size ∧ tgOf w0 w tag k = .all) := by
  unfold tgOf
  split
  · rename_i h; exact .inr ⟨h.1, h.2.1, rfl⟩
  · exact .inl rfl
theorem tgOf_sta {w0 w : World} {tag : Nat → Tag} {p : Addr} (hs : sta w0.heap.size tag p) (hp : p.block < w.heap.size) : p.block < w0.heap.size ∨ tgOf w0 w tag p.block = .all := by
  by_cases h0 : p.block < w0.heap.size
  · exact .inl h0
  · right
    unfold tgOf
    rw [if_pos]
    refine ⟨by omega, hp, Tag.isNo_ne ?_⟩
    rcases hs with h1 | h1 | ⟨_, _, h1, _⟩ | ⟨_, _, h1, _⟩
    · exact absurd h1 h0
    · rw [h1]; simp
    · rw [h1]; simp
    · rw [h1]; simp
theorem LRd.all {w0 w : World} {tag : Nat → Tag} {A : Option Addr} {c : Nat} {L : List AV} (h : LRd w0.heap.size tag w A c L) : LRd w0.heap.size (tgOf w0 w tag) w A c L := by
  induction h with
  | @mk A c L hc hm h0 hb he hx hr ih =>
    refine .mk hc hm h0 hb (fun a lo sz _ e => ?_) (fun a e j x hj i v hi => ?_) ih
    · rcases tgOf_t w0 w tag a.block with h1 | ⟨_, _, h1⟩
      · rw [h1] at e; cases e
      · rw [h1] at e; cases e
    · obtain ⟨h1, h2⟩ := hx a e j x hj i v hi
      refine ⟨h1, ?_⟩
      rcases tgOf_sta h2 (by rw [add_block]; exact hb a e) with h3 | h3
      · exact .inl h3
      · exact .inr (.inl h3)
/-- The machine in the runner. -/
theorem MR.am {b : Bl} {p : Prg} {w : World} {g : Gh} {m : MM} (h : MR b p w g m) (hp : p.Rd b.w0) : ∃ M : AM, M.p = p ∧ M.er = m ∧ M.RdX b.w0 (tgOf b.w0 w g.tag) w ∧ g.sv = .slice M.sA M.S.length M.sc ∧ g.fv = .slice M.fA M.F.length M.fc := by
  have g0 : b.w0.grownBy w none := ⟨h.mem.os, h.mem.tape, h.mem.output, h.mem.hs, fun k hk _ => h.mem.old k hk⟩
  have own : ∀ k, b.B ≤ k → k < w.heap.size → g.tag k = .own → tgOf b.w0 w g.tag k = .all := fun k h1 h2 h3 => if_pos ⟨h1, h2, by rw [h3]; rfl⟩
  have hs : ∃ sA sc, g.sv = .slice sA g.S.length sc ∧ LRd b.B (tgOf b.w0 w g.tag) w sA sc g.S := by
    have hr := h.mem.st
    have hn := fun x (hx : x ∈ g.S) => (h.mem.sr x hx).all
    rcases id hr.2 with ⟨e, e2⟩ | ⟨gg, cap, cur, e, hB, hg, hnc, hm, hcs, ht⟩
    · have : g.S = [] := List.eq_nil_of_length_eq_zero e2
      rw [this]
      exact ⟨none, 0, by rw [e]; rfl, LRd.nil _ _ _⟩
    · have hall := own gg hB (heap_lt hg) (h.mem.stt gg (by rw [e]; rfl))
      refine ⟨_, cap, e, .mk hnc (by unfold maxLen at hm; omega) (fun e => by cases e) (fun a ea => by cases ea; exact heap_lt hg) (fun a lo sz ea e => by cases ea; rw [hall] at e; cases e) (fun a ea j x hj i v hi => ?_) hn⟩
      cases ea
      have hi8 : i < 8 := by
        rcases Nat.lt_or_ge i 8 with h' | h'
        · exact h'
        · rw [List.getElem?_eq_none (by rw [AV.cs_len]; exact h')] at hi; cases hi
      have hj' : j < g.S.length := (List.getElem?_eq_some_iff.1 hj).1
      have ha : ((⟨gg, 0, none⟩ : Addr).add (j * 8 + i)) = ⟨gg, j * 8 + i, none⟩ := by
        by_cases e0 : j * 8 + i = 0
        · rw [e0]; rfl
        · rw [fld_add _ _ e0]; simp
      rw [ha]
      refine ⟨?_, .inr (.inl hall)⟩
      rw [e] at hr
      rw [World.ownsRow.cellAt hr _ (by omega), flat_at AV.cs 8 AV.cs_len hi8 _ j hj]
      exact hi
  have hf : ∃ fA fc, g.fv = .slice fA g.F.length fc ∧ RD 3 Fr.cs w fA g.F ∧ (∀ a, fA = some a → g.F ≠ [] → a.block < b.w0.heap.size ∨ tgOf b.w0 w g.tag a.block = .all) ∧ g.F.length ≤ fc ∧ fc ≤ 9223372036854775807 ∧ (fA = none → fc = 0) := by
    have hr := h.mem.fr
    rcases id hr.2 with ⟨e, e2⟩ | ⟨gg, cap, cur, e, hB, hg, hnc, hm, hcs, ht⟩
    · have : g.F = [] := List.eq_nil_of_length_eq_zero e2
      rw [this]
      exact ⟨none, 0, by rw [e]; rfl, .inl rfl, (fun a e => by cases e), by simp, by omega, fun _ => rfl⟩
    · have hall := own gg hB (heap_lt hg) (h.mem.frt gg (by rw [e]; rfl))
      refine ⟨_, cap, e, .inr ⟨_, rfl, heap_lt hg, fun j x hj i v hi => ?_⟩, fun a ea _ => by cases ea; exact .inr hall, hnc, by unfold maxLen at hm; omega, fun e => by cases e⟩
      have hi3 : i < 3 := by
        rcases Nat.lt_or_ge i 3 with h' | h'
        · exact h'
        · rw [List.getElem?_eq_none (by rw [Fr.cs_len]; exact h')] at hi; cases hi
      have hj' : j < g.F.length := (List.getElem?_eq_some_iff.1 hj).1
      have ha : ((⟨gg, 0, none⟩ : Addr).add (j * 3 + i)) = ⟨gg, j * 3 + i, none⟩ := by
        by_cases e0 : j * 3 + i = 0
        · rw [e0]; rfl
        · rw [fld_add _ _ e0]; simp
      rw [ha]
      rw [e] at hr
      rw [World.ownsRow.cellAt hr _ (by omega), flat_at Fr.cs 3 Fr.cs_len hi3 _ j hj]
      exact hi
  obtain ⟨sA, sc, e1, h1⟩ := hs
  obtain ⟨fA, fc, e2, h2, h6, h3, h4, h5⟩ := hf
  refine ⟨⟨p, g.S, sA, sc, g.F, fA, fc, m.steps, m.seed, m.done, m.err⟩, rfl, ?_, ⟨g0, tgOf_t _ _ _, hp, h1, h2, h6, h3, h4, h5, fun f hf => ?_⟩, e1, e2⟩
  · obtain ⟨mb, mS, mF, ms, msd, md, me⟩ := m
    have a1 := h.bs
    have a2 := h.S
    have a3 := h.F
    simp only at a1 a2 a3
    simp only [AM.er, a1, a2, a3]
  · obtain ⟨d, hd⟩ := List.getElem?_of_mem hf
    exact (h.mem.fl d f hd).l.all

set_option maxRecDepth 100000 in
theorem ended_any (M : AM) (w : World) : Calls Tryd.prog 36 #[M.v] w fun e w' => e = .returned (.bool (ended M.er)) ∧ w.grownBy w' none := by
  have xe : M.v = .agg #[.slice M.p.bA M.p.bs.length M.p.bc, .slice M.p.sA M.p.ss.length M.p.sc, .slice M.sA M.S.length M.sc, .slice M.fA M.F.length M.fc, iv M.steps, .int .u64 M.seed, .bool M.done, iv M.err] := rfl
  have ee : ended M.er = (M.done || M.err != 0) := rfl
  rw [xe, ee]
  generalize M.done = D
  generalize M.err = E
  cases D with
  | true =>
    go_enter Tryd.func36, Tryd.ntmps36
    go_wp2
    go_ret
    exact ⟨rfl, grown_alloc _ _ _⟩
  | false =>
    go_enter Tryd.func36, Tryd.ntmps36
    go_wp2
    go_ret
    exact ⟨by simp, grown_alloc _ _ _⟩
end Go.Proofs.YtdfllhmkgphcmaaDoor
namespace Go.Proofs.YtdfllhmkgphcmaaDoor
open Go.RowKit

/-- Up to n steps, and what Run says of them. -/
def runE : Nat → MM → MM × Int
  | 0, m => (m, 27)
  | n + 1, m => if ended (stepM m) then (stepM m, 0) else runE n (stepM m)
def itM : Nat → MM → MM
  | 0, m => m
  | n + 1, m => stepM (itM n m)
def runR (n : Nat) (m : MM) : MM × Int := if ended m then (m, 0) else runE n m
theorem runE_go : ∀ (k n : Nat) (m : MM), (∀ j, j < k → ended (itM (j + 1) m) = false) → runE (k + n) m = runE n (itM k m)
  | 0, n, m, _ => by simp [itM]
  | k + 1, n, m, h => by
    rw [show k + 1 + n = k + (n + 1) by omega, runE_go k (n + 1) m fun j hj => h j (by omega)]
    have := h k (by omega)
    simp only [itM] at this
    rw [runE, itM, if_neg (by rw [this]; simp)]
theorem itM_keep {n : Nat} {m : MM} (h : MI n m) (he : ended m = false) : ∀ k : Nat, (∀ j, j < k → ended (itM (j + 1) m) = false) → MI (n + 2 * k) (itM k m) ∧ (itM k m).bs = m.bs ∧ (itM k m).steps = m.steps + k ∧ ended (itM k m) = false
  | 0, _ => ⟨h, rfl, by simp [itM], he⟩
  | k + 1, hj => by
    obtain ⟨h1, h2, h3, h4⟩ := itM_keep h he k fun j hj' => hj j (by omega)
    obtain ⟨k1, k2, k3⟩ := stepM_keep h1 h4
    exact ⟨k1, k2.trans h2, by rw [itM, k3, h3]; omega, hj k (by omega)⟩

theorem MR.cs {b : Bl} {p : Prg} {w : World} {g : Gh} {m : MM} (h : MR b p w g m) {M : AM} (e1 : M.p = p) (e2 : M.er = m) (e3 : g.sv = .slice M.sA M.S.length M.sc) (e4 : g.fv = .slice M.fA M.F.length M.fc) :
    w.cell? ⟨b.rb, 0, none⟩ = some (.slice M.p.bA M.p.bs.length M.p.bc) ∧ w.cell? ⟨b.rb, 1, none⟩ = some (.slice M.p.sA M.p.ss.length M.p.sc) ∧ w.cell? ⟨b.rb, 2, none⟩ = some (.slice M.sA M.S.length M.sc) ∧ w.cell? ⟨b.rb, 3, none⟩ = some (.slice M.fA M.F.length M.fc) ∧
    w.cell? ⟨b.rb, 4, none⟩ = some (iv M.steps) ∧ w.cell? ⟨b.rb, 5, none⟩ = some (.int .u64 M.seed) ∧ w.cell? ⟨b.rb, 6, none⟩ = some (.bool M.done) ∧ w.cell? ⟨b.rb, 7, none⟩ = some (iv M.err) := by
  subst e1
  subst e2
  have hR := h.R
  rw [e3, e4] at hR
  exact ⟨(hR.c 0).trans rfl, (hR.c 1).trans rfl, (hR.c 2).trans rfl, (hR.c 3).trans rfl, (hR.c 4).trans rfl, (hR.c 5).trans rfl, (hR.c 6).trans rfl, (hR.c 7).trans rfl⟩
/-- Its value. -/
def rv (p : Prg) (sv fv : Value) (m : MM) : Value := .agg #[.slice p.bA p.bs.length p.bc, .slice p.sA p.ss.length p.sc, sv, fv, iv m.steps, .int .u64 m.seed, .bool m.done, iv m.err]
theorem MR.rv {b : Bl} {p : Prg} {w : World} {g : Gh} {m : MM} (h : MR b p w g m) (hp : p.Rd b.w0) {M : AM} (e1 : M.p = p) (e2 : M.er = m) (e3 : g.sv = .slice M.sA M.S.length M.sc) (e4 : g.fv = .slice M.fA M.F.length M.fc) : ∃ M' : AM, M'.v = M.v ∧ M'.p = p ∧ M'.er = m ∧ M'.RdX b.w0 (tgOf b.w0 w g.tag) w := by
  obtain ⟨M', k1, k2, k3, k4, k5⟩ := h.am hp
  have v1 : M'.v = YtdfllhmkgphcmaaDoor.rv p g.sv g.fv m := by rw [k4, k5]; subst k1; subst k2; rfl
  have v2 : M.v = YtdfllhmkgphcmaaDoor.rv p g.sv g.fv m := by rw [e3, e4]; subst e1; subst e2; rfl
  exact ⟨M', v1.trans v2.symm, k1, k2, k3⟩
/-- What Run leaves. -/
def RunP (w0 : World) (tg : Nat → Tag) (M : AM) (w : World) (r : MM × Int) (e : Ending) (w' : World) : Prop := w.grownBy w' none ∧ ∃ (M' : AM) (tg' : Nat → Tag), e = .returned (.tuple #[M'.v, iv r.2]) ∧ M'.p = M.p ∧ M'.er = r.1 ∧ M'.RdX w0 tg' w' ∧ ∀ k, k < w.heap.size → tg' k = tg k
def zM : Obj := .cells #[nilS, nilS, nilS, nilS, iv 0, .int .u64 0, .bool false, iv 0] 36
def set36 (w : World) (m : Nat) (v0 v1 v2 v3 v4 v5 v6 v7 : Value) : World := (((((((w.setCell ⟨m, 0, none⟩ v0).setCell ⟨m, 1, none⟩ v1).setCell ⟨m, 2, none⟩ v2).setCell ⟨m, 3, none⟩ v3).setCell ⟨m, 4, none⟩ v4).setCell ⟨m, 5, none⟩ v5).setCell ⟨m, 6, none⟩ v6).setCell ⟨m, 7, none⟩ v7
theorem set36_ok (w : World) (m : Nat) (v0 v1 v2 v3 v4 v5 v6 v7 : Value) : (set36 w m v0 v1 v2 v3 v4 v5 v6 v7).os = w.os ∧ (set36 w m v0 v1 v2 v3 v4 v5 v6 v7).tape = w.tape ∧ (set36 w m v0 v1 v2 v3 v4 v5 v6 v7).output = w.output ∧ (set36 w m v0 v1 v2 v3 v4 v5 v6 v7).heap.size = w.heap.size ∧ ∀ k, k ≠ m → (set36 w m v0 v1 v2 v3 v4 v5 v6 v7).heap[k]? = w.heap[k]? := by
  refine ⟨by simp [set36, World.setCell], by simp [set36, World.setCell], by simp [set36, World.setCell], by simp [set36], fun k hk => ?_⟩
  unfold set36
  iterate 8 rw [heap_sc _ _ _ _ hk]
def mv (M : AM) : List Value := [.slice M.p.bA M.p.bs.length M.p.bc, .slice M.p.sA M.p.ss.length M.p.sc, .slice M.sA M.S.length M.sc, .slice M.fA M.F.length M.fc, iv M.steps, .int .u64 M.seed, .bool M.done, iv M.err]
def setM (w : World) (m : Nat) (M : AM) : World := set36 w m (.slice M.p.bA M.p.bs.length M.p.bc) (.slice M.p.sA M.p.ss.length M.p.sc) (.slice M.sA M.S.length M.sc) (.slice M.fA M.F.length M.fc) (iv M.steps) (.int .u64 M.seed) (.bool M.done) (iv M.err)
theorem grown_setM {w w1 : World} {m : Nat} (h : w.grownBy w1 none) (hm : w.heap.size ≤ m) (M : AM) : w.grownBy (setM w1 m M) none := by
  obtain ⟨h1, h2, h3, h4, h5⟩ := set36_ok w1 m (.slice M.p.bA M.p.bs.length M.p.bc) (.slice M.p.sA M.p.ss.length M.p.sc) (.slice M.sA M.S.length M.sc) (.slice M.fA M.F.length M.fc) (iv M.steps) (.int .u64 M.seed) (.bool M.done) (iv M.err)
  refine ⟨h1.trans h.os, h2.trans h.tape, h3.trans h.output, ?_, fun k hk hn => (h5 k (by omega)).trans (h.block k hk hn)⟩
  show _ ≤ (set36 _ _ _ _ _ _ _ _ _ _).heap.size
  rw [h4]
  exact h.size
theorem cells36 {w : World} {m : Nat} {v0 v1 v2 v3 v4 v5 v6 v7 : Value} (h : w.heap[m]? = some (.cells #[v0, v1, v2, v3, v4, v5, v6, v7] 36 (0, 0))) : (w.cell? ⟨m, 0, none⟩ = some v0 ∧ w.cell? ⟨m, 1, none⟩ = some v1 ∧ w.cell? ⟨m, 2, none⟩ = some v2 ∧ w.cell? ⟨m, 3, none⟩ = some v3 ∧ w.cell? ⟨m, 4, none⟩ = some v4 ∧ w.cell? ⟨m, 5, none⟩ = some v5 ∧ w.cell? ⟨m, 6, none⟩ = some v6 ∧ w.cell? ⟨m, 7, none⟩ = some v7) ∧ ∀ j, w.frozen? ⟨m, j, none⟩ = false := by
  refine ⟨⟨?_, ?_, ?_, ?_, ?_, ?_, ?_, ?_⟩, fun j => by simp [World.frozen?, h]⟩
  all_goals
    rw [Lib.cell_of_heap h]
    rfl
/-- The two boxes of a run. -/
structure B2 (w : World) (M : AM) (w1 : World) : Prop where
  gr : w.grownBy w1 none
  k0 : w1.heap[w.heap.size]? = some (oM M)
  k1 : w1.heap[w.heap.size + 1]? = some zM
theorem B2.of (w : World) (M : AM) : B2 w M ((w.alloc (oM M)).alloc zM) := by
  refine ⟨(World.grownBy_alloc w _ none).trans (World.grownBy_alloc _ _ none), ?_, ?_⟩
  · rw [Below.heap_alloc _ _ _ (by simp)]
    exact al_new w _
  · have := al_new (w.alloc (oM M)) zM
    simpa using this
theorem B2.grow {w w1 w2 : World} {M : AM} (h : B2 w M w1) (hg : w1.grownBy w2 none) : B2 w M w2 := ⟨h.gr.trans hg, (hg.block _ (heap_lt h.k0) (by simp)).trans h.k0, (hg.block _ (heap_lt h.k1) (by simp)).trans h.k1⟩
set_option maxRecDepth 100000 in
set_option maxHeartbeats 4000000 in
theorem run_end (w0 : World) (tg : Nat → Tag) (M : AM) (w : World) (steps : Nat) (hM : M.RdX w0 tg w) (he : ended M.er = true) (hs : steps ≤ 100000) :
    Calls Tryd.prog 19 #[M.v, iv steps] w (RunP w0 tg M w (M.er, 0)) := by
  have xe : M.v = .agg #[.slice M.p.bA M.p.bs.length M.p.bc, .slice M.p.sA M.p.ss.length M.p.sc, .slice M.sA M.S.length M.sc, .slice M.fA M.F.length M.fc, iv M.steps, .int .u64 M.seed, .bool M.done, iv M.err] := rfl
  have EN := Lib.hid (fun w => ended_any M w)
  rw [he] at EN
  have HB := Lib.hid (B2.of w M)
  have HM := Lib.hid hM
  rw [xe]
  clear xe hM he
  have z1 : ¬ (steps : Int) < 0 := by omega
  have z2 : ¬ (100000 : Int) < (steps : Int) := by omega
  go_enter Tryd.func19, Tryd.ntmps19
  go_wp2_with (go_at_call 36; refine (EN.out _).mono ?_; rintro e w1 ⟨rfl, g1⟩; have b1 := HB.out.grow g1; obtain ⟨⟨p0, p1, p2, p3, p4, p5, p6, p7⟩, pf⟩ := cells36 b1.k0; obtain ⟨⟨q0, q1, q2, q3, q4, q5, q6, q7⟩, qf⟩ := cells36 b1.k1; have B1 := Lib.hid b1; clear b1 g1)
  have W9 : Hid (RunP w0 tg M w (M.er, 0) (.returned (.tuple #[M.v, iv 0])) (setM w1 (w.heap.size + 1) M)) := Lib.hid ⟨grown_setM B1.out.gr (by omega) M, M, tg, rfl, rfl, rfl, HM.out.grow (grown_setM B1.out.gr (by omega) M), fun _ _ => rfl⟩
  refine bodyPost_ret (v := .tuple #[M.v, iv 0]) ?_ rfl W9.out
  simp [results, Tryd.results19, go_sem, AM.v, q0, q1, q2, q3, q4, q5, q6, q7]
end Go.Proofs.YtdfllhmkgphcmaaDoor
namespace Go.Proofs.YtdfllhmkgphcmaaDoor
open Go.RowKit

/-- Where the loop of a run stands. -/
structure RL (w0 : World) (tg : Nat → Tag) (M : AM) (w : World) (rb tb eb mb k : Nat) (g : Gh) (W : World) : Prop where
  mr : MR ⟨w0, rb, tb, eb, mb⟩ M.p W g (itM k M.er)
  gr : w.grownBy W none
  tk : ∀ k, k < w.heap.size → g.tag k = tg k
  nj : ∀ j, j < k → ended (itM (j + 1) M.er) = false
  t4 : g.tag (w.heap.size + 1) = .no
  k1 : W.heap[w.heap.size + 1]? = some zM
/-- Behind a step. -/
structure RS (w0 : World) (tg : Nat → Tag) (M : AM) (w : World) (rb tb eb mb k : Nat) (g : Gh) (M4 : AM) (W : World) : Prop where
  mr : MR ⟨w0, rb, tb, eb, mb⟩ M.p W g (itM (k + 1) M.er)
  gr : w.grownBy W none
  tk : ∀ k, k < w.heap.size → g.tag k = tg k
  nj : ∀ j, j < k → ended (itM (j + 1) M.er) = false
  t4 : g.tag (w.heap.size + 1) = .no
  k1 : W.heap[w.heap.size + 1]? = some zM
  a1 : M4.p = M.p
  a2 : M4.er = itM (k + 1) M.er
  a3 : g.sv = .slice M4.sA M4.S.length M4.sc
  a4 : g.fv = .slice M4.fA M4.F.length M4.fc
theorem RS.grow {w0 : World} {tg : Nat → Tag} {M : AM} {w : World} {rb tb eb mb k : Nat} {g : Gh} {M4 : AM} {W W' : World} (h : RS w0 tg M w rb tb eb mb k g M4 W) (hg : W.grownBy W' none) : RS w0 tg M w rb tb eb mb k g M4 W' :=
  ⟨h.mr.grow hg, h.gr.trans hg, h.tk, h.nj, h.t4, (hg.block _ (heap_lt h.k1) (by simp)).trans h.k1, h.a1, h.a2, h.a3, h.a4⟩
theorem RL.step {w0 : World} {tg : Nat → Tag} {M : AM} {w : World} {rb tb eb mb k n : Nat} {g : Gh} {W : World} (h : RL w0 tg M w rb tb eb mb k g W) (hM : M.RdX w0 tg w) (he : ended M.er = false) (hI : MI n M.er) (hn : n + 2 * k ≤ 900000) (hst : M.steps + k ≤ 1000000) :
    Calls Tryd.prog 38 #[.pointer (some ⟨rb, 0, none⟩)] W fun e w' => e = .returned (.tuple #[]) ∧ ∃ g' M4, RS w0 tg M w rb tb eb mb k g' M4 w' := by
  obtain ⟨h1, h2, h3, h4⟩ := itM_keep hI he k h.nj
  refine (step_any ⟨w0, rb, tb, eb, mb⟩ M.p W g (itM k M.er) (n + 2 * k) h.mr h1 hn (by rw [h3]; show M.steps + k ≤ _; omega) h4 hM.p).mono ?_
  rintro e w' ⟨rfl, g', k1, k2⟩
  obtain ⟨M4, a1, a2, a3, a4, a5⟩ := k1.am hM.p
  have ht := k2.tag (w.heap.size + 1) (heap_lt h.k1)
  rw [h.t4] at ht
  have hsz := h.gr.size
  have hlow : ∀ i, i < w.heap.size → (g.tag i).still = true := fun i hi => by
    rw [h.tk i hi]
    rcases hM.t i with h1 | ⟨_, _, h1⟩ <;> rw [h1] <;> rfl
  refine ⟨rfl, g', M4, k1, ⟨k2.os.trans h.gr.os, k2.tape.trans h.gr.tape, k2.output.trans h.gr.output, Nat.le_trans hsz k2.size, fun i hi _ => (k2.block i (by omega) (hlow i hi)).trans (h.gr.block i hi (by simp))⟩, fun i hi => ?_, h.nj, ht, (k2.block _ (heap_lt h.k1) (by rw [h.t4]; rfl)).trans h.k1, a1, a2, a4, a5⟩
  have h5 := k2.tag i (by omega)
  rw [h.tk i hi] at h5
  rcases hM.t i with h1 | ⟨_, _, h1⟩
  · rw [h1] at h5 ⊢; exact h5
  · rw [h1] at h5 ⊢; exact h5
theorem tg_same {w0 w W : World} {g : Gh} {tg : Nat → Tag} (hsz : w.heap.size ≤ W.heap.size) (hX : ∀ k, tg k = .no ∨ (w0.heap.size ≤ k ∧ k < w.heap.size ∧ tg k = .all)) (hk : ∀ k, k < w.heap.size → g.tag k = tg k) : ∀ k, k < w.heap.size → tgOf w0 W g.tag k = tg k := fun k h => by
  unfold tgOf
  rw [hk k h]
  rcases hX k with h1 | ⟨h1, _, h2⟩
  · rw [h1]; simp [Tag.isNo]
  · rw [h2, if_pos ⟨h1, by omega, rfl⟩]
theorem tg_out {w0 w : World} {tg : Nat → Tag} (hX : ∀ k, tg k = .no ∨ (w0.heap.size ≤ k ∧ k < w.heap.size ∧ tg k = .all)) {k : Nat} (hk : w.heap.size ≤ k) : tg k = .no := by
  rcases hX k with h1 | ⟨_, h1, _⟩
  · exact h1
  · omega
/-- The machine is stored and handed back. -/
theorem fin_set {w0 : World} {tg : Nat → Tag} {M M4 : AM} {w W : World} {rb tb eb mb : Nat} {g : Gh} {m : MM} {er : Int} (mr : MR ⟨w0, rb, tb, eb, mb⟩ M.p W g m) (gr : w.grownBy W none) (tk : ∀ k, k < w.heap.size → g.tag k = tg k) (t4 : g.tag (w.heap.size + 1) = .no) (hM : M.RdX w0 tg w) (a1 : M4.p = M.p) (a2 : M4.er = m) (a3 : g.sv = .slice M4.sA M4.S.length M4.sc) (a4 : g.fv = .slice M4.fA M4.F.length M4.fc) :
    RunP w0 tg M w (m, er) (.returned (.tuple #[M4.v, iv er])) (setM W (w.heap.size + 1) M4) := by
  obtain ⟨h1, h2, h3, h4, h5⟩ := set36_ok W (w.heap.size + 1) (.slice M4.p.bA M4.p.bs.length M4.p.bc) (.slice M4.p.sA M4.p.ss.length M4.p.sc) (.slice M4.sA M4.S.length M4.sc) (.slice M4.fA M4.F.length M4.fc) (iv M4.steps) (.int .u64 M4.seed) (.bool M4.done) (iv M4.err)
  have hws := hM.gr.size
  have mr' : MR ⟨w0, rb, tb, eb, mb⟩ M.p (setM W (w.heap.size + 1) M4) g m := mr.boxes (x := w.heap.size + 1) (by show w0.heap.size ≤ _; omega) t4 h1 h2 h3 (by show _ ≤ (set36 _ _ _ _ _ _ _ _ _ _).heap.size; rw [h4]; exact Nat.le_refl _) fun k _ hk => h5 k hk
  obtain ⟨M', v1, v2, v3, v4⟩ := mr'.rv hM.p a1 a2 a3 a4
  have gg := grown_setM (m := w.heap.size + 1) gr (by omega) M4
  exact ⟨gg, M', _, by rw [v1], v2, v3, v4, tg_same gg.size hM.t tk⟩
theorem RS.fin {w0 : World} {tg : Nat → Tag} {M : AM} {w : World} {rb tb eb mb k : Nat} {g : Gh} {M4 : AM} {W : World} (h : RS w0 tg M w rb tb eb mb k g M4 W) (hM : M.RdX w0 tg w) (er : Int) : RunP w0 tg M w (itM (k + 1) M.er, er) (.returned (.tuple #[M4.v, iv er])) (setM W (w.heap.size + 1) M4) :=
  fin_set h.mr h.gr h.tk h.t4 hM h.a1 h.a2 h.a3 h.a4
theorem RL.fin {w0 : World} {tg : Nat → Tag} {M : AM} {w : World} {rb tb eb mb k : Nat} {g : Gh} {W : World} (h : RL w0 tg M w rb tb eb mb k g W) (hM : M.RdX w0 tg w) (er : Int) : ∃ M4 : AM, (W.cell? ⟨rb, 0, none⟩ = some (.slice M4.p.bA M4.p.bs.length M4.p.bc) ∧ W.cell? ⟨rb, 1, none⟩ = some (.slice M4.p.sA M4.p.ss.length M4.p.sc) ∧ W.cell? ⟨rb, 2, none⟩ = some (.slice M4.sA M4.S.length M4.sc) ∧ W.cell? ⟨rb, 3, none⟩ = some (.slice M4.fA M4.F.length M4.fc) ∧
    W.cell? ⟨rb, 4, none⟩ = some (iv M4.steps) ∧ W.cell? ⟨rb, 5, none⟩ = some (.int .u64 M4.seed) ∧ W.cell? ⟨rb, 6, none⟩ = some (.bool M4.done) ∧ W.cell? ⟨rb, 7, none⟩ = some (iv M4.err)) ∧ RunP w0 tg M w (itM k M.er, er) (.returned (.tuple #[M4.v, iv er])) (setM W (w.heap.size + 1) M4) := by
  obtain ⟨M4, a1, a2, a3, a4, a5⟩ := h.mr.am hM.p
  exact ⟨M4, h.mr.cs a1 a2 a4 a5, fin_set h.mr h.gr h.tk h.t4 hM a1 a2 a4 a5⟩

set_option maxRecDepth 100000 in
set_option maxHeartbeats 8000000 in
theorem run_go (w0 : World) (tg : Nat → Tag) (M : AM) (w : World) (steps n : Nat) (hM : M.RdX w0 tg w) (he : ended M.er = false) (hI : MI n M.er) (hs : steps ≤ 100000) (hn : n + 2 * steps ≤ 900000) (hst : M.steps ≤ 100000) :
    Calls Tryd.prog 19 #[M.v, iv steps] w (RunP w0 tg M w (runE steps M.er)) := by
  have xe : M.v = .agg #[.slice M.p.bA M.p.bs.length M.p.bc, .slice M.p.sA M.p.ss.length M.p.sc, .slice M.sA M.S.length M.sc, .slice M.fA M.F.length M.fc, iv M.steps, .int .u64 M.seed, .bool M.done, iv M.err] := rfl
  have hF : M.F ≠ [] := fun e => by
    have h1 := hI.fd
    have h2 := (ended_no he).1
    have h3 : M.er.F = [] := by show M.F.map Fr.er = []; rw [e]; rfl
    rw [h2, h3] at h1
    simp at h1
  have hS1 : M.S.length ≤ 1000000 := by
    have h1 := hI.ok.1
    have h2 : M.er.S.length = M.S.length := ers_length M.S
    omega
  have hF1 : M.F.length ≤ 1000000 := by
    have h1 := hI.ok.2.1
    have h2 : M.er.F.length = M.F.length := List.length_map ..
    omega
  have NR := Lib.hid (fun W (hg : w.grownBy W none) => newRunner_any M w0 W tg (hM.grow hg) hF hS1 hF1)
  have HGR := Lib.hid hM.t
  have EN := Lib.hid (fun w => ended_any M w)
  have e0 := he
  rw [he] at EN
  have HB := Lib.hid (B2.of w M)
  have HM := Lib.hid hM
  have HI := Lib.hid hI
  have HE := Lib.hid he
  rw [xe]
  clear xe hM he e0 hI hF hS1 hF1
  have z1 : ¬ (steps : Int) < 0 := by omega
  have z2 : ¬ (100000 : Int) < (steps : Int) := by omega
  go_enter Tryd.func19, Tryd.ntmps19
  go_wp2_with (first | (go_at_call 36; refine (EN.out _).mono ?_; rintro e w1 ⟨rfl, g1⟩; have b1 := HB.out.grow g1; obtain ⟨⟨p0, p1, p2, p3, p4, p5, p6, p7⟩, -⟩ := cells36 b1.k0; have B1 := Lib.hid b1; clear b1 g1) | (go_at_call 37; refine (NR.out _ B1.out.gr).mono ?_; rintro e w2 ⟨rb, tb, eb, mb, g, rfl, mr, tno, g2⟩; have rl0 : RL w0 tg M w rb tb eb mb 0 g w2 := ⟨mr, B1.out.gr.trans g2, fun k hk => tno _ (Nat.lt_of_lt_of_le hk B1.out.gr.size), fun j hj => by omega, (tno _ (heap_lt B1.out.k1)).trans (tg_out HGR.out (Nat.le_succ _)), (g2.block _ (heap_lt B1.out.k1) (by simp)).trans B1.out.k1⟩; have RL0 := Lib.hid rl0; clear mr tno g2 rl0))
  clear p0 p1 p2 p3 p4 p5 p6 p7
  go_loopw [20] (fun i wr => ∃ (k : Nat) (g' : Gh), k ≤ steps ∧ i = .int .i64 k ∧ Hid (RL w0 tg M w rb tb eb mb k g' wr)) (fun i _ => steps - (intOf i).toNat)
  case atStart => exact ⟨0, g, Nat.zero_le _, rfl, RL0⟩
  case round =>
    obtain ⟨k, g', hk, rfl, HL⟩ := hrel
    clear RL0 B1 HB EN NR
    by_cases hlt : k < steps
    · have ST := Lib.hid (HL.out.step HM.out HE.out HI.out (by omega) (by omega))
      have HNJ := Lib.hid HL.out.nj
      clear HL
      go_wp2_with (first | (go_at_call 38; refine ST.out.mono ?_; rintro e w4 ⟨rfl, g4, M4, rs⟩; obtain ⟨p0, p1, p2, p3, p4, p5, p6, p7⟩ := rs.mr.cs rs.a1 rs.a2 rs.a3 rs.a4; have R4 := Lib.hid rs; clear rs) | (go_at_call 36; refine (ended_any M4 _).mono ?_; rintro e w5 ⟨rfl, g5⟩; clear p0 p1 p2 p3 p4 p5 p6 p7; have rs := R4.out.grow g5; obtain ⟨p0, p1, p2, p3, p4, p5, p6, p7⟩ := rs.mr.cs rs.a1 rs.a2 rs.a3 rs.a4; obtain ⟨⟨q0, q1, q2, q3, q4, q5, q6, q7⟩, qf⟩ := cells36 rs.k1; have R5 := Lib.hid rs; clear rs g5))
      · rename_i hE
        have hE' : ended (itM (k + 1) M.er) = true := by rw [← R5.out.a2]; exact hE
        have eR : runE steps M.er = (itM (k + 1) M.er, 0) := by
          have h1 := runE_go k (steps - k) M.er HNJ.out
          rw [show k + (steps - k) = steps by omega] at h1
          rw [h1]
          obtain ⟨d, hd⟩ : ∃ d, steps - k = d + 1 := ⟨steps - k - 1, by omega⟩
          rw [hd, runE]
          exact if_pos hE'
        have W9 := Lib.hid (R5.out.fin HM.out 0)
        rw [eR]
        refine bodyPost_ret (v := .tuple #[M4.v, iv 0]) ?_ rfl W9.out
        simp [results, Tryd.results19, go_sem, AM.v, q0, q1, q2, q3, q4, q5, q6, q7]
      · rename_i hE
        have hE' : ended (itM (k + 1) M.er) = false := by rw [← R5.out.a2]; simpa using hE
        refine ⟨⟨k + 1, g4, by omega, by simp, Lib.hid ⟨R5.out.mr, R5.out.gr, R5.out.tk, fun j hj => ?_, R5.out.t4, R5.out.k1⟩⟩, by simp [intOf]; omega⟩
        by_cases hjk : j = k
        · subst hjk; exact hE'
        · exact R5.out.nj j (by omega)
    · obtain rfl : k = steps := by omega
      have eR : runE k M.er = (itM k M.er, 27) := by
        have h1 := runE_go k 0 M.er HL.out.nj
        rw [Nat.add_zero] at h1
        rw [h1]
        rfl
      obtain ⟨M4, ⟨p0, p1, p2, p3, p4, p5, p6, p7⟩, hfin⟩ := HL.out.fin HM.out 27
      obtain ⟨⟨q0, q1, q2, q3, q4, q5, q6, q7⟩, qf⟩ := cells36 HL.out.k1
      rw [← eR] at hfin
      have W9 := Lib.hid hfin
      clear hfin HL eR
      go_wp2
      refine bodyPost_ret (v := .tuple #[M4.v, iv 27]) ?_ rfl W9.out
      simp [results, Tryd.results19, go_sem, AM.v, q0, q1, q2, q3, q4, q5, q6, q7]
end Go.Proofs.YtdfllhmkgphcmaaDoor
namespace Go.Proofs.YtdfllhmkgphcmaaDoor
open Go.RowKit

abbrev zV : Value := .agg #[.int .i64 0, .int .i64 0, .slice none 0 0, .int .i64 0, .string ⟨#[]⟩, .string ⟨#[]⟩, .slice none 0 0, .slice none 0 0]
set_option maxRecDepth 100000 in
set_option maxHeartbeats 4000000 in
theorem result_no (M : AM) (w : World) (h1 : M.done = false) (h2 : M.err = 0) : Calls Tryd.prog 23 #[M.v] w fun e w' => e = .returned (.tuple #[zV, iv 18]) ∧ w.grownBy w' none := by
  have xe : M.v = .agg #[.slice M.p.bA M.p.bs.length M.p.bc, .slice M.p.sA M.p.ss.length M.p.sc, .slice M.sA M.S.length M.sc, .slice M.fA M.F.length M.fc, iv M.steps, .int .u64 M.seed, .bool M.done, iv M.err] := rfl
  rw [xe, h1, h2]
  clear xe h1 h2
  go_enter Tryd.func23, Tryd.ntmps23
  go_wp2
  refine bodyPost_ret (v := .tuple #[zV, iv 18]) ?_ rfl ⟨rfl, (World.grownBy_alloc w _ none).trans (World.grownBy_alloc _ _ none)⟩
  simp [results, Tryd.results23, go_sem]
set_option maxRecDepth 100000 in
set_option maxHeartbeats 4000000 in
theorem result_err (M : AM) (w : World) (h1 : M.done = false) (h2 : (M.err != 0) = true) : Calls Tryd.prog 23 #[M.v] w fun e w' => e = .returned (.tuple #[zV, iv M.err]) ∧ w.grownBy w' none := by
  have xe : M.v = .agg #[.slice M.p.bA M.p.bs.length M.p.bc, .slice M.p.sA M.p.ss.length M.p.sc, .slice M.sA M.S.length M.sc, .slice M.fA M.F.length M.fc, iv M.steps, .int .u64 M.seed, .bool M.done, iv M.err] := rfl
  rw [xe, h1]
  generalize M.err = E at *
  have h3 : ¬ E = 0 := by simpa using h2
  have h4 : (E == 0) = false := by simpa using h2
  clear xe h1
  go_enter Tryd.func23, Tryd.ntmps23
  go_wp2
  go_region_law (fail)
  all_goals go_wp2
  all_goals
    refine bodyPost_ret (v := .tuple #[zV, iv E]) ?_ ?_ ⟨rfl, ((World.grownBy_alloc w _ none).trans (World.grownBy_alloc _ _ none)).trans (grown_drewN _ 1 none)⟩
    · simp [results, Tryd.results23, go_sem, Act.put]
    · rfl
set_option maxRecDepth 100000 in
set_option maxHeartbeats 4000000 in
theorem result_done (M : AM) (w : World) (S : List AV) (x : AV) (hM : M.Rd w) (h1 : M.done = true) (hS : M.S = S ++ [x]) (hn : M.S.length ≤ 1000000) : Calls Tryd.prog 23 #[M.v] w fun e w' => e = .returned (.tuple #[x.v, iv 0]) ∧ w.grownBy w' none := by
  have xe : M.v = .agg #[.slice M.p.bA M.p.bs.length M.p.bc, .slice M.p.sA M.p.ss.length M.p.sc, .slice M.sA M.S.length M.sc, .slice M.fA M.F.length M.fc, iv M.steps, .int .u64 M.seed, .bool M.done, iv M.err] := rfl
  have hx : M.S[S.length]? = some x := by rw [hS]; simp
  obtain ⟨q, q1, hA, hq, hqb, p0, p1, p2, p3, p4, p5, p6, p7⟩ := hM.s.at8 hx
  have hl : M.S.length = S.length + 1 := by rw [hS]; simp
  rw [xe, h1, hA, hl]
  clear xe h1 hM hx hA
  rw [hl] at hn
  clear hl hS
  generalize S.length = N at *
  have e1 : IntKind.i64.wrap ((N : Int) + 1 - 1) = (N : Int) := by rw [IntWalk.i64_in _ (by omega)]; omega
  have e2 : ((N : Int)).toNat = N := by omega
  have e3 : 0 ≤ (N : Int) := by omega
  have e4 : N < N + 1 := by omega
  have e5 : (N : Int) < (N : Int) + 1 := by omega
  have e6 : (0 : Int) < (N : Int) + 1 := by omega
  have c0 := fun o o' => cell_al (cell_al p0 hqb o) (by simp; omega) o'
  have c1 := fun o o' => cell_al (cell_al p1 hqb o) (by simp; omega) o'
  have c2 := fun o o' => cell_al (cell_al p2 hqb o) (by simp; omega) o'
  have c3 := fun o o' => cell_al (cell_al p3 hqb o) (by simp; omega) o'
  have c4 := fun o o' => cell_al (cell_al p4 hqb o) (by simp; omega) o'
  have c5 := fun o o' => cell_al (cell_al p5 hqb o) (by simp; omega) o'
  have c6 := fun o o' => cell_al (cell_al p6 hqb o) (by simp; omega) o'
  have c7 := fun o o' => cell_al (cell_al p7 hqb o) (by simp; omega) o'
  clear p0 p1 p2 p3 p4 p5 p6 p7
  go_enter Tryd.func23, Tryd.ntmps23
  go_wp2
  refine bodyPost_ret (v := .tuple #[x.v, iv 0]) ?_ rfl ⟨rfl, (World.grownBy_alloc w _ none).trans (World.grownBy_alloc _ _ none)⟩
  simp [results, Tryd.results23, go_sem, AV.v]
end Go.Proofs.YtdfllhmkgphcmaaDoor
namespace Go.Proofs.YtdfllhmkgphcmaaDoor
open Go.RowKit

abbrev zMV : Value := .agg #[.slice none 0 0, .slice none 0 0, .slice none 0 0, .slice none 0 0, .int .i64 0, .int .u64 0, .bool false, .int .i64 0]
set_option maxRecDepth 100000 in
set_option maxHeartbeats 4000000 in
theorem stepS_end (M : AM) (w : World) (he : ended M.er = true) : Calls Tryd.prog 22 #[M.v] w fun e w' => e = .returned (.tuple #[zMV, iv 18]) ∧ w.grownBy w' none := by
  have xe : M.v = .agg #[.slice M.p.bA M.p.bs.length M.p.bc, .slice M.p.sA M.p.ss.length M.p.sc, .slice M.sA M.S.length M.sc, .slice M.fA M.F.length M.fc, iv M.steps, .int .u64 M.seed, .bool M.done, iv M.err] := rfl
  have EN := Lib.hid (fun w => ended_any M w)
  rw [he] at EN
  have HB := Lib.hid (B2.of w M)
  rw [xe]
  clear xe he
  go_enter Tryd.func22, Tryd.ntmps22
  go_wp2_with (go_at_call 36; refine (EN.out _).mono ?_; rintro e w1 ⟨rfl, g1⟩; have b1 := HB.out.grow g1; obtain ⟨⟨q0, q1, q2, q3, q4, q5, q6, q7⟩, qf⟩ := cells36 b1.k1; have B1 := Lib.hid b1; clear b1 g1)
  have W9 : Hid (w.grownBy (set36 w1 (w.heap.size + 1) (.slice none 0 0) (.slice none 0 0) (.slice none 0 0) (.slice none 0 0) (.int .i64 0) (.int .u64 0) (.bool false) (.int .i64 0)) none) := Lib.hid (by
    obtain ⟨h1, h2, h3, h4, h5⟩ := set36_ok w1 (w.heap.size + 1) (.slice none 0 0) (.slice none 0 0) (.slice none 0 0) (.slice none 0 0) (.int .i64 0) (.int .u64 0) (.bool false) (.int .i64 0)
    exact ⟨h1.trans B1.out.gr.os, h2.trans B1.out.gr.tape, h3.trans B1.out.gr.output, by rw [h4]; exact B1.out.gr.size, fun k hk hn => (h5 k (by omega)).trans (B1.out.gr.block k hk hn)⟩)
  refine bodyPost_ret (v := .tuple #[zMV, iv 18]) ?_ rfl ⟨rfl, W9.out⟩
  simp [results, Tryd.results22, go_sem, q0, q1, q2, q3, q4, q5, q6, q7]
set_option maxRecDepth 100000 in
set_option maxHeartbeats 8000000 in
theorem stepS_go (w0 : World) (tg : Nat → Tag) (M : AM) (w : World) (n : Nat) (hM : M.RdX w0 tg w) (he : ended M.er = false) (hI : MI n M.er) (hn : n ≤ 900000) (hst : M.steps ≤ 100000) :
    Calls Tryd.prog 22 #[M.v] w (RunP w0 tg M w (stepM M.er, 0)) := by
  have xe : M.v = .agg #[.slice M.p.bA M.p.bs.length M.p.bc, .slice M.p.sA M.p.ss.length M.p.sc, .slice M.sA M.S.length M.sc, .slice M.fA M.F.length M.fc, iv M.steps, .int .u64 M.seed, .bool M.done, iv M.err] := rfl
  have hF : M.F ≠ [] := fun e => by
    have h1 := hI.fd
    have h2 := (ended_no he).1
    have h3 : M.er.F = [] := by show M.F.map Fr.er = []; rw [e]; rfl
    rw [h2, h3] at h1
    simp at h1
  have hS1 : M.S.length ≤ 1000000 := by
    have h1 := hI.ok.1
    have h2 : M.er.S.length = M.S.length := ers_length M.S
    omega
  have hF1 : M.F.length ≤ 1000000 := by
    have h1 := hI.ok.2.1
    have h2 : M.er.F.length = M.F.length := List.length_map ..
    omega
  have NR := Lib.hid (fun W (hg : w.grownBy W none) => newRunner_any M w0 W tg (hM.grow hg) hF hS1 hF1)
  have HGR := Lib.hid hM.t
  have EN := Lib.hid (fun w => ended_any M w)
  have e0 := he
  rw [he] at EN
  have HB := Lib.hid (B2.of w M)
  have HM := Lib.hid hM
  have HI := Lib.hid hI
  have HE := Lib.hid he
  rw [xe]
  clear xe hM he e0 hI hF hS1 hF1
  go_enter Tryd.func22, Tryd.ntmps22
  go_wp2_with (first | (go_at_call 36; refine (EN.out _).mono ?_; rintro e w1 ⟨rfl, g1⟩; have b1 := HB.out.grow g1; obtain ⟨⟨p0, p1, p2, p3, p4, p5, p6, p7⟩, -⟩ := cells36 b1.k0; have B1 := Lib.hid b1; clear b1 g1) | (go_at_call 37; refine (NR.out _ B1.out.gr).mono ?_; rintro e w2 ⟨rb, tb, eb, mb, g, rfl, mr, tno, g2⟩; have rl0 : RL w0 tg M w rb tb eb mb 0 g w2 := ⟨mr, B1.out.gr.trans g2, fun k hk => tno _ (Nat.lt_of_lt_of_le hk B1.out.gr.size), fun j hj => by omega, (tno _ (heap_lt B1.out.k1)).trans (tg_out HGR.out (Nat.le_succ _)), (g2.block _ (heap_lt B1.out.k1) (by simp)).trans B1.out.k1⟩; have ST := Lib.hid (rl0.step HM.out HE.out HI.out (by omega) (by omega)); clear mr tno g2 rl0 p0 p1 p2 p3 p4 p5 p6 p7) | (go_at_call 38; refine ST.out.mono ?_; rintro e w4 ⟨rfl, g4, M4, rs⟩; obtain ⟨p0, p1, p2, p3, p4, p5, p6, p7⟩ := rs.mr.cs rs.a1 rs.a2 rs.a3 rs.a4; obtain ⟨⟨q0, q1, q2, q3, q4, q5, q6, q7⟩, qf⟩ := cells36 rs.k1; have R5 := Lib.hid rs; clear rs))
  have W9 := Lib.hid (R5.out.fin HM.out 0)
  refine bodyPost_ret (v := .tuple #[M4.v, iv 0]) ?_ rfl W9.out
  simp [results, Tryd.results22, go_sem, AM.v, q0, q1, q2, q3, q4, q5, q6, q7]
end Go.Proofs.YtdfllhmkgphcmaaDoor
namespace Go.Proofs.YtdfllhmkgphcmaaDoor
open Go.RowKit

/-- The block of a start. -/
def begB (ss : List Stt) (pk : T) (id : Int) : Option Int := (ss.find? fun s => decide (s.pack = pk) && (s.id == id)).map Stt.block
def zAM : AM := ⟨⟨none, 0, [], none, 0, []⟩, [], none, 0, [], none, 0, 0, 0, false, 0⟩
theorem zAM_rd (w : World) : zAM.Rd w := ⟨⟨.nil, by simp [zAM], .nil⟩, LRd.nil _ _ _, .nil, by simp [zAM], by simp [zAM], by simp [zAM], by simp [zAM]⟩
def bAM (p : Prg) (b seed : Int) (B : Nat) : AM := ⟨p, [], none, 0, [⟨b, 0, none, 0, []⟩], some ⟨B, 0, none⟩, 1, 0, seed, false, 0⟩
/-- What Begin answers. -/
def BegP (p : Prg) (pk : T) (id seed : Int) (w : World) (e : Ending) (w' : World) : Prop :=
  w.grownBy w' none ∧ ((errP p ≠ 0 ∧ e = .returned (.tuple #[zAM.v, iv 1])) ∨ (errP p = 0 ∧ begB p.ss pk id = none ∧ e = .returned (.tuple #[zAM.v, iv 8])) ∨
    ∃ b B, errP p = 0 ∧ begB p.ss pk id = some b ∧ e = .returned (.tuple #[(bAM p b seed B).v, iv 0]) ∧ w.heap.size ≤ B ∧ w'.heap[B]? = some (.cells #[iv b, iv 0, nilS] 78 (0, 0)))
/-- Memory of Begin. -/
structure BG (p : Prg) (pk : T) (id : Int) (w : World) (V : World) : Prop where
  gr : w.grownBy V none
  p0 : V.cell? ⟨w.heap.size, 0, none⟩ = some (.slice p.bA p.bs.length p.bc)
  p1 : V.cell? ⟨w.heap.size, 1, none⟩ = some (.slice p.sA p.ss.length p.sc)
  n0 : V.cell? ⟨w.heap.size + 1, 0, none⟩ = some (.string ⟨pk.toArray⟩)
  n1 : V.cell? ⟨w.heap.size + 1, 1, none⟩ = some (.int .i64 id)
  m : V.heap[w.heap.size + 2]? = some zM
theorem BG.of (p : Prg) (pk : T) (id : Int) (w : World) : BG p pk id w (((w.alloc (.cells #[.slice p.bA p.bs.length p.bc, .slice p.sA p.ss.length p.sc] 25)).alloc (.cells #[.string ⟨pk.toArray⟩, .int .i64 id] 31)).alloc zM) := by
  have h0 := al_new w (.cells #[.slice p.bA p.bs.length p.bc, .slice p.sA p.ss.length p.sc] 25)
  have h1 := al_new (w.alloc (.cells #[.slice p.bA p.bs.length p.bc, .slice p.sA p.ss.length p.sc] 25)) (.cells #[.string ⟨pk.toArray⟩, .int .i64 id] 31)
  have h2 := al_new ((w.alloc (.cells #[.slice p.bA p.bs.length p.bc, .slice p.sA p.ss.length p.sc] 25)).alloc (.cells #[.string ⟨pk.toArray⟩, .int .i64 id] 31)) zM
  have g0 := (Below.heap_alloc (w.alloc (.cells #[.slice p.bA p.bs.length p.bc, .slice p.sA p.ss.length p.sc] 25)) (.cells #[.string ⟨pk.toArray⟩, .int .i64 id] 31) _ (heap_lt h0)).trans h0
  have g1 := (Below.heap_alloc ((w.alloc (.cells #[.slice p.bA p.bs.length p.bc, .slice p.sA p.ss.length p.sc] 25)).alloc (.cells #[.string ⟨pk.toArray⟩, .int .i64 id] 31)) zM _ (heap_lt g0)).trans g0
  have g2 := (Below.heap_alloc ((w.alloc (.cells #[.slice p.bA p.bs.length p.bc, .slice p.sA p.ss.length p.sc] 25)).alloc (.cells #[.string ⟨pk.toArray⟩, .int .i64 id] 31)) zM _ (heap_lt h1)).trans h1
  have s1 : (w.alloc (.cells #[.slice p.bA p.bs.length p.bc, .slice p.sA p.ss.length p.sc] 25)).heap.size = w.heap.size + 1 := by simp
  have s2 : ((w.alloc (.cells #[.slice p.bA p.bs.length p.bc, .slice p.sA p.ss.length p.sc] 25)).alloc (.cells #[.string ⟨pk.toArray⟩, .int .i64 id] 31)).heap.size = w.heap.size + 2 := by simp
  rw [s1] at g2
  rw [s2] at h2
  refine ⟨((World.grownBy_alloc w _ none).trans (World.grownBy_alloc _ _ none)).trans (World.grownBy_alloc _ _ none), ?_, ?_, ?_, ?_, h2⟩
  · rw [Lib.cell_of_heap g1]; rfl
  · rw [Lib.cell_of_heap g1]; rfl
  · rw [Lib.cell_of_heap g2]; rfl
  · rw [Lib.cell_of_heap g2]; rfl
theorem BG.grow {p : Prg} {pk : T} {id : Int} {w V V' : World} (h : BG p pk id w V) (g : V.grownBy V' none) : BG p pk id w V' := by
  have l := heap_lt h.m
  have c : ∀ a : Addr, a.block < V.heap.size → V'.cell? a = V.cell? a := fun a ha => World.cell?_of_block (g.block _ ha (by simp))
  exact ⟨h.gr.trans g, (c _ (show w.heap.size < _ by omega)).trans h.p0, (c _ (show w.heap.size < _ by omega)).trans h.p1, (c _ (show w.heap.size + 1 < _ by omega)).trans h.n0, (c _ (show w.heap.size + 1 < _ by omega)).trans h.n1, (g.block _ l (by simp)).trans h.m⟩

theorem zmc : zM = .cells #[nilS, nilS, nilS, nilS, iv 0, .int .u64 0, .bool false, iv 0] 36 (0, 0) := rfl
theorem begB_none {ss : List Stt} {pk : T} {id : Int} (h : ∀ s ∈ ss, ¬ (s.pack = pk ∧ s.id = id)) : begB ss pk id = none := by
  unfold begB
  rw [Option.map_eq_none_iff, List.find?_eq_none]
  intro s hs
  have := h s hs
  simpa using this
theorem begB_at {ss : List Stt} {pk : T} {id : Int} {k : Nat} (hk : k < ss.length) (h : ∀ s ∈ ss.take k, ¬ (s.pack = pk ∧ s.id = id)) (he : ss[k].pack = pk ∧ ss[k].id = id) : begB ss pk id = some ss[k].block := by
  unfold begB
  have h1 : ss = ss.take k ++ ss[k] :: ss.drop (k + 1) := by rw [← List.drop_eq_getElem_cons hk, List.take_append_drop]
  have h2 : (ss.take k).find? (fun s => decide (s.pack = pk) && (s.id == id)) = none := by
    rw [List.find?_eq_none]
    intro s hs
    have := h s hs
    simpa using this
  obtain ⟨x, hx⟩ : ∃ x, x = ss[k] := ⟨_, rfl⟩
  rw [← hx] at h1 he ⊢
  rw [h1, List.find?_append, h2]
  simp only [Option.none_or]
  rw [List.find?_cons_of_pos]
  · simp
  · simp [he.1, he.2]
theorem not_succ {ss : List Stt} {pk : T} {id : Int} {k : Nat} (hk : k < ss.length) (h : ∀ s ∈ ss.take k, ¬ (s.pack = pk ∧ s.id = id)) (he : ¬ (ss[k].pack = pk ∧ ss[k].id = id)) : ∀ s ∈ ss.take (k + 1), ¬ (s.pack = pk ∧ s.id = id) := fun q hq => by
  rw [List.take_succ_eq_append_getElem hk] at hq
  rcases List.mem_append.1 hq with h' | h'
  · exact h q h'
  · rw [List.mem_singleton.1 h']; exact he
/-- The machine at the beginning lies in its one block of calls. -/
def tgB (B k : Nat) : Tag := if k = B then .all else .no
theorem bAM_rdX {p : Prg} {w0 w1 : World} {b seed : Int} {B : Nat} (hp : p.Rd w0) (hg : w0.grownBy w1 none) (hB0 : w0.heap.size ≤ B) (hB : w1.heap[B]? = some (.cells #[iv b, iv 0, nilS] 78 (0, 0))) : (bAM p b seed B).RdX w0 (tgB B) w1 := by
  have l := heap_lt hB
  have tB : tgB B B = .all := if_pos rfl
  refine ⟨hg, fun k => ?_, hp, LRd.nil _ _ _, .inr ⟨⟨B, 0, none⟩, rfl, l, ?_⟩, fun a e _ => ?_, by simp [bAM], by simp [bAM], by simp [bAM], fun f hf => ?_⟩
  · by_cases hk : k = B
    · subst hk; exact .inr ⟨hB0, l, tB⟩
    · exact .inl (if_neg hk)
  · intro j x hx i v hv
    simp only [bAM] at hx
    have hj : j = 0 := by
      rcases j with _ | j
      · rfl
      · simp at hx
    subst hj
    simp at hx
    subst hx
    simp only [Fr.cs] at hv
    rcases i with _ | _ | _ | i
    · simp at hv; subst hv; rw [show (⟨B, 0, none⟩ : Addr).add (0 * 3 + 0) = ⟨B, 0, none⟩ from rfl, Lib.cell_of_heap hB]; rfl
    · simp at hv; subst hv; rw [show (⟨B, 0, none⟩ : Addr).add (0 * 3 + 1) = ⟨B, 1, none⟩ from rfl, Lib.cell_of_heap hB]; rfl
    · simp at hv; subst hv; rw [show (⟨B, 0, none⟩ : Addr).add (0 * 3 + 2) = ⟨B, 2, none⟩ from rfl, Lib.cell_of_heap hB]; rfl
    · simp at hv
  · simp only [bAM] at e
    cases e
    exact .inr tB
  · simp only [bAM, List.mem_singleton] at hf
    subst hf
    exact LRd.nil _ _ _
theorem beg_fin {p : Prg} {pk : T} {id seed blk : Int} {w wr : World} (HB : BG p pk id w wr) (he : errP p = 0) (hb : begB p.ss pk id = some blk) (o : Obj) (x : Option Addr) (hx : p.sA = x) :
    BegP p pk id seed w (.returned (.tuple #[(bAM p blk seed (wr.heap.size + 1)).v, iv 0])) (set36 ((wr.alloc o).alloc (.cells #[iv blk, iv 0, nilS] 78)) (w.heap.size + 2) (.slice p.bA p.bs.length p.bc) (.slice x p.ss.length p.sc) nilS (.slice (some ⟨wr.heap.size + 1, 0, none⟩) 1 1) (iv 0) (.int .u64 seed) (.bool false) (iv 0)) := by
  subst hx
  have l := heap_lt HB.m
  have g := (HB.gr.trans (World.grownBy_alloc wr o none)).trans (World.grownBy_alloc _ (.cells #[iv blk, iv 0, nilS] 78) none)
  have k := al_new (wr.alloc o) (.cells #[iv blk, iv 0, nilS] 78)
  rw [show (wr.alloc o).heap.size = wr.heap.size + 1 by simp] at k
  obtain ⟨h1, h2, h3, h4, h5⟩ := set36_ok ((wr.alloc o).alloc (.cells #[iv blk, iv 0, nilS] 78)) (w.heap.size + 2) (.slice p.bA p.bs.length p.bc) (.slice p.sA p.ss.length p.sc) nilS (.slice (some ⟨wr.heap.size + 1, 0, none⟩) 1 1) (iv 0) (.int .u64 seed) (.bool false) (iv 0)
  have g' := grown_setM (m := w.heap.size + 2) g (by omega) (bAM p blk seed (wr.heap.size + 1))
  exact ⟨g', .inr (.inr ⟨blk, wr.heap.size + 1, he, hb, rfl, by omega, (h5 _ (by omega)).trans k⟩)⟩
end Go.Proofs.YtdfllhmkgphcmaaDoor
namespace Go.Proofs.YtdfllhmkgphcmaaDoor
open Go.RowKit

set_option maxRecDepth 100000 in
set_option maxHeartbeats 8000000 in
theorem begin_any (p : Prg) (pk : T) (id seed : Int) (w : World) (hp : p.Rd w) (hb : p.bs.length ≤ 9223372036854775807) (hs : p.ss.length ≤ 9223372036854775807) (hi : ∀ b ∈ p.bs, b.ins.length ≤ 9223372036854775807) (hnl : ∀ b ∈ p.bs, ∀ x ∈ b.ins, x.name.length ≤ 9223372036854775807) (hnp : ∀ s ∈ p.ss, s.pack.length ≤ 9223372036854775807) :
    Calls Tryd.prog 15 #[p.v, .agg #[tv pk, iv id], .int .u64 seed] w (BegP p pk id seed w) := by
  have CK := Lib.hid (fun V (h : w.grownBy V none) => check_any p V (hp.below ⟨h.os, h.tape, h.output, h.size, fun k hk => h.block k hk (by simp)⟩) hb hs hi hnl hnp)
  have HP := Lib.hid (fun V (h : w.grownBy V none) => hp.below (⟨h.os, h.tape, h.output, h.size, fun k hk => h.block k hk (by simp)⟩ : Below w.heap.size w V))
  have BG0 := Lib.hid (BG.of p pk id w)
  unfold Prg.v at *
  clear hp hi hnl hnp
  go_enter Tryd.func15, Tryd.ntmps15
  by_cases he : errP p = 0
  · rw [he] at CK
    have HE := Lib.hid he
    clear he
    go_wp2_with (go_at_call 12; refine (CK.out _ BG0.out.gr).mono ?_; rintro e w1 ⟨rfl, b1⟩; have bg := BG0.out.grow (grown_below b1 none); have BG1 := Lib.hid bg; obtain ⟨-, p0, p1, n0, n1, -⟩ := bg; clear b1)
    clear CK BG0
    have FB := Lib.hid (Nat.le_refl 0)
    go_loopw [9, 17] (fun _ i V => ∃ k : Nat, k ≤ p.ss.length ∧ i = .int .i64 k ∧ Hid (BG p pk id w V) ∧ Hid (∀ s ∈ p.ss.take k, ¬ (s.pack = pk ∧ s.id = id))) (fun _ i _ => p.ss.length - (intOf i).toNat)
    case atStart => exact ⟨0, Nat.zero_le _, rfl, BG1, Lib.hid (by simp)⟩
    case round =>
      clear BG1 p0 p1 n0 n1
      obtain ⟨k, hk, rfl, HB, HN⟩ := hrel
      by_cases hlt : k < p.ss.length
      · obtain ⟨a, a1, hA, ha, hab, c0, c1, c2⟩ := (HP.out _ HB.out.gr).s.stt hlt
        obtain ⟨s, hs'⟩ : ∃ s, s = p.ss[k] := ⟨_, rfl⟩
        rw [← hs'] at c0 c1 c2
        have HS := Lib.hid hs'
        have G1 := Lib.hid (fun o => HB.out.grow (World.grownBy_alloc wr o none))
        have G2 := Lib.hid (fun o o' => (HB.out.grow (World.grownBy_alloc wr o none)).grow (World.grownBy_alloc _ o' none))
        have a0 := fun o => (G1.out o).n0
        have a1' := fun o => (G1.out o).n1
        have a2 := fun o => (G1.out o).p0
        have a3 := fun o => (G1.out o).p1
        have m0 := fun o o' => (cells36 ((G2.out o o').m.trans (congrArg some zmc))).1.1
        have m1 := fun o o' => (cells36 ((G2.out o o').m.trans (congrArg some zmc))).1.2.1
        have m2 := fun o o' => (cells36 ((G2.out o o').m.trans (congrArg some zmc))).1.2.2.1
        have m3 := fun o o' => (cells36 ((G2.out o o').m.trans (congrArg some zmc))).1.2.2.2.1
        have m4 := fun o o' => (cells36 ((G2.out o o').m.trans (congrArg some zmc))).1.2.2.2.2.1
        have m5 := fun o o' => (cells36 ((G2.out o o').m.trans (congrArg some zmc))).1.2.2.2.2.2.1
        have m6 := fun o o' => (cells36 ((G2.out o o').m.trans (congrArg some zmc))).1.2.2.2.2.2.2.1
        have m7 := fun o o' => (cells36 ((G2.out o o').m.trans (congrArg some zmc))).1.2.2.2.2.2.2.2
        have mf := fun o o' => (cells36 ((G2.out o o').m.trans (congrArg some zmc))).2
        rw [hA] at a3 ⊢
        have HA := Lib.hid hA
        clear hs' hA
        go_wp2
        · rename_i z1 z2
          have hq := begB_at hlt HN.out (by rw [← HS.out]; exact ⟨z1, z2⟩)
          rw [← HS.out] at hq
          have W9 := Lib.hid (beg_fin (seed := seed) HB.out HE.out hq (.cells #[.string ⟨pk.toArray⟩, .int .i64 id, .int .i64 s.block] 69) _ HA.out)
          refine bodyPost_ret (v := .tuple #[(bAM p s.block seed (wr.heap.size + 1)).v, iv 0]) ?_ rfl W9.out
          simp [results, Tryd.results15, go_sem, AM.v, bAM, HA.out, m0, m1, m2, m3, m4, m5, m6, m7]
        · rename_i z1 z2
          exact ⟨⟨k + 1, by omega, by simp, Lib.hid (G1.out _), Lib.hid (not_succ hlt HN.out (by rw [← HS.out]; exact fun h => z2 h.2))⟩, by simp [intOf]; omega⟩
        · rename_i z1
          exact ⟨⟨k + 1, by omega, by simp, Lib.hid (G1.out _), Lib.hid (not_succ hlt HN.out (by rw [← HS.out]; exact fun h => z1 h.1))⟩, by simp [intOf]; omega⟩
      · obtain rfl : k = p.ss.length := by omega
        have hn := HN.out
        rw [List.take_length] at hn
        have h8 := begB_none hn
        obtain ⟨hg, -, -, -, -, km⟩ := HB.out
        rw [zmc] at km
        obtain ⟨⟨q0, q1, q2, q3, q4, q5, q6, q7⟩, qf⟩ := cells36 km
        have W9 : ∀ V, V = setM wr (w.heap.size + 2) zAM → Hid (BegP p pk id seed w (.returned (.tuple #[zAM.v, iv 8])) V) := fun V e => Lib.hid ⟨by rw [e]; exact grown_setM hg (by omega) zAM, .inr (.inl ⟨HE.out, h8, rfl⟩)⟩
        have W9 := Lib.hid W9
        clear hn h8 hg km HN HB
        go_wp2
        refine bodyPost_ret (v := .tuple #[zAM.v, iv 8]) ?_ rfl (W9.out _ rfl).out
        simp [results, Tryd.results15, go_sem, AM.v, zAM, q0, q1, q2, q3, q4, q5, q6, q7]
  · have HE := Lib.hid he
    have h1 : (errP p != 0) = true := by simpa using he
    obtain ⟨E, hE⟩ : ∃ E, E = errP p := ⟨_, rfl⟩
    rw [← hE] at CK h1
    clear he hE
    go_wp2_with (go_at_call 12; refine (CK.out _ BG0.out.gr).mono ?_; rintro e w1 ⟨rfl, b1⟩; have bg := BG0.out.grow (grown_below b1 none); have BG1 := Lib.hid bg; have km := bg.m; rw [zmc] at km; obtain ⟨⟨q0, q1, q2, q3, q4, q5, q6, q7⟩, qf⟩ := cells36 km; clear b1 bg km)
    have W9 : Hid (BegP p pk id seed w (.returned (.tuple #[zAM.v, iv 1])) (setM w1 (w.heap.size + 2) zAM)) := Lib.hid ⟨grown_setM BG1.out.gr (by omega) zAM, .inl ⟨HE.out, rfl⟩⟩
    refine bodyPost_ret (v := .tuple #[zAM.v, iv 1]) ?_ rfl W9.out
    simp [results, Tryd.results15, go_sem, AM.v, zAM, q0, q1, q2, q3, q4, q5, q6, q7]
end Go.Proofs.YtdfllhmkgphcmaaDoor
namespace Go.Proofs.YtdfllhmkgphcmaaDoor
open Go.RowKit

/-- What start answers. -/
def StaP (p : Prg) (seed : Int) (w : World) (e : Ending) (w' : World) : Prop :=
  w.grownBy w' none ∧ (((p.ss = [] ∨ errP p ≠ 0) ∧ e = .returned (.tuple #[zAM.v, .bool false])) ∨
    ∃ s ss B, p.ss = s :: ss ∧ errP p = 0 ∧ e = .returned (.tuple #[(bAM p s.block seed B).v, .bool true]) ∧ w.heap.size ≤ B ∧ w'.heap[B]? = some (.cells #[iv s.block, iv 0, nilS] 78 (0, 0)))
structure SG (p : Prg) (w : World) (V : World) : Prop where
  gr : w.grownBy V none
  p0 : V.cell? ⟨w.heap.size, 0, none⟩ = some (.slice p.bA p.bs.length p.bc)
  p1 : V.cell? ⟨w.heap.size, 1, none⟩ = some (.slice p.sA p.ss.length p.sc)
  m : V.heap[w.heap.size + 1]? = some zM
theorem SG.of (p : Prg) (w : World) : SG p w ((w.alloc (.cells #[.slice p.bA p.bs.length p.bc, .slice p.sA p.ss.length p.sc] 25)).alloc zM) := by
  have h0 := al_new w (.cells #[.slice p.bA p.bs.length p.bc, .slice p.sA p.ss.length p.sc] 25)
  have h1 := al_new (w.alloc (.cells #[.slice p.bA p.bs.length p.bc, .slice p.sA p.ss.length p.sc] 25)) zM
  have g0 := (Below.heap_alloc (w.alloc (.cells #[.slice p.bA p.bs.length p.bc, .slice p.sA p.ss.length p.sc] 25)) zM _ (heap_lt h0)).trans h0
  have s1 : (w.alloc (.cells #[.slice p.bA p.bs.length p.bc, .slice p.sA p.ss.length p.sc] 25)).heap.size = w.heap.size + 1 := by simp
  rw [s1] at h1
  refine ⟨(World.grownBy_alloc w _ none).trans (World.grownBy_alloc _ _ none), ?_, ?_, h1⟩
  · rw [Lib.cell_of_heap g0]; rfl
  · rw [Lib.cell_of_heap g0]; rfl
theorem SG.grow {p : Prg} {w V V' : World} (h : SG p w V) (g : V.grownBy V' none) : SG p w V' := by
  have l := heap_lt h.m
  have c : ∀ a : Addr, a.block < V.heap.size → V'.cell? a = V.cell? a := fun a ha => World.cell?_of_block (g.block _ ha (by simp))
  exact ⟨h.gr.trans g, (c _ (show w.heap.size < _ by omega)).trans h.p0, (c _ (show w.heap.size < _ by omega)).trans h.p1, (g.block _ l (by simp)).trans h.m⟩

set_option maxRecDepth 100000 in
set_option maxHeartbeats 1000000 in
theorem start_no (p : Prg) (seed : Int) (w : World) (he : p.ss = []) : Calls Tryd.prog 18 #[p.v, .int .u64 seed] w (StaP p seed w) := by
  have sg0 := SG.of p w
  have HE := Lib.hid he
  obtain ⟨N, hN⟩ : ∃ N, N = p.ss.length := ⟨_, rfl⟩
  have h0 : N = 0 := by rw [hN, he]; rfl
  unfold Prg.v at *
  rw [← hN] at sg0 ⊢
  clear he hN
  subst h0
  have g0 := sg0.gr
  have W9 : Hid (StaP p seed w (.returned (.tuple #[zAM.v, .bool false])) ((w.alloc (.cells #[.slice p.bA p.bs.length p.bc, .slice p.sA 0 p.sc] 25)).alloc zM)) := Lib.hid ⟨g0, .inl ⟨.inl HE.out, rfl⟩⟩
  clear sg0 g0
  go_enter Tryd.func18, Tryd.ntmps18
  go_wp2
  refine bodyPost_ret (v := .tuple #[zAM.v, .bool false]) ?_ rfl W9.out
  simp [results, Tryd.results18, go_sem, AM.v, zAM]
end Go.Proofs.YtdfllhmkgphcmaaDoor
namespace Go.Proofs.YtdfllhmkgphcmaaDoor
open Go.RowKit

theorem grown_drew (w : World) : w.grownBy w.drew none := grown_drewN w 1 none
def BegR (p : Prg) (s : Stt) (seed : Int) (w : World) (M : AM) (E : Int) (w' : World) : Prop :=
  (errP p ≠ 0 ∧ M = zAM ∧ E = 1) ∨ ∃ B, errP p = 0 ∧ M = bAM p s.block seed B ∧ E = 0 ∧ w.heap.size ≤ B ∧ w'.heap[B]? = some (.cells #[iv s.block, iv 0, nilS] 78 (0, 0))
theorem BegP.one {p : Prg} {s : Stt} {ss : List Stt} {seed : Int} {w : World} {e : Ending} {w' : World} (h : BegP p s.pack s.id seed w e w') (hs : p.ss = s :: ss) : w.grownBy w' none ∧ ∃ (M : AM) (E : Int), e = .returned (.tuple #[.agg #[.slice M.p.bA M.p.bs.length M.p.bc, .slice M.p.sA M.p.ss.length M.p.sc, .slice M.sA M.S.length M.sc, .slice M.fA M.F.length M.fc, iv M.steps, .int .u64 M.seed, .bool M.done, iv M.err], iv E]) ∧ BegR p s seed w M E w' := by
  have hb : begB p.ss s.pack s.id = some s.block := by simp [begB, hs]
  obtain ⟨h1, ⟨h2, rfl⟩ | ⟨h2, h3, rfl⟩ | ⟨b, B, h2, h3, rfl, h4, h5⟩⟩ := h
  · exact ⟨h1, zAM, 1, rfl, .inl ⟨h2, rfl, rfl⟩⟩
  · rw [hb] at h3; cases h3
  · rw [hb] at h3
    cases h3
    exact ⟨h1, bAM p s.block seed B, 0, rfl, .inr ⟨B, h2, rfl, rfl, h4, h5⟩⟩
theorem BegR.fin {p : Prg} {s : Stt} {ss : List Stt} {seed : Int} {w w1 w2 w3 : World} {M : AM} {E : Int} (h : BegR p s seed w1 M E w2) (hs : p.ss = s :: ss) (hw : w.heap.size ≤ w1.heap.size) (hg : w.grownBy w3 none) (hk : ∀ B, w1.heap.size ≤ B → ∀ o, w2.heap[B]? = some o → w3.heap[B]? = some o) :
    StaP p seed w (.returned (.tuple #[M.v, .bool (E == 0)])) w3 := by
  rcases h with ⟨h2, rfl, rfl⟩ | ⟨B, h2, rfl, rfl, h4, h5⟩
  · exact ⟨hg, .inl ⟨.inr h2, rfl⟩⟩
  · exact ⟨hg, .inr ⟨s, ss, B, hs, h2, rfl, by omega, hk B h4 _ h5⟩⟩
theorem setM_at {w : World} {m k : Nat} {M : AM} (h : k ≠ m) : (setM w m M).heap[k]? = w.heap[k]? := (set36_ok w m (.slice M.p.bA M.p.bs.length M.p.bc) (.slice M.p.sA M.p.ss.length M.p.sc) (.slice M.sA M.S.length M.sc) (.slice M.fA M.F.length M.fc) (iv M.steps) (.int .u64 M.seed) (.bool M.done) (iv M.err)).2.2.2.2 k h
theorem BegR.finA {p : Prg} {s : Stt} {ss : List Stt} {seed : Int} {w w1 w2 : World} {M : AM} {E : Int} (h : BegR p s seed w1 M E w2) (hs : p.ss = s :: ss) (hg : w.grownBy w2 none) {m : Nat} (h1 : w.heap.size ≤ m) (hm : m < w1.heap.size) (o : Obj) :
    StaP p seed w (.returned (.tuple #[M.v, .bool (E == 0)])) (setM (w2.alloc o) m M) :=
  h.fin hs (by omega) (grown_setM (hg.trans (World.grownBy_alloc _ o none)) h1 M) fun B hB o' ho => (setM_at (by omega)).trans ((Below.heap_alloc _ _ _ (heap_lt ho)).trans ho)
theorem BegR.finB {p : Prg} {s : Stt} {ss : List Stt} {seed : Int} {w w1 w2 : World} {M : AM} {E : Int} (h : BegR p s seed w1 M E w2) (hs : p.ss = s :: ss) (hg : w.grownBy w2 none) {m m' : Nat} (h1 : w.heap.size ≤ m) (hm : m < w1.heap.size) (h2 : w.heap.size ≤ m') (hm' : m' < w1.heap.size) :
    StaP p seed w (.returned (.tuple #[M.v, .bool (E == 0)])) (setM (setM w2 m' M) m M) :=
  h.fin hs (by omega) (grown_setM (grown_setM hg h2 M) h1 M) fun B hB o' ho => (setM_at (by omega)).trans ((setM_at (by omega)).trans ho)

set_option maxRecDepth 100000 in
set_option maxHeartbeats 8000000 in
theorem start_some (p : Prg) (seed : Int) (w : World) (s : Stt) (ss : List Stt) (hs : p.ss = s :: ss) (hp : p.Rd w)
    (BEG : ∀ V, w.grownBy V none → Calls Tryd.prog 15 #[p.v, .agg #[tv s.pack, iv s.id], .int .u64 seed] V (BegP p s.pack s.id seed V)) : Calls Tryd.prog 18 #[p.v, .int .u64 seed] w (StaP p seed w) := by
  have SG0 := Lib.hid (SG.of p w)
  have BG := Lib.hid BEG
  have HS := Lib.hid hs
  have hlt : 0 < p.ss.length := by rw [hs]; simp
  have he0 : p.ss[0] = s := by simp [hs]
  obtain ⟨a, a1, hA, ha, hab, c0, c1, -⟩ := hp.s.stt hlt
  rw [he0] at c0 c1
  have HA := Lib.hid hA
  have ha0 : a1 = a := by rw [← ha]; simp [Addr.add]
  have HP := Lib.hid hp
  subst ha0
  have e1 : (p.ss.length == 0) = false := by rw [hs]; simp
  obtain ⟨N, hN⟩ : ∃ N, N = p.ss.length := ⟨_, rfl⟩
  have HN := Lib.hid hN
  unfold Prg.v at *
  rw [hA, ← hN] at SG0 BG ⊢
  rw [← hN] at hlt
  clear hs he0 hA ha BEG hp hN e1
  have e2 : (0 : Int) < N := by omega
  have e3 : ¬ ((N : Int) = 0) := by omega
  have e3' : ((N : Int) == 0) = false := by simpa using e3
  go_enter Tryd.func18, Tryd.ntmps18
  go_wp2
  have sg := SG0.out
  have KS := Lib.hid (fun (V V' : World) (g : V.grownBy V' none) (h : V.cell? ⟨w.heap.size, 0, none⟩ = some (.slice p.bA p.bs.length p.bc) ∧ V.cell? ⟨w.heap.size, 1, none⟩ = some (.slice (some a1) N p.sc) ∧ V.cell? a1 = some (.string ⟨s.pack.toArray⟩) ∧ V.cell? ⟨a1.block, a1.off + 1, none⟩ = some (.int .i64 s.id) ∧ Hid (w.grownBy V none ∧ V.heap[w.heap.size + 1]? = some (.cells #[nilS, nilS, nilS, nilS, iv 0, .int .u64 0, .bool false, iv 0] 36 (0, 0)))) => (by
    have l := heap_lt h.2.2.2.2.out.2
    have c : ∀ a : Addr, a.block < V.heap.size → V'.cell? a = V.cell? a := fun a ha => World.cell?_of_block (g.block _ ha (by simp))
    exact ⟨(c _ (show w.heap.size < _ by omega)).trans h.1, (c _ (show w.heap.size < _ by omega)).trans h.2.1, (c _ (by omega)).trans h.2.2.1, (c ⟨a1.block, a1.off + 1, none⟩ (show a1.block < V.heap.size by omega)).trans h.2.2.2.1, Lib.hid ⟨h.2.2.2.2.out.1.trans g, (g.block _ l (by simp)).trans h.2.2.2.2.out.2⟩⟩ : V'.cell? ⟨w.heap.size, 0, none⟩ = some (.slice p.bA p.bs.length p.bc) ∧ V'.cell? ⟨w.heap.size, 1, none⟩ = some (.slice (some a1) N p.sc) ∧ V'.cell? a1 = some (.string ⟨s.pack.toArray⟩) ∧ V'.cell? ⟨a1.block, a1.off + 1, none⟩ = some (.int .i64 s.id) ∧ Hid (w.grownBy V' none ∧ V'.heap[w.heap.size + 1]? = some (.cells #[nilS, nilS, nilS, nilS, iv 0, .int .u64 0, .bool false, iv 0] 36 (0, 0)))))
  have S0 : Hid (((w.alloc (.cells #[.slice p.bA p.bs.length p.bc, .slice (some a1) N p.sc] 25)).alloc zM).cell? ⟨w.heap.size, 0, none⟩ = some (.slice p.bA p.bs.length p.bc) ∧ ((w.alloc (.cells #[.slice p.bA p.bs.length p.bc, .slice (some a1) N p.sc] 25)).alloc zM).cell? ⟨w.heap.size, 1, none⟩ = some (.slice (some a1) N p.sc) ∧ ((w.alloc (.cells #[.slice p.bA p.bs.length p.bc, .slice (some a1) N p.sc] 25)).alloc zM).cell? a1 = some (.string ⟨s.pack.toArray⟩) ∧ ((w.alloc (.cells #[.slice p.bA p.bs.length p.bc, .slice (some a1) N p.sc] 25)).alloc zM).cell? ⟨a1.block, a1.off + 1, none⟩ = some (.int .i64 s.id) ∧ Hid (w.grownBy ((w.alloc (.cells #[.slice p.bA p.bs.length p.bc, .slice (some a1) N p.sc] 25)).alloc zM) none ∧ ((w.alloc (.cells #[.slice p.bA p.bs.length p.bc, .slice (some a1) N p.sc] 25)).alloc zM).heap[w.heap.size + 1]? = some (.cells #[nilS, nilS, nilS, nilS, iv 0, .int .u64 0, .bool false, iv 0] 36 (0, 0)))) := Lib.hid ⟨sg.p0, by have h1 := sg.p1; rw [HA.out, ← HN.out] at h1; exact h1, cell_al (cell_al c0 hab _) (by simp; omega) _, cell_al (cell_al c1 (show (⟨a1.block, a1.off + 1, none⟩ : Addr).block < _ from hab) _) (show a1.block < _ by simp; omega) _, Lib.hid ⟨sg.gr, sg.m⟩⟩
  have GR := Lib.hid (⟨sg.gr.trans (grown_drew _), fun o => (sg.gr.trans (World.grownBy_alloc _ o none)).trans (grown_drew _)⟩ : _ ∧ ∀ o, _)
  have L6 : Hid ((((w.alloc (.cells #[.slice p.bA p.bs.length p.bc, .slice (some a1) N p.sc] 25)).alloc zM).alloc zM).drew.heap[w.heap.size + 1 + 1]? = some (.cells #[nilS, nilS, nilS, nilS, iv 0, .int .u64 0, .bool false, iv 0] 36 (0, 0))) := Lib.hid (by show (World.alloc _ zM).heap[w.heap.size + 1 + 1]? = _; simpa [zmc] using al_new ((w.alloc (.cells #[.slice p.bA p.bs.length p.bc, .slice (some a1) N p.sc] 25)).alloc zM) zM)
  have KM := Lib.hid (fun (W : World) (M : AM) (g : (((w.alloc (.cells #[.slice p.bA p.bs.length p.bc, .slice (some a1) N p.sc] 25)).alloc zM).alloc zM).drew.grownBy W none) => KS.out _ (setM W (w.heap.size + 1 + 1) M) (grown_setM (((World.grownBy_alloc ((w.alloc (.cells #[.slice p.bA p.bs.length p.bc, .slice (some a1) N p.sc] 25)).alloc zM) zM none).trans (grown_drew _)).trans g) (by simp) M) S0.out)
  simp only [setM, set36, zmc] at KM S0 GR L6
  clear sg
  go_region_held3 (fun W => W.cell? ⟨w.heap.size, 0, none⟩ = some (.slice p.bA p.bs.length p.bc) ∧ W.cell? ⟨w.heap.size, 1, none⟩ = some (.slice (some a1) N p.sc) ∧ W.cell? a1 = some (.string ⟨s.pack.toArray⟩) ∧ W.cell? ⟨a1.block, a1.off + 1, none⟩ = some (.int .i64 s.id) ∧ Hid (w.grownBy W none ∧ W.heap[w.heap.size + 1]? = some (.cells #[nilS, nilS, nilS, nilS, iv 0, .int .u64 0, .bool false, iv 0] 36 (0, 0)))) (with_reducible first | exact KM.out _ _ (by assumption) | (refine KS.out _ _ ?_ S0.out; first | exact grown_drew _ | exact (World.grownBy_alloc _ _ none).trans (grown_drew _) | exact (grown_drew _).trans (by assumption) | exact ((grown_drew _).trans (by assumption)).trans (World.grownBy_alloc _ _ none) | exact ((World.grownBy_alloc _ _ none).trans (grown_drew _)).trans (by assumption))) (first | (go_at_call 15; refine (BG.out _ (by first | exact GR.out.1 | exact GR.out.2 _)).mono ?_; rintro e w1 hbp; obtain ⟨hg, M, E, rfl, hbr⟩ := hbp.one HS.out; have HR := Lib.hid hbr; clear hbp hbr; try (have l6 := (hg.block (w.heap.size + 1 + 1) (by simp) (by simp)).trans L6.out; obtain ⟨⟨q0, q1, q2, q3, q4, q5, q6, q7⟩, qf⟩ := cells36 l6; clear l6)))
  all_goals
    have hk : w1.heap[w.heap.size + 1]? = some (.cells #[nilS, nilS, nilS, nilS, iv 0, .int .u64 0, .bool false, iv 0] 36 (0, 0)) := (by first | exact (KS.out _ _ ((grown_drew _).trans hg) S0.out).2.2.2.2.out.2 | exact (KS.out _ _ (((World.grownBy_alloc _ _ none).trans (grown_drew _)).trans hg) S0.out).2.2.2.2.out.2)
    have hgw : w.grownBy w1 none := (by first | exact (KS.out _ _ ((grown_drew _).trans hg) S0.out).2.2.2.2.out.1 | exact (KS.out _ _ (((World.grownBy_alloc _ _ none).trans (grown_drew _)).trans hg) S0.out).2.2.2.2.out.1)
    obtain ⟨⟨m0, m1, m2, m3, m4, m5, m6, m7⟩, mf⟩ := cells36 hk
    have hko := fun o => (Below.heap_alloc w1 o _ (heap_lt hk)).trans hk
    have n0 := fun o => (cells36 (hko o)).1.1
    have n1 := fun o => (cells36 (hko o)).1.2.1
    have n2 := fun o => (cells36 (hko o)).1.2.2.1
    have n3 := fun o => (cells36 (hko o)).1.2.2.2.1
    have n4 := fun o => (cells36 (hko o)).1.2.2.2.2.1
    have n5 := fun o => (cells36 (hko o)).1.2.2.2.2.2.1
    have n6 := fun o => (cells36 (hko o)).1.2.2.2.2.2.2.1
    have n7 := fun o => (cells36 (hko o)).1.2.2.2.2.2.2.2
    have nf := fun o => (cells36 (hko o)).2
    have W9 := Lib.hid hgw
    clear hk hko hgw KS S0 GR L6 KM BG
    go_wp2
  · refine bodyPost_ret (v := .tuple #[M.v, .bool (E == 0)]) ?_ rfl (HR.out.finA HS.out W9.out (Nat.le_succ _) (by simp) _)
    simp [results, Tryd.results18, go_sem, AM.v, n0, n1, n2, n3, n4, n5, n6, n7]
  · refine bodyPost_ret (v := .tuple #[M.v, .bool (E == 0)]) ?_ rfl (HR.out.finB HS.out W9.out (m' := w.heap.size + 1 + 1) (Nat.le_succ _) (by simp) (by omega) (by simp))
    simp [results, Tryd.results18, go_sem, AM.v, m0, m1, m2, m3, m4, m5, m6, m7]
/-- A program whose lengths are numbers. -/
structure LenP (p : Prg) : Prop where
  b : p.bs.length ≤ 9223372036854775807
  s : p.ss.length ≤ 9223372036854775807
  i : ∀ b ∈ p.bs, b.ins.length ≤ 9223372036854775807
  n : ∀ b ∈ p.bs, ∀ x ∈ b.ins, x.name.length ≤ 9223372036854775807
  k : ∀ s ∈ p.ss, s.pack.length ≤ 9223372036854775807
theorem start_any (p : Prg) (seed : Int) (w : World) (hp : p.Rd w) (hl : LenP p) : Calls Tryd.prog 18 #[p.v, .int .u64 seed] w (StaP p seed w) := by
  cases hs : p.ss with
  | nil => exact start_no p seed w hs
  | cons s ss => exact start_some p seed w s ss hs hp fun V hg => begin_any p s.pack s.id seed V (hp.below ⟨hg.os, hg.tape, hg.output, hg.size, fun k hk => hg.block k hk (by simp)⟩) hl.b hl.s hl.i hl.n hl.k
end Go.Proofs.YtdfllhmkgphcmaaDoor
namespace Go.Proofs.YtdfllhmkgphcmaaDoor
open Go.RowKit

/-- A program with one plain block. -/
def plP (A : Option Addr) (c : Nat) (L : List Ins) (B1 B2 : Nat) : Prg := ⟨some ⟨B1, 0, none⟩, 1, [⟨0, false, A, c, L⟩], some ⟨B2, 0, none⟩, 1, [⟨[109], 1, 0⟩]⟩
theorem plP_rd {A : Option Addr} {c : Nat} {L : List Ins} {B1 B2 : Nat} {w : World} {t1 t2 : TypeId} (hL : RD 4 Ins.cs w A L) (h1 : w.heap[B1]? = some (.cells #[iv 0, .bool false, .slice A L.length c] t1 (0, 0))) (h2 : w.heap[B2]? = some (.cells #[tv [109], iv 1, iv 0] t2 (0, 0))) : (plP A c L B1 B2).Rd w := by
  refine ⟨.inr ⟨⟨B1, 0, none⟩, rfl, heap_lt h1, ?_⟩, fun x hx => ?_, .inr ⟨⟨B2, 0, none⟩, rfl, heap_lt h2, ?_⟩⟩
  · intro j x hx i v hv
    simp only [plP] at hx
    have hj : j = 0 := by
      rcases j with _ | j
      · rfl
      · simp at hx
    subst hj
    simp at hx
    subst hx
    simp only [Blk.cs] at hv
    rcases i with _ | _ | _ | i
    · simp at hv; subst hv; rw [show (⟨B1, 0, none⟩ : Addr).add (0 * 3 + 0) = ⟨B1, 0, none⟩ from rfl, Lib.cell_of_heap h1]; rfl
    · simp at hv; subst hv; rw [show (⟨B1, 0, none⟩ : Addr).add (0 * 3 + 1) = ⟨B1, 1, none⟩ from rfl, Lib.cell_of_heap h1]; rfl
    · simp at hv; subst hv; rw [show (⟨B1, 0, none⟩ : Addr).add (0 * 3 + 2) = ⟨B1, 2, none⟩ from rfl, Lib.cell_of_heap h1]; rfl
    · simp at hv
  · simp only [plP, List.mem_singleton] at hx
    subst hx
    exact hL
  · intro j x hx i v hv
    simp only [plP] at hx
    have hj : j = 0 := by
      rcases j with _ | j
      · rfl
      · simp at hx
    subst hj
    simp at hx
    subst hx
    simp only [Stt.cs] at hv
    rcases i with _ | _ | _ | i
    · simp at hv; subst hv; rw [show (⟨B2, 0, none⟩ : Addr).add (0 * 3 + 0) = ⟨B2, 0, none⟩ from rfl, Lib.cell_of_heap h2]; rfl
    · simp at hv; subst hv; rw [show (⟨B2, 0, none⟩ : Addr).add (0 * 3 + 1) = ⟨B2, 1, none⟩ from rfl, Lib.cell_of_heap h2]; rfl
    · simp at hv; subst hv; rw [show (⟨B2, 0, none⟩ : Addr).add (0 * 3 + 2) = ⟨B2, 2, none⟩ from rfl, Lib.cell_of_heap h2]; rfl
    · simp at hv

set_option maxRecDepth 100000 in
set_option maxHeartbeats 4000000 in
theorem plainL_any (A : Option Addr) (c : Nat) (L : List Ins) (w : World) (hL : RD 4 Ins.cs w A L) :
    Calls Tryd.prog 21 #[.slice A L.length c] w fun e w' => w.grownBy w' none ∧ ∃ B1 B2, e = .returned (plP A c L B1 B2).v ∧ (plP A c L B1 B2).Rd w' := by
  have HL := Lib.hid hL
  clear hL
  generalize hn : L.length = n at *
  have HN := Lib.hid hn
  clear hn
  go_enter Tryd.func21, Tryd.ntmps21
  go_wp2
  have k1 := al_new (w.alloc (Obj.cells #[Value.slice (some { block := w.heap.size + 1, off := 0 }) 1 1, Value.slice (some { block := w.heap.size + 1 + 1, off := 0 }) 1 1] 25)) (Obj.cells #[Value.int IntKind.i64 0, Value.bool false, Value.slice A n c] 43)
  have k2 := al_new ((w.alloc (Obj.cells #[Value.slice (some { block := w.heap.size + 1, off := 0 }) 1 1, Value.slice (some { block := w.heap.size + 1 + 1, off := 0 }) 1 1] 25)).alloc (Obj.cells #[Value.int IntKind.i64 0, Value.bool false, Value.slice A n c] 43)) (Obj.cells #[Value.string { data := #[109] }, Value.int IntKind.i64 1, Value.int IntKind.i64 0] 69)
  have k3 := (Below.heap_alloc _ (Obj.cells #[Value.string { data := #[109] }, Value.int IntKind.i64 1, Value.int IntKind.i64 0] 69) _ (heap_lt k1)).trans k1
  rw [show (w.alloc (Obj.cells #[Value.slice (some { block := w.heap.size + 1, off := 0 }) 1 1, Value.slice (some { block := w.heap.size + 1 + 1, off := 0 }) 1 1] 25)).heap.size = w.heap.size + 1 by simp] at k3
  rw [show ((w.alloc (Obj.cells #[Value.slice (some { block := w.heap.size + 1, off := 0 }) 1 1, Value.slice (some { block := w.heap.size + 1 + 1, off := 0 }) 1 1] 25)).alloc (Obj.cells #[Value.int IntKind.i64 0, Value.bool false, Value.slice A n c] 43)).heap.size = w.heap.size + 1 + 1 by simp] at k2
  have gr := ((World.grownBy_alloc w (Obj.cells #[Value.slice (some { block := w.heap.size + 1, off := 0 }) 1 1, Value.slice (some { block := w.heap.size + 1 + 1, off := 0 }) 1 1] 25) none).trans (World.grownBy_alloc _ (Obj.cells #[Value.int IntKind.i64 0, Value.bool false, Value.slice A n c] 43) none)).trans (World.grownBy_alloc _ (Obj.cells #[Value.string { data := #[109] }, Value.int IntKind.i64 1, Value.int IntKind.i64 0] 69) none)
  have W9 := Lib.hid (show _ ∧ ∃ B1 B2, Ending.returned (.agg #[Value.slice (some { block := w.heap.size + 1, off := 0 }) 1 1, Value.slice (some { block := w.heap.size + 1 + 1, off := 0 }) 1 1]) = .returned (plP A c L B1 B2).v ∧ (plP A c L B1 B2).Rd _ from ⟨gr, _, _, rfl, plP_rd (HL.out.below ⟨gr.os, gr.tape, gr.output, gr.size, fun k hk => gr.block k hk (by simp)⟩) (by rw [HN.out]; exact k3) k2⟩)
  clear k1 k2 k3 gr
  refine bodyPost_ret (v := .agg #[Value.slice (some { block := w.heap.size + 1, off := 0 }) 1 1, Value.slice (some { block := w.heap.size + 1 + 1, off := 0 }) 1 1]) ?_ rfl W9.out
  simp [results, Tryd.results21, go_sem]
end Go.Proofs.YtdfllhmkgphcmaaDoor
namespace Go.Proofs.YtdfllhmkgphcmaaDoor

theorem fe_zero : ∀ {l : List Int}, fe l = 0 → ∀ x ∈ l, x = 0
  | [], _, x, h => by simp at h
  | y :: l, e, x, h => by
    by_cases hy : y = 0
    · simp only [fe, if_pos hy] at e
      rcases List.mem_cons.1 h with rfl | h
      · exact hy
      · exact fe_zero e x h
    · simp only [fe, if_neg hy] at e
      exact absurd e hy
theorem fe_all : ∀ {l : List Int}, (∀ x ∈ l, x = 0) → fe l = 0
  | [], _ => rfl
  | y :: l, h => by
    have := h y (by simp)
    subst this
    simp only [fe, if_true]
    exact fe_all fun x hx => h x (by simp [hx])
theorem ckI_ok {bs : List Blk} {nb : Nat} {x : Ins} (h : ckI bs nb x.op x.a x.b x.name = 0) : vIns bs nb x := by
  unfold ckI ckB at h
  split at h
  · cases h
  · split at h
    · cases h
    · split at h
      · cases h
      · split at h
        · cases h
        · rename_i h1 _ _ h2
          exact ⟨by simpa using h1, by simpa using h2⟩
theorem errP_parts {p : Prg} (h : errP p = 0) : p.bs.length ≤ 2000 ∧ cntW p.bs ≤ 20000 ∧ (∀ b ∈ p.bs, errB p.bs b = 0) ∧ ∀ i, i < p.ss.length → errS p.bs p.ss i = 0 := by
  unfold errP at h
  split at h
  · cases h
  · rename_i h1
    split at h
    · rename_i h2; exact absurd h h2
    · rename_i h2
      refine ⟨by omega, by omega, fun b hb => ?_, fun i hi => ?_⟩
      · exact fe_zero (Decidable.not_not.1 h2) _ (List.mem_map.2 ⟨b, hb, rfl⟩)
      · exact fe_zero h _ (List.mem_map.2 ⟨i, by simpa using hi, rfl⟩)
theorem errP_vBs {p : Prg} (h : errP p = 0) : vBs p.bs := by
  intro b hb x hx
  have h1 := (errP_parts h).2.2.1 b hb
  unfold errB at h1
  split at h1
  · cases h1
  · exact ckI_ok (fe_zero h1 _ (List.mem_map.2 ⟨x, hx, rfl⟩))
theorem errP_start {p : Prg} {s : Stt} {ss : List Stt} (h : errP p = 0) (hs : p.ss = s :: ss) : plainB p.bs s.block = true := by
  have h1 := (errP_parts h).2.2.2 0 (by rw [hs]; simp)
  unfold errS at h1
  rw [hs] at h1
  simp only [List.getElem?_cons_zero] at h1
  split at h1
  · cases h1
  · split at h1
    · cases h1
    · rename_i h2
      simp only [not_or] at h2
      simpa using h2.2.2
theorem bAM_MI {p : Prg} {s : Stt} {ss : List Stt} (h : errP p = 0) (hs : p.ss = s :: ss) (hl : ∀ b ∈ p.bs, b.ins.length ≤ 9223372036854775807) (seed : Int) (B : Nat) : MI 1 (bAM p s.block seed B).er := by
  have h1 := errP_start h hs
  unfold plainB at h1
  simp only [Bool.and_eq_true, decide_eq_true_eq] at h1
  obtain ⟨h1, h2⟩ := h1
  refine ⟨⟨by simp [bAM, AM.er], by simp [bAM, AM.er], by simp [bAM, AM.er], fun f hf => ?_⟩, errP_vBs h, hl, by simp [bAM, AM.er], rfl, fun h => by simp [bAM, AM.er] at h⟩
  simp only [bAM, AM.er, List.map_cons, List.map_nil, List.mem_singleton] at hf
  subst hf
  refine ⟨h1, ?_, by simp [Fr.er, ers], by simp [Fr.er, ers]⟩
  show ∃ b, p.bs[s.block.toNat]? = some b ∧ _
  cases hq : p.bs[s.block.toNat]? with
  | none => rw [hq] at h2; simp at h2
  | some b => exact ⟨b, rfl, Int.le_refl _, by show (0 : Int) ≤ _; omega⟩
theorem lab_m : lab [109] = true := by
  have h1 : labR [109] = wd20 [109] := labR_end (by decide)
  unfold lab
  rw [h1]
  decide
theorem foldl_one {α β : Type} (f : β → α → β) (z : β) (b : α) : [b].foldl f z = f z b := rfl
theorem cntW_one (b : Blk) (h : b.ins.length ≤ 20000) : cntW [b] = b.ins.length := by
  unfold cntW
  rw [foldl_one, Int.zero_add]
  exact IntWalk.wrap64_in _ ⟨by omega, by omega⟩
theorem errS_one (b : Blk) (h1 : b.cap = 0) (h2 : b.param = false) : errS [b] [⟨[109], 1, 0⟩] 0 = 0 := by
  have h3 : plainB [b] 0 = true := by simp [plainB, h1, h2]
  simp only [errS, List.getElem?_cons_zero, lab_m, h3, ordS]
  rfl
/-- A program with one block whose instructions are all right. -/
theorem errP_one {L : List Ins} {A : Option Addr} {c : Nat} {x y : Option Addr} {m n : Nat} (hl : L.length ≤ 20000) (h : ∀ i ∈ L, ckI [⟨0, false, A, c, L⟩] L.length i.op i.a i.b i.name = 0) : errP ⟨x, m, [⟨0, false, A, c, L⟩], y, n, [⟨[109], 1, 0⟩]⟩ = 0 := by
  obtain ⟨b, hb⟩ : ∃ b : Blk, b = ⟨0, false, A, c, L⟩ := ⟨_, rfl⟩
  have e1 : b.ins = L := by rw [hb]
  have e2 : b.cap = 0 := by rw [hb]
  have e3 : b.param = false := by rw [hb]
  rw [← hb] at h ⊢
  have h1 := cntW_one b (by rw [e1]; exact hl)
  have h2 : errB [b] b = 0 := by
    unfold errB
    rw [if_neg (by rw [e2]; omega)]
    apply fe_all
    intro x hx
    rw [errI, e1] at hx
    obtain ⟨i, hi, rfl⟩ := List.mem_map.1 hx
    exact h i hi
  have h3 : fe ([b].map (errB [b])) = 0 := fe_all (by simp [h2])
  have h4 : fe ((List.range 1).map (errS [b] [⟨[109], 1, 0⟩])) = 0 := fe_all (by simp [errS_one b e2 e3])
  have h5 : ¬ (2000 < [b].length ∨ 20000 < cntW [b]) := by
    rw [h1, e1]
    simp only [List.length_cons, List.length_nil]
    omega
  simp only [errP, if_neg h5, h3]
  exact h4
end Go.Proofs.YtdfllhmkgphcmaaDoor
namespace Go.Proofs.YtdfllhmkgphcmaaDoor
open Go.RowKit

abbrev zC : List Value := [nilS, nilS, nilS, nilS, iv 0, .int .u64 0, .bool false, iv 0]
abbrev zO : Obj := .cells #[iv 0, iv 0, nilS, iv 0, eS, eS, nilS, nilS] 54
theorem set36_at {w : World} {m : Nat} {t : TypeId} {u0 u1 u2 u3 u4 u5 u6 u7 : Value} (v0 v1 v2 v3 v4 v5 v6 v7 : Value) (h : w.heap[m]? = some (.cells #[u0, u1, u2, u3, u4, u5, u6, u7] t (0, 0))) :
    (set36 w m v0 v1 v2 v3 v4 v5 v6 v7).heap[m]? = some (.cells #[v0, v1, v2, v3, v4, v5, v6, v7] t (0, 0)) := by
  unfold set36
  rw [heap_set (heap_set (heap_set (heap_set (heap_set (heap_set (heap_set (heap_set h _ _) _ _) _ _) _ _) _ _) _ _) _ _) _ _]
  simp
theorem cells8 {w : World} {m : Nat} {t : TypeId} {v0 v1 v2 v3 v4 v5 v6 v7 : Value} (h : w.heap[m]? = some (.cells #[v0, v1, v2, v3, v4, v5, v6, v7] t (0, 0))) : (w.cell? ⟨m, 0, none⟩ = some v0 ∧ w.cell? ⟨m, 1, none⟩ = some v1 ∧ w.cell? ⟨m, 2, none⟩ = some v2 ∧ w.cell? ⟨m, 3, none⟩ = some v3 ∧ w.cell? ⟨m, 4, none⟩ = some v4 ∧ w.cell? ⟨m, 5, none⟩ = some v5 ∧ w.cell? ⟨m, 6, none⟩ = some v6 ∧ w.cell? ⟨m, 7, none⟩ = some v7) ∧ ∀ j, w.frozen? ⟨m, j, none⟩ = false := by
  refine ⟨⟨?_, ?_, ?_, ?_, ?_, ?_, ?_, ?_⟩, fun j => by simp [World.frozen?, h]⟩
  all_goals
    rw [Lib.cell_of_heap h]
    rfl
/-- The boxes of result. -/
structure RG (p : Prg) (w : World) (V : World) : Prop where
  gr : w.grownBy V none
  p0 : V.cell? ⟨w.heap.size, 0, none⟩ = some (.slice p.bA p.bs.length p.bc)
  p1 : V.cell? ⟨w.heap.size, 1, none⟩ = some (.slice p.sA p.ss.length p.sc)
  m : V.heap[w.heap.size + 1]? = some zM
  v : V.heap[w.heap.size + 1 + 1]? = some zO
theorem RG.of (p : Prg) (w : World) : RG p w (((w.alloc (.cells #[.slice p.bA p.bs.length p.bc, .slice p.sA p.ss.length p.sc] 25)).alloc zM).alloc zO) := by
  have h0 := SG.of p w
  have h1 := al_new ((w.alloc (.cells #[.slice p.bA p.bs.length p.bc, .slice p.sA p.ss.length p.sc] 25)).alloc zM) zO
  rw [show ((w.alloc (.cells #[.slice p.bA p.bs.length p.bc, .slice p.sA p.ss.length p.sc] 25)).alloc zM).heap.size = w.heap.size + 1 + 1 by simp] at h1
  have h2 := h0.grow (World.grownBy_alloc _ zO none)
  exact ⟨h2.gr, h2.p0, h2.p1, h2.m, h1⟩
theorem RG.grow {p : Prg} {w V V' : World} (h : RG p w V) (g : V.grownBy V' none) : RG p w V' := by
  have h2 := (SG.mk h.gr h.p0 h.p1 h.m).grow g
  exact ⟨h2.gr, h2.p0, h2.p1, h2.m, (g.block _ (heap_lt h.v) (by simp)).trans h.v⟩

theorem RG.set {p : Prg} {w V : World} {b : Nat} {M : AM} (h : RG p w V) (hb : w.heap.size + 1 + 1 < b) : RG p w (setM V b M) := by
  have c : ∀ a : Addr, a.block ≠ b → (setM V b M).cell? a = V.cell? a := fun a ha => World.cell?_of_block (setM_at ha)
  exact ⟨grown_setM h.gr (by omega) M, (c _ (show w.heap.size ≠ b by omega)).trans h.p0, (c _ (show w.heap.size ≠ b by omega)).trans h.p1, (setM_at (by omega)).trans h.m, (setM_at (by omega)).trans h.v⟩
theorem RG.lt {p : Prg} {w V : World} (h : RG p w V) : w.heap.size + 1 + 1 < V.heap.size := heap_lt h.v
theorem tgB_no {B k : Nat} (h : k ≠ B) : tgB B k = .no := if_neg h
/-- The machine behind a run, stored. -/
theorem run_rd {w0 w1 w3 : World} {M M' : AM} {B : Nat} {tg' : Nat → Tag} (hB : B < w1.heap.size) (hx : M'.RdX w0 tg' w3) (hb : w0.heap.size ≤ w1.heap.size) (ht : ∀ k, k < (w1.alloc (oM M)).heap.size → tg' k = tgB B k) : M'.RdX w0 tg' (setM w3 w1.heap.size M') := by
  obtain ⟨h1, h2, h3, h4, h5⟩ := set36_ok w3 w1.heap.size (.slice M'.p.bA M'.p.bs.length M'.p.bc) (.slice M'.p.sA M'.p.ss.length M'.p.sc) (.slice M'.sA M'.S.length M'.sc) (.slice M'.fA M'.F.length M'.fc) (iv M'.steps) (.int .u64 M'.seed) (.bool M'.done) (iv M'.err)
  refine (hx.keep (grown_setM hx.gr hb M') (by show _ ≤ (set36 _ _ _ _ _ _ _ _ _ _).heap.size; rw [h4]; exact Nat.le_refl _) fun k hk hn => setM_at fun e => hn ?_)
  rw [ht k (by rw [e]; simp)]
  exact tgB_no (by omega)

theorem result_fin {p : Prg} {w V : World} {M : AM} {tg : Nat → Tag} (h : RG p w V) (hx : M.RdX w tg V) (h1 : tg (w.heap.size + 1) = .no) (h2 : tg (w.heap.size + 1 + 1) = .no) (v0 v1 v2 v3 v4 v5 v6 v7 : Value) : w.grownBy (set36 (setM V (w.heap.size + 1) M) (w.heap.size + 1 + 1) v0 v1 v2 v3 v4 v5 v6 v7).drew none ∧ M.Rd (set36 (setM V (w.heap.size + 1) M) (w.heap.size + 1 + 1) v0 v1 v2 v3 v4 v5 v6 v7).drew := by
  have g1 := grown_setM (m := w.heap.size + 1) h.gr (by omega) M
  obtain ⟨k1, k2, k3, k4, k5⟩ := set36_ok (setM V (w.heap.size + 1) M) (w.heap.size + 1 + 1) v0 v1 v2 v3 v4 v5 v6 v7
  have k6 : (setM V (w.heap.size + 1) M).heap.size = V.heap.size := (set36_ok V (w.heap.size + 1) (.slice M.p.bA M.p.bs.length M.p.bc) (.slice M.p.sA M.p.ss.length M.p.sc) (.slice M.sA M.S.length M.sc) (.slice M.fA M.F.length M.fc) (iv M.steps) (.int .u64 M.seed) (.bool M.done) (iv M.err)).2.2.2.1
  have g2 : w.grownBy (set36 (setM V (w.heap.size + 1) M) (w.heap.size + 1 + 1) v0 v1 v2 v3 v4 v5 v6 v7) none := ⟨k1.trans g1.os, k2.trans g1.tape, k3.trans g1.output, by rw [k4]; exact g1.size, fun k hk hn => (k5 k (by omega)).trans (g1.block k hk hn)⟩
  refine ⟨g2.trans (grown_drew _), ((hx.keep g2 (by rw [k4, k6]; exact Nat.le_refl _) fun k hk hn => ?_).grow (grown_drew _)).rd⟩
  exact (k5 k fun e => hn (by rw [e]; exact h2)).trans (setM_at fun e => hn (by rw [e]; exact h1))

set_option maxRecDepth 100000 in
set_option maxHeartbeats 4000000 in
theorem result_walk (p : Prg) (blk : Int) (w : World) (m : MM) (f : Int) (X : AM → Value) (x0 x1 : AM → Int) (xa : AM → Option Addr) (xn xc : AM → Nat) (x3 : AM → Int) (hX : ∀ M, X M = .agg #[iv (x0 M), iv (x1 M), .slice (xa M) (xn M) (xc M), iv (x3 M), eS, eS, nilS, nilS])
    (STA : ∀ V, w.grownBy V none → Calls Tryd.prog 18 #[p.v, .int .u64 0] V fun e V' => V.grownBy V' none ∧ ∃ B, e = .returned (.tuple #[(bAM p blk 0 B).v, .bool true]) ∧ V.heap.size ≤ B ∧ V'.heap[B]? = some (.cells #[iv blk, iv 0, nilS] 78 (0, 0)))
    (RUN : ∀ V B, w.grownBy V none → w.heap.size ≤ B → V.heap[B]? = some (.cells #[iv blk, iv 0, nilS] 78 (0, 0)) → Calls Tryd.prog 19 #[(bAM p blk 0 B).v, iv 400] V (RunP w (tgB B) (bAM p blk 0 B) V (m, 0)))
    (RES : ∀ V M, M.Rd V → M.er = m → Calls Tryd.prog 23 #[M.v] V fun e V' => e = .returned (.tuple #[X M, iv f]) ∧ V.grownBy V' none) :
    Calls Tryd.prog 20 #[p.v] w fun e w' => w.grownBy w' none ∧ ∃ M : AM, e = .returned (.tuple #[M.v, X M, .bool (f == 0)]) ∧ M.p = p ∧ M.er = m ∧ M.Rd w' := by
  have RG0 := Lib.hid (RG.of p w)
  have ST := Lib.hid STA
  have RN := Lib.hid RUN
  have RS := Lib.hid RES
  have HX := Lib.hid hX
  unfold Prg.v at *
  clear STA RUN RES hX
  go_enter Tryd.func20, Tryd.ntmps20
  go_wp2_with (first | (go_at_call 18; refine (ST.out _ RG0.out.gr).mono ?_; rintro e w1 ⟨g1, B, rfl, hB, kB⟩; have r1 := RG0.out.grow g1; have R1 := Lib.hid r1; have HB := Lib.hid (show w.heap.size + 1 + 1 < B ∧ B < w1.heap.size from ⟨Nat.lt_of_lt_of_le RG0.out.lt hB, heap_lt kB⟩); have CR := Lib.hid (RN.out (w1.alloc (oM (bAM p blk 0 B))) B (r1.gr.trans (World.grownBy_alloc _ _ none)) (Nat.le_trans (Nat.le_of_lt (Nat.lt_of_le_of_lt (by omega) RG0.out.lt)) hB) ((Below.heap_alloc _ _ _ (heap_lt kB)).trans kB)); clear r1 hB kB g1; obtain ⟨M0, hM0⟩ : ∃ M0, M0 = bAM p blk 0 B := ⟨_, rfl⟩; have HM0 := Lib.hid hM0; rw [← hM0] at CR ⊢; clear hM0; unfold AM.v) | (go_at_call 19; refine CR.out.mono ?_; rintro e w3 ⟨g3, M', tg', rfl, hp', her, hx, htg⟩; have r3 := (R1.out.grow (World.grownBy_alloc _ (oM M0) none)).grow g3; have R3 := Lib.hid (r3.set (b := w1.heap.size) (M := M') R1.out.lt); have k5 := (g3.block w1.heap.size (by simp) (by simp)).trans (al_new w1 (oM M0)); have K5 := Lib.hid k5; obtain ⟨⟨q0, q1, q2, q3, q4, q5, q6, q7⟩, qf⟩ := cells8 k5; have XR := Lib.hid (run_rd HB.out.2 hx (Nat.le_trans R1.out.gr.size (Nat.le_refl _)) htg); have HP := Lib.hid hp'; have TG := Lib.hid (show tg' (w.heap.size + 1) = .no ∧ tg' (w.heap.size + 1 + 1) = .no from ⟨(htg _ (by have := R1.out.lt; simp; omega)).trans (tgB_no (by have := HB.out.1; omega)), (htg _ (by have := R1.out.lt; simp; omega)).trans (tgB_no (by have := HB.out.1; omega))⟩); have HE := Lib.hid her; clear r3 k5 g3 hp' her hx htg CR; unfold AM.v) | (go_at_call 23; refine (RS.out _ M' XR.out.rd HE.out).mono ?_; rintro e w5 ⟨rfl, g5⟩; have g5' : (setM w3 w1.heap.size M').grownBy w5 none := g5; have R5 := Lib.hid (R3.out.grow g5'); have k5 := (g5'.block w1.heap.size (heap_lt (set36_at _ _ _ _ _ _ _ _ K5.out)) (by simp)).trans (set36_at _ _ _ _ _ _ _ _ K5.out); have X5 := Lib.hid (XR.out.grow g5'); have K6 := Lib.hid k5; clear k5 g5 g5' q0 q1 q2 q3 q4 q5 q6 q7 qf; rw [HX.out M']))
  have ko := (Below.heap_alloc w5 (.cells #[iv (x0 M'), iv (x1 M'), .slice (xa M') (xn M') (xc M'), iv (x3 M'), eS, eS, nilS, nilS] 54) _ (heap_lt K6.out)).trans K6.out
  have kn := al_new w5 (.cells #[iv (x0 M'), iv (x1 M'), .slice (xa M') (xn M') (xc M'), iv (x3 M'), eS, eS, nilS, nilS] 54)
  have rg := R5.out.grow (World.grownBy_alloc w5 (.cells #[iv (x0 M'), iv (x1 M'), .slice (xa M') (xn M') (xc M'), iv (x3 M'), eS, eS, nilS, nilS] 54) none)
  have xg := X5.out.grow (World.grownBy_alloc w5 (.cells #[iv (x0 M'), iv (x1 M'), .slice (xa M') (xn M') (xc M'), iv (x3 M'), eS, eS, nilS, nilS] 54) none)
  have l1 := R1.out.lt
  have l5 := R5.out.lt
  generalize w5.alloc (.cells #[iv (x0 M'), iv (x1 M'), .slice (xa M') (xn M') (xc M'), iv (x3 M'), eS, eS, nilS, nilS] 54) = V at *
  generalize w5.heap.size = b8 at *
  generalize w1.heap.size = b5 at *
  have hp9 : M'.p = p := HP.out.trans (by rw [HM0.out]; rfl)
  have fin := result_fin rg xg TG.out.1 TG.out.2 (iv (x0 M')) (iv (x1 M')) (.slice (xa M') (xn M') (xc M')) (iv (x3 M')) eS eS nilS nilS
  have W9 := Lib.hid (show w.grownBy (set36 (setM V (w.heap.size + 1) M') (w.heap.size + 1 + 1) (iv (x0 M')) (iv (x1 M')) (.slice (xa M') (xn M') (xc M')) (iv (x3 M')) eS eS nilS nilS).drew none ∧ ∃ M : AM, Ending.returned (.tuple #[M'.v, X M', .bool (f == 0)]) = .returned (.tuple #[M.v, X M, .bool (f == 0)]) ∧ M.p = p ∧ M.er = m ∧ M.Rd (set36 (setM V (w.heap.size + 1) M') (w.heap.size + 1 + 1) (iv (x0 M')) (iv (x1 M')) (.slice (xa M') (xn M') (xc M')) (iv (x3 M')) eS eS nilS nilS).drew from ⟨fin.1, M', rfl, hp9, HE.out, fin.2⟩)
  clear hp9 fin
  obtain ⟨⟨p0, p1, p2, p3, p4, p5, p6, p7⟩, pf⟩ := cells8 ko
  obtain ⟨⟨q0, q1, q2, q3, q4, q5, q6, q7⟩, qf⟩ := cells8 kn
  obtain ⟨⟨r0, r1, r2, r3, r4, r5, r6, r7⟩, rf⟩ := cells36 (rg.m.trans (congrArg some zmc))
  obtain ⟨⟨s0, s1, s2, s3, s4, s5, s6, s7⟩, sf⟩ := cells8 rg.v
  clear rg xg ko kn R5 K6 X5 XR K5 R3 R1 HB RG0 ST RN RS TG HP HM0 HE
  have n1 : ¬ b5 = w.heap.size + 1 := by omega
  have n2 : ¬ b8 = w.heap.size + 1 := by omega
  have n3 : ¬ b5 = w.heap.size + 1 + 1 := by omega
  have n4 : ¬ b8 = w.heap.size + 1 + 1 := by omega
  have n5 : ¬ w.heap.size + 1 = w.heap.size + 1 + 1 := by omega
  have n6 : ¬ w.heap.size + 1 + 1 = w.heap.size + 1 := by omega
  generalize w.heap.size + 1 + 1 = bv at *
  generalize w.heap.size + 1 = bm at *
  have dc : ∀ (X : World) (a : Addr), X.drew.cell? a = X.cell? a := fun _ _ => rfl
  have df : ∀ (X : World) (a : Addr), X.drew.frozen? a = X.frozen? a := fun _ _ => rfl
  clear l1 l5
  go_region_law (fail)
  all_goals go_wp2
  all_goals
    refine bodyPost_ret (v := .tuple #[M'.v, X M', .bool (f == 0)]) ?_ ?_ W9.out
    · simp [results, Tryd.results20, go_sem, AM.v, HX.out M', r0, r1, r2, r3, r4, r5, r6, r7, s0, s1, s2, s3, s4, s5, s6, s7, Act.put]
    · rfl
end Go.Proofs.YtdfllhmkgphcmaaDoor
namespace Go.Proofs.YtdfllhmkgphcmaaDoor
open Go.RowKit

/-- The machine at the beginning. -/
def begM (bs : List Blk) (blk seed : Int) : MM := ⟨bs, [], [⟨blk, 0, []⟩], 0, seed, false, 0⟩
theorem bAM_er (p : Prg) (blk seed : Int) (B : Nat) : (bAM p blk seed B).er = begM p.bs blk seed := rfl
theorem ers_snoc {S : List AV} {T : List MV} {v : MV} (h : ers S = T ++ [v]) : ∃ S' x, S = S' ++ [x] ∧ x.er = v := by
  rcases snoc_cases S with rfl | ⟨S', x, rfl⟩
  · simp [ers] at h
  · refine ⟨S', x, rfl, ?_⟩
    rw [ers_append] at h
    have := (List.append_inj' h rfl).2
    simpa [ers] using this
theorem below_of {w V : World} (g : w.grownBy V none) : Below w.heap.size w V := ⟨g.os, g.tape, g.output, g.size, fun k hk => g.block k hk (by simp)⟩
/-- What start and the run give. -/
theorem result_pre {p : Prg} {s : Stt} {ss : List Stt} {w : World} {m : MM} (hs : p.ss = s :: ss) (he : errP p = 0) (hp : p.Rd w) (hl : LenP p) (hlb : ∀ b ∈ p.bs, b.ins.length ≤ 9223372036854775807) (hrun : runE 400 (begM p.bs s.block 0) = (m, 0)) :
    (∀ V, w.grownBy V none → Calls Tryd.prog 18 #[p.v, .int .u64 0] V fun e V' => V.grownBy V' none ∧ ∃ B, e = .returned (.tuple #[(bAM p s.block 0 B).v, .bool true]) ∧ V.heap.size ≤ B ∧ V'.heap[B]? = some (.cells #[iv s.block, iv 0, nilS] 78 (0, 0))) ∧
    (∀ V B, w.grownBy V none → w.heap.size ≤ B → V.heap[B]? = some (.cells #[iv s.block, iv 0, nilS] 78 (0, 0)) → Calls Tryd.prog 19 #[(bAM p s.block 0 B).v, iv 400] V (RunP w (tgB B) (bAM p s.block 0 B) V (m, 0))) := by
  refine ⟨fun V hg => (start_any p 0 V (hp.below (below_of hg)) hl).mono ?_, fun V B hg hB hk => ?_⟩
  · rintro e V' ⟨g, ⟨h1 | h1, _⟩ | ⟨s', ss', B, h1, h2, h3, h4, h5⟩⟩
    · rw [hs] at h1; cases h1
    · exact absurd he h1
    · rw [hs] at h1
      cases h1
      exact ⟨g, B, h3, h4, h5⟩
  · have := run_go w (tgB B) (bAM p s.block 0 B) V 400 1 (bAM_rdX hp hg hB hk) rfl (bAM_MI he hs hlb 0 B) (by omega) (by omega) (by simp [bAM])
    rw [bAM_er, hrun] at this
    exact this
/-- A program that ends with a value. -/
theorem result_ok (p : Prg) (s : Stt) (ss : List Stt) (w : World) (m : MM) (T : List MV) (v : MV) (hs : p.ss = s :: ss) (he : errP p = 0) (hp : p.Rd w) (hl : LenP p) (hlb : ∀ b ∈ p.bs, b.ins.length ≤ 9223372036854775807) (hrun : runE 400 (begM p.bs s.block 0) = (m, 0)) (hd : m.done = true) (hS : m.S = T ++ [v]) (hn : m.S.length ≤ 1000000) :
    Calls Tryd.prog 20 #[p.v] w fun e w' => w.grownBy w' none ∧ ∃ (M : AM) (S' : List AV) (x : AV), e = .returned (.tuple #[M.v, x.v, .bool true]) ∧ M.p = p ∧ M.er = m ∧ M.S = S' ++ [x] ∧ x.er = v ∧ M.Rd w' := by
  obtain ⟨ST, RN⟩ := result_pre hs he hp hl hlb hrun
  have hx : ∀ M : AM, M.er = m → ∃ S' x, M.S = S' ++ [x] ∧ x.er = v := fun M hM => by
    apply ers_snoc (T := T)
    have : M.er.S = m.S := by rw [hM]
    rw [← hS]
    exact this
  let la : AM → AV := fun M => (M.S.getLast?).getD (.mk 0 0 none 0 0 [])
  have hla : ∀ (M : AM) S' x, M.S = S' ++ [x] → la M = x := fun M S' x h => by simp [la, h]
  refine (result_walk p s.block w m 0 (fun M => (la M).v) (fun M => (la M).kind) (fun M => (la M).int) (fun M => (la M).A) (fun M => (la M).list.length) (fun M => (la M).c) (fun M => (la M).block) (fun M => rfl) ST RN fun V M hM hm => ?_).mono ?_
  · obtain ⟨S', x, h1, h2⟩ := hx M hm
    have hd' : M.done = true := by rw [← hd, ← hm]; rfl
    have hn' : M.S.length ≤ 1000000 := by
      have : M.er.S.length = M.S.length := ers_length M.S
      rw [hm] at this
      omega
    have := result_done M V S' x hM hd' h1 hn'
    rw [show (la M).v = x.v by rw [hla M S' x h1]]
    exact this
  · rintro e w' ⟨g, M, rfl, h1, h2, h3⟩
    obtain ⟨S', x, h4, h5⟩ := hx M h2
    exact ⟨g, M, S', x, by rw [hla M S' x h4]; rfl, h1, h2, h4, h5, h3⟩
/-- A program that ends with an error. -/
theorem result_bad (p : Prg) (s : Stt) (ss : List Stt) (w : World) (m : MM) (hs : p.ss = s :: ss) (he : errP p = 0) (hp : p.Rd w) (hl : LenP p) (hlb : ∀ b ∈ p.bs, b.ins.length ≤ 9223372036854775807) (hrun : runE 400 (begM p.bs s.block 0) = (m, 0)) (hd : m.done = false) (h0 : m.err ≠ 0) :
    Calls Tryd.prog 20 #[p.v] w fun e w' => w.grownBy w' none ∧ ∃ (M : AM), e = .returned (.tuple #[M.v, zV, .bool false]) ∧ M.p = p ∧ M.er = m ∧ M.Rd w' := by
  obtain ⟨ST, RN⟩ := result_pre hs he hp hl hlb hrun
  have h1 : (m.err == 0) = false := by simpa using h0
  refine (result_walk p s.block w m m.err (fun _ => zV) (fun _ => 0) (fun _ => 0) (fun _ => none) (fun _ => 0) (fun _ => 0) (fun _ => 0) (fun M => rfl) ST RN fun V M hM hm => ?_).mono ?_
  · have e1 : M.done = false := by rw [← hd, ← hm]; rfl
    have e2 : M.err = m.err := by rw [← hm]; rfl
    have := result_err M V e1 (by rw [e2]; simpa using h0)
    rw [e2] at this
    exact this
  · rintro e w' ⟨g, M, rfl, h2, h3, h4⟩
    exact ⟨g, M, by rw [h1], h2, h3, h4⟩
end Go.Proofs.YtdfllhmkgphcmaaDoor

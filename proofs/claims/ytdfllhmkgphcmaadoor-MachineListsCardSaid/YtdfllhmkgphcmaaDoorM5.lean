/- The walks and the words of the family machine, part 5: RunZ, Rms, RunAh, RunAi, RunAj, RunAk, RunAl, RunAm. -/
import Derived.Test.YtdfllhmkgphcmaaDoorM4
import Derived.LaidEql
import Derived.Laws.CopyRow
import Derived.Laws.MakeOwn
namespace Go.Proofs.YtdfllhmkgphcmaaDoor
open Go.RowKit

theorem AV.er_list (x : AV) : x.er.list = ers x.list := by cases x; simp [AV.er, MV.list, AV.list]
theorem AV.er_kind (x : AV) : x.er.kind = x.kind := by cases x; simp [AV.er, MV.kind, AV.kind]
theorem divide_any (b : Bl) (p : Prg) (op xa xb : Int) (name : T) (w : World) (g : Gh) (G : List Fr) (f : Fr) (steps seed err : Int) (hm : Mem b w g) (hR : RB b p w g.sv g.fv steps seed false err) (hn : g.S.length ≤ 1000000) (hF : g.F = G ++ [f]) (hn2 : g.F.length ≤ 1000000) (hl : f.L.length ≤ 1000000) (hx : ∀ x ∈ g.S, x.list.length ≤ 1000000) :
    Calls Tryd.prog 83 #[.pointer (some ⟨b.rb, 0, none⟩), .agg #[iv op, iv xa, iv xb, tv name]] w (EffP b p w g (match popK 3 (ers g.S) with
      | none => .error 26
      | some (S1, l) => match l.list with
        | [] => .ok ⟨S1, G.map Fr.er ++ [{ f.er with at_ := xa }], seed, false⟩
        | h :: t => .ok ⟨S1, G.map Fr.er ++ [{ f.er with L := f.er.L ++ [h, vList t] }], seed, false⟩) steps err) := by
  rcases snoc_cases g.S with h | ⟨S, x, h⟩
  · have hp : popK 3 (ers g.S) = none := by rw [h]; rfl
    rw [hp]
    exact divide_flt b p op xa xb name w g steps seed err hm hR hn hp
  · have hp : popK 3 (ers g.S) = if x.kind = 3 then some (ers S, x.er) else none := by
      rw [h, ers_append]
      show popK 3 (ers S ++ [x.er]) = _
      rw [popK_snoc, AV.er_kind]
    by_cases hk : x.kind = 3
    · rw [if_pos hk] at hp
      rw [hp]
      simp only [AV.er_list]
      cases hz : x.list with
      | nil => exact divide_nil b p op xa xb name w g S x G f steps seed err hm hR hn h hk (by rw [hz]; rfl) hF hn2
      | cons hd t =>
        have hxl := hx x (by rw [h]; simp)
        rw [hz] at hxl
        simp only [List.length_cons] at hxl
        cases t with
        | nil => exact divide_one b p op xa xb name w g S x G f steps seed err hm hR hn h hk hd hz hF hn2 hl
        | cons y t => exact divide_more b p op xa xb name w g S x G f steps seed err hm hR hn h hk hd (y :: t) hz (by simp) (by omega) hF hn2 hl
    · rw [if_neg hk] at hp
      rw [hp]
      exact divide_flt b p op xa xb name w g steps seed err hm hR hn hp
end Go.Proofs.YtdfllhmkgphcmaaDoor
namespace Go.Proofs.YtdfllhmkgphcmaaDoor
open Go.RowKit

theorem same_no {P : Program} {w : World} {a b : Addr} {v : Value} {cb : Array Value} {tb : TypeId} (hne : a.block ≠ b.block) (ha : w.cell? a = some v) (hb : w.heap[b.block]? = some (.cells cb tb (0, 0))) : (sameAddr a b).run P w = .ok false w := by
  unfold World.cell? at ha
  split at ha
  · rename_i c t f hh
    split at ha
    · cases ha
    · have hs : c.size ≠ 0 := by
        intro e
        rw [Array.getElem?_eq_none (by omega)] at ha
        cases ha
      have hfb : w.frozen? b = false := by simp [World.frozen?, hb]
      have hfb2 : ∀ n, w.frozen? ⟨b.block, n, none⟩ = false := fun n => by simp [World.frozen?, hb]
      simp [sameAddr, hne, hfb, hfb2, hh, hb, noView, viewAt, World.shape?, mayBeOne, stringish, hs]
      try (split <;> simp [hs])
  · cases ha
theorem same_at {P : Program} {w : World} {a b : Addr} (h : a.block = b.block) : (sameAddr a b).run P w = .ok (a == b) w := by
  simp [sameAddr, h]

theorem eq_run {w : World} {a b : Addr} {r : Bool} (h : (sameAddr a b).run Tryd.prog w = .ok r w) : (Op.equal 129 (.pointer (some a)) (.pointer (some b))).run Tryd.prog w = .ok r w := by
  have hp : Tryd.prog.underlying 129 = some (.pointer 54) := by kernel_rfl
  have hs : Tryd.t54.size ≠ 0 := by decide
  have hd : ∀ d : Nat, (Op.equalIn (d + 1) 129 (.pointer (some a)) (.pointer (some b))).run Tryd.prog w = .ok r w := fun d => by
    simp [Op.equalIn, run_underlying hp, sizeOf, hs, h]
  exact hd 9999

/-- A look through the entries of a map keyed by pointers. -/
theorem find_ptr {w : World} {q : Addr} (eqv : Addr → Bool) : ∀ (es : List MapEntry) (i : Nat), (∀ e ∈ es, ∃ k, e.key = .pointer (some k) ∧ (sameAddr q k).run Tryd.prog w = .ok (eqv k) w) →
    (Instr.findAsking 129 (.pointer (some q)) es i).run Tryd.prog w = .ok (match es.findIdx? (fun e => match e.key with | .pointer (some k) => eqv k | _ => false) with | some j => (es[j]?).map fun e => (i + j, e.val) | none => none) w
  | [], i, _ => by simp [Instr.findAsking]
  | e :: es, i, h => by
    obtain ⟨k, hk, hs⟩ := h e (by simp)
    have ih := find_ptr eqv es (i + 1) (fun e' he => h e' (by simp [he]))
    have he := eq_run hs
    simp only [Instr.findAsking, hk, Sem.run_bind, he, Result.andThen_ok]
    cases hv : eqv k with
    | true => simp [List.findIdx?_cons, hk, hv]
    | false =>
      simp only [Bool.false_eq_true, if_false, ih, List.findIdx?_cons, hk, hv]
      cases hf : es.findIdx? (fun e => match e.key with | .pointer (some k) => eqv k | _ => false) with
      | none => simp
      | some j => simp [Nat.add_assoc, Nat.add_comm 1 j]
theorem findKey_ptr {w : World} {q : Addr} (eqv : Addr → Bool) (es : List MapEntry) (h : ∀ e ∈ es, ∃ k, e.key = .pointer (some k) ∧ (sameAddr q k).run Tryd.prog w = .ok (eqv k) w) :
    (Instr.findKey 129 (.pointer (some q)) es).run Tryd.prog w = .ok (match es.findIdx? (fun e => match e.key with | .pointer (some k) => eqv k | _ => false) with | some j => (es[j]?).map fun e => (j, e.val) | none => none) w := by
  have hp : Tryd.prog.underlying 129 = some (.pointer 54) := by kernel_rfl
  have hf := find_ptr eqv es 0 h
  simp only [Nat.zero_add] at hf
  cases es with
  | nil => simp [Instr.findKey, run_underlying hp, Result.andThen, Instr.findNow]
  | cons e l =>
    have hn : Instr.findNow (.pointer 54) (.pointer (some q)) (e :: l) 0 = none := by simp [Instr.findNow, Instr.sameNow]
    unfold Instr.findKey
    simp only [Sem.run_bind, run_underlying hp, Result.andThen_ok, hn]
    exact hf
theorem check_ptr (em : Bool) (q : Addr) (w : World) : (Instr.checkKey em 10000 129 (.pointer (some q))).run Tryd.prog w = .ok () w := by
  have hp : Tryd.prog.underlying 129 = some (.pointer 54) := by kernel_rfl
  have h : ∀ n, (Instr.checkKey em (n + 1) 129 (.pointer (some q))).run Tryd.prog w = .ok () w := fun n => by
    unfold Instr.checkKey
    simp [run_underlying hp]
  exact h 9999

/-- Where a key stands among the entries. -/
def atK (eqv : Addr → Bool) (es : List MapEntry) : Option Nat := es.findIdx? (fun e => match e.key with | .pointer (some k) => eqv k | _ => false)
theorem lookup_ptr {w : World} {r : Nat} {es : Array MapEntry} {clk : Nat} {q : Addr} (eqv : Addr → Bool) (hb : w.heap[r]? = some (.map es clk)) (h : ∀ e ∈ es.toList, ∃ k, e.key = .pointer (some k) ∧ (sameAddr q k).run Tryd.prog w = .ok (eqv k) w) :
    (Instr.lookup 85 (.map (some r)) (.pointer (some q)) false).run Tryd.prog w = .ok (match atK eqv es.toList with | some j => (match es.toList[j]? with | some e => e.val | none => .pointer none) | none => .pointer none) w := by
  have hm : Tryd.prog.underlying 85 = some (.map 129 128) := by kernel_rfl
  have hz : (zeroValue 128).run Tryd.prog w = .ok (.pointer none) w := by kernel_rfl
  have hf := findKey_ptr eqv es.toList h
  unfold Instr.lookup
  simp only [Sem.run_bind, run_underlying hm, Result.andThen_ok, show (getObj r).run Tryd.prog w = .ok (.map es clk) w from by simp [getObj, Sem.run, hb], Sem.run_pure, check_ptr, hf]
  unfold atK
  cases hj : es.toList.findIdx? (fun e => match e.key with | .pointer (some k) => eqv k | _ => false) with
  | none => simp [hz]
  | some j =>
    cases he : es.toList[j]? with
    | none => simp [hz, he]
    | some e => simp [he]
theorem delete_ptr {w : World} {r : Nat} {es : Array MapEntry} {clk : Nat} {q : Addr} (ty : TypeId) (eqv : Addr → Bool) (hb : w.heap[r]? = some (.map es clk)) (h : ∀ e ∈ es.toList, ∃ k, e.key = .pointer (some k) ∧ (sameAddr q k).run Tryd.prog w = .ok (eqv k) w) {j : Nat} (hj : atK eqv es.toList = some j) (hlt : j < es.size) :
    (Builtin.delete_ #[85, 129] ty #[.map (some r), .pointer (some q)]).run Tryd.prog w = .ok (.tuple #[]) { w with heap := w.heap.setIfInBounds r (.map (es.eraseIdxIfInBounds j) clk) } := by
  have hm : Tryd.prog.underlying 85 = some (.map 129 128) := by kernel_rfl
  have hf := findKey_ptr eqv es.toList h
  have hg : (getObj r).run Tryd.prog w = .ok (.map es clk) w := by simp [getObj, Sem.run, hb]
  have hs : ∀ o, (setObj r o).run Tryd.prog w = .ok () { w with heap := w.heap.setIfInBounds r o } := fun o => by simp [setObj, Sem.run, hb]
  unfold atK at hj
  have he : es.toList[j]? = some es[j] := by simp [hlt]
  rw [hj] at hf
  simp only [he, Option.map_some] at hf
  simp [Builtin.delete_, run_underlying hm, hg, check_ptr, hf, hs, Result.andThen]
theorem delete_no {w : World} {r : Nat} {es : Array MapEntry} {clk : Nat} {q : Addr} (ty : TypeId) (eqv : Addr → Bool) (hb : w.heap[r]? = some (.map es clk)) (h : ∀ e ∈ es.toList, ∃ k, e.key = .pointer (some k) ∧ (sameAddr q k).run Tryd.prog w = .ok (eqv k) w) (hj : atK eqv es.toList = none) :
    (Builtin.delete_ #[85, 129] ty #[.map (some r), .pointer (some q)]).run Tryd.prog w = .ok (.tuple #[]) { w with heap := w.heap.setIfInBounds r (.map es clk) } := by
  have hm : Tryd.prog.underlying 85 = some (.map 129 128) := by kernel_rfl
  have hf := findKey_ptr eqv es.toList h
  have hg : (getObj r).run Tryd.prog w = .ok (.map es clk) w := by simp [getObj, Sem.run, hb]
  have hs : ∀ o, (setObj r o).run Tryd.prog w = .ok () { w with heap := w.heap.setIfInBounds r o } := fun o => by simp [setObj, Sem.run, hb]
  unfold atK at hj
  rw [hj] at hf
  simp [Builtin.delete_, run_underlying hm, hg, check_ptr, hf, hs, Result.andThen]
theorem update_new {w : World} {r : Nat} {es : Array MapEntry} {clk : Nat} {q : Addr} (v : Value) (eqv : Addr → Bool) (hb : w.heap[r]? = some (.map es clk)) (h : ∀ e ∈ es.toList, ∃ k, e.key = .pointer (some k) ∧ (sameAddr q k).run Tryd.prog w = .ok (eqv k) w) (hj : atK eqv es.toList = none) :
    (Instr.mapUpdate 85 (.map (some r)) (.pointer (some q)) v).run Tryd.prog w = .ok () { w with heap := w.heap.setIfInBounds r (.map (es.push { key := .pointer (some q), val := v, born := clk }) (clk + 1)) } := by
  have hm : Tryd.prog.underlying 85 = some (.map 129 128) := by kernel_rfl
  have hf := findKey_ptr eqv es.toList h
  have hg : (getObj r).run Tryd.prog w = .ok (.map es clk) w := by simp [getObj, Sem.run, hb]
  have hs : ∀ o, (setObj r o).run Tryd.prog w = .ok () { w with heap := w.heap.setIfInBounds r o } := fun o => by simp [setObj, Sem.run, hb]
  unfold atK at hj
  rw [hj] at hf
  simp [Instr.mapUpdate, run_underlying hm, hg, check_ptr, hf, hs, Result.andThen]
end Go.Proofs.YtdfllhmkgphcmaaDoor
namespace Go.Proofs.YtdfllhmkgphcmaaDoor
open Go.RowKit

/-- The rooms change: the map, one array (more of it stays), one box. -/
theorem Mem.rooms {b : Bl} {w w' : World} {g : Gh} (h : Mem b w g) (os : w'.os = w.os) (tape : w'.tape = w.tape) (output : w'.output = w.output) (hs : w.heap.size ≤ w'.heap.size) {ab ro lo' sz : Nat} (hne : ab ≠ ro) (habB : b.B ≤ ab) (hroB : b.B ≤ ro) (habl : ab < w'.heap.size) (hrol : ro < w'.heap.size)
    (hab : ab < w.heap.size → ∃ lo, g.tag ab = .arr lo sz ∧ lo' ≤ lo) (hro : ro < w.heap.size → g.tag ro = .own ∧ ∃ cur, w.heap[ro]? = some (.cells cur 131 (0, 0)))
    (hc : ∀ p : Addr, p.block = ab → p.block < w.heap.size → sta b.B g.tag p → w'.cell? p = w.cell? p) (hk : ∀ k, k < w.heap.size → k ≠ b.mb → k ≠ ab → k ≠ ro → w'.heap[k]? = w.heap[k]?)
    (R' : List Rm) (hmo : ∃ es clk, w'.heap[b.mb]? = some (.map es clk) ∧ es.toList.map (fun e => (e.key, e.val)) = R'.map Rm.kv)
    (hrm : ∀ r ∈ R', ROk b.B (upT (upT g.tag ab (.arr lo' sz)) ro .own) w' r) (hra : R'.Pairwise fun r r' => r.ab ≠ r'.ab ∧ r.ro ≠ r'.ro) :
    Mem b w' { g with tag := upT (upT g.tag ab (.arr lo' sz)) ro .own, R := R' } ∧ Ch w g w' { g with tag := upT (upT g.tag ab (.arr lo' sz)) ro .own, R := R' } := by
  have hB := h.hs
  have hmB := h.mbb
  obtain ⟨es, clk, m1, m2⟩ := h.mo
  have tg : ∀ i, i ≠ ab → i ≠ ro → upT (upT g.tag ab (.arr lo' sz)) ro .own i = g.tag i := fun i h1 h2 => by rw [upT_ne _ _ h2, upT_ne _ _ h1]
  have ta : upT (upT g.tag ab (.arr lo' sz)) ro .own ab = .arr lo' sz := by rw [upT_ne _ _ hne, upT_at]
  have tr : upT (upT g.tag ab (.arr lo' sz)) ro .own ro = .own := upT_at _ _ _
  have nab : ∀ {i : Nat}, i < w.heap.size → (∀ lo, g.tag i ≠ .arr lo sz) → i ≠ ab := fun {i} hi ht e => by subst e; obtain ⟨lo, h1, _⟩ := hab hi; exact ht lo h1
  have own : ∀ {i : Nat}, g.tag i = .own → i < w.heap.size → upT (upT g.tag ab (.arr lo' sz)) ro .own i = .own := fun {i} hi hl => by
    by_cases e : i = ro
    · subst e; exact tr
    · rw [tg i (nab hl (fun lo => by rw [hi]; simp)) e, hi]
  have le : ∀ i, i < w.heap.size → (g.tag i).le (upT (upT g.tag ab (.arr lo' sz)) ro .own i) := fun i hi => by
    by_cases e : i = ab
    · subst e; obtain ⟨lo, h1, h2⟩ := hab hi; rw [h1, ta]; exact ⟨lo', rfl, h2⟩
    · by_cases e2 : i = ro
      · subst e2; rw [(hro hi).1, tr]; exact rfl
      · rw [tg i e e2]; exact Tag.le_refl _
  have nst : ∀ {p : Addr}, b.B ≤ p.block → g.tag p.block = .own → ¬ sta b.B g.tag p := fun {p} hp ht hs => by
    rcases hs with h1 | h1 | ⟨lo, sz, h1, _⟩ | ⟨d, hi2, h1, _⟩
    · omega
    · rw [ht] at h1; cases h1
    · rw [ht] at h1; cases h1
    · rw [ht] at h1; cases h1
  have cells : ∀ p : Addr, p.block < w.heap.size → sta b.B g.tag p → w'.cell? p = w.cell? p := fun p hp hs => by
    by_cases e : p.block = ab
    · exact hc p e hp hs
    · exact World.cell?_of_block (w := w) (hk _ hp (fun e2 => nst (by rw [e2]; exact hmB) (by rw [e2]; exact h.mt) hs) e (fun e2 => nst (by rw [e2]; exact hroB) (by rw [e2]; exact (hro (e2 ▸ hp)).1) hs))
  have keep : ∀ {i : Nat} {o : Obj}, w.heap[i]? = some o → (∀ e c, o ≠ .map e c) → (∀ c, o ≠ .cells c 131 (0, 0)) → g.tag i = .own → w'.heap[i]? = some o := fun {i o} h1 h2 h3 h4 => by
    refine (hk i (heap_lt h1) (fun e => ?_) (nab (heap_lt h1) (fun lo => by rw [h4]; simp)) (fun e => ?_)).trans h1
    · subst e; rw [m1] at h1; exact h2 _ _ (Option.some.inj h1).symm
    · subst e; obtain ⟨cur, h5⟩ := (hro (heap_lt h1)).2; rw [h5] at h1; exact h3 _ (Option.some.inj h1).symm
  have olt : ∀ {i : Nat}, g.tag i = .own → i < w.heap.size := fun {i} hi => by
    rcases Nat.lt_or_ge i w.heap.size with h1 | h1
    · exact h1
    · rw [h.new i h1] at hi; cases hi
  have hem : b.eb ≠ b.mb := fun e => by
    have e1 := h.eo
    rw [e, m1] at e1
    simp only [Option.some.injEq, Obj.map.injEq] at e1
    rw [e1.1] at m2
    cases hR : g.R with
    | nil => rw [hR] at m2; simp [effs] at m2
    | cons r l => rw [hR] at m2; simp [effs, Rm.kv] at m2
  have heo : w'.heap[b.eb]? = some (.map (effs b.tb b.rb) 16) := by
    refine (hk _ (heap_lt h.eo) hem (nab (heap_lt h.eo) (fun lo => by rw [h.et]; simp)) (fun e => ?_)).trans h.eo
    obtain ⟨cur, h5⟩ := (hro (e ▸ heap_lt h.eo)).2
    rw [← e, h.eo] at h5
    cases h5
  have hrow : ∀ {T sz2 : Nat} {v : Value} {n : Nat} {xs : List Value}, T ≠ 131 → (∀ k, v.ownBlock = some k → g.tag k = .own) → w.ownsRow b.B T sz2 v n xs → w'.ownsRow b.B T sz2 v n xs := fun {T sz2 v n xs} hT ht hr =>
    row_keep hr fun i cur e1 e2 => (keep e2 (by simp) (fun c e => by cases e; exact hT rfl) (ht i e1)).trans e2.symm
  refine ⟨{ os := os.trans h.os, tape := tape.trans h.tape, output := output.trans h.output, hs := Nat.le_trans h.hs hs, old := fun i hi => (hk i (by omega) (by omega) (by omega) (by omega)).trans (h.old i hi), lo := fun i hi => (tg i (by omega) (by omega)).trans (h.lo i hi), new := fun i hi => (tg i (by omega) (by omega)).trans (h.new i (by omega)), rt := own h.rt (olt h.rt), rbb := h.rbb, et := own h.et (heap_lt h.eo), eo := heo, tt := own h.tt (heap_lt h.to), to := keep h.to (by simp) (by simp) h.tt, mt := own h.mt (heap_lt m1), mbb := h.mbb, mo := hmo, st := hrow (by decide) h.stt h.st, stt := fun i e => own (h.stt i e) (olt (h.stt i e)), fr := hrow (by decide) h.frt h.fr, frt := fun i e => own (h.frt i e) (olt (h.frt i e)), sr := fun x hx => (h.sr x hx).mono hs le cells, fl := fun d f hd => (h.fl d f hd).mono hs le cells fun i hi2 hB' hi' ht' => ?_, rm := hrm, ra := hra }, ⟨os, tape, output, hs, fun i hi hno => hk i hi (fun e => by subst e; rw [h.mt] at hno; cases hno) (fun e => by subst e; obtain ⟨lo, h1, _⟩ := hab hi; rw [h1] at hno; cases hno) (fun e => by subst e; rw [(hro hi).1] at hno; cases hno), le⟩⟩
  have e1 : i ≠ ab := nab hi' (fun lo => by rw [ht']; simp)
  have e2 : i ≠ ro := fun e => by subst e; rw [(hro hi').1] at ht'; cases ht'
  exact ⟨(tg i e1 e2).trans ht', hk i hi' (fun e => by subst e; rw [h.mt] at ht'; cases ht') e1 e2⟩
end Go.Proofs.YtdfllhmkgphcmaaDoor
namespace Go.Proofs.YtdfllhmkgphcmaaDoor
open Go.RowKit

/-- Which room begins at an address. -/
def rIdx (q : Addr) (R : List Rm) : Option Nat := R.findIdx? fun r => q == (⟨r.ab, r.st * 8, none⟩ : Addr)
theorem atK_rooms (q : Addr) : ∀ (R : List Rm) (es : List MapEntry), es.map (fun e => (e.key, e.val)) = R.map Rm.kv → atK (fun k => q == k) es = rIdx q R
  | [], es, h => by
    have : es = [] := by simpa using h
    subst this
    rfl
  | r :: R, [], h => by simp at h
  | r :: R, e :: es, h => by
    simp only [List.map_cons, List.cons.injEq] at h
    have ih := atK_rooms q R es h.2
    unfold atK rIdx at ih ⊢
    have hk : e.key = .pointer (some ⟨r.ab, r.st * 8, none⟩) := (Prod.mk.inj h.1).1
    simp only [List.findIdx?_cons, hk, ih]
theorem rIdx_some {q : Addr} {R : List Rm} {j : Nat} (h : rIdx q R = some j) : ∃ r, R[j]? = some r ∧ q = ⟨r.ab, r.st * 8, none⟩ := by
  unfold rIdx at h
  rw [List.findIdx?_eq_some_iff_getElem] at h
  obtain ⟨h1, h2, _⟩ := h
  exact ⟨R[j], by simp [h1], by simpa using h2⟩
theorem rooms_keys {b : Bl} {w : World} {g : Gh} (h : Mem b w g) {es : List MapEntry} (hm : es.map (fun e => (e.key, e.val)) = g.R.map Rm.kv) {q : Addr} {v : Value} (hq : w.cell? q = some v) :
    ∀ e ∈ es, ∃ k, e.key = .pointer (some k) ∧ (sameAddr q k).run Tryd.prog w = .ok (q == k) w := fun e he => by
  have h1 : (e.key, e.val) ∈ g.R.map Rm.kv := by rw [← hm]; exact List.mem_map.2 ⟨e, he, rfl⟩
  obtain ⟨r, hr, h2⟩ := List.mem_map.1 h1
  refine ⟨⟨r.ab, r.st * 8, none⟩, (Prod.mk.inj h2).1.symm, ?_⟩
  obtain ⟨cur, c1, _⟩ := (h.rm r hr).a
  by_cases e1 : q.block = r.ab
  · exact same_at e1
  · have : (q == (⟨r.ab, r.st * 8, none⟩ : Addr)) = false := by
      apply Bool.eq_false_iff.2
      intro e2
      exact e1 (by rw [eq_of_beq e2])
    rw [this]
    exact same_no e1 hq c1
theorem map_erase {α β : Type} (f : α → β) : ∀ (l : List α) (j : Nat), (l.eraseIdx j).map f = (l.map f).eraseIdx j
  | [], _ => rfl
  | _ :: _, 0 => rfl
  | x :: l, j + 1 => by simp [map_erase f l j]
/-- The entries without one. -/
theorem kv_erase {R : List Rm} {es : Array MapEntry} (hm : es.toList.map (fun e => (e.key, e.val)) = R.map Rm.kv) (j : Nat) : (es.eraseIdxIfInBounds j).toList.map (fun e => (e.key, e.val)) = (R.eraseIdx j).map Rm.kv := by
  have : (es.eraseIdxIfInBounds j).toList = es.toList.eraseIdx j := by
    unfold Array.eraseIdxIfInBounds
    split
    · simp
    · rename_i h1
      rw [List.eraseIdx_of_length_le (by simpa using h1)]
  rw [this, map_erase, map_erase, hm]
theorem kv_push {R : List Rm} {es : Array MapEntry} (hm : es.toList.map (fun e => (e.key, e.val)) = R.map Rm.kv) (r : Rm) (clk : Nat) : (es.push { key := r.kv.1, val := r.kv.2, born := clk }).toList.map (fun e => (e.key, e.val)) = (R ++ [r]).map Rm.kv := by
  simp [hm]
end Go.Proofs.YtdfllhmkgphcmaaDoor
namespace Go.Proofs.YtdfllhmkgphcmaaDoor
open Go.RowKit

/-- A world with a map's entries turned. -/
def mapw (w : World) (r : Nat) (es : Array MapEntry) (clk : Nat) : World := { w with heap := w.heap.setIfInBounds r (.map es clk) }
theorem mapw_size (w : World) (r : Nat) (es : Array MapEntry) (clk : Nat) : (mapw w r es clk).heap.size = w.heap.size := by simp [mapw]
theorem mapw_ne (w : World) (r : Nat) (es : Array MapEntry) (clk : Nat) {k : Nat} (h : k ≠ r) : (mapw w r es clk).heap[k]? = w.heap[k]? := by
  simp [mapw, Ne.symm h]
theorem mapw_at {w : World} {r : Nat} {es : Array MapEntry} {clk : Nat} (h : r < w.heap.size) : (mapw w r es clk).heap[r]? = some (.map es clk) := by
  simp [mapw, h]

theorem Mem.eb_mb {b : Bl} {w : World} {g : Gh} (h : Mem b w g) : b.eb ≠ b.mb := fun e => by
  obtain ⟨es, clk, m1, m2⟩ := h.mo
  have e1 := h.eo
  rw [e, m1] at e1
  simp only [Option.some.injEq, Obj.map.injEq] at e1
  rw [e1.1] at m2
  cases hR : g.R with
  | nil => rw [hR] at m2; simp [effs] at m2
  | cons r l => rw [hR] at m2; simp [effs, Rm.kv] at m2
/-- A room is forgotten. -/
theorem Mem.unroom {b : Bl} {w w' : World} {g : Gh} (h : Mem b w g) (os : w'.os = w.os) (tape : w'.tape = w.tape) (output : w'.output = w.output) (hs : w'.heap.size = w.heap.size) (hk : ∀ k, k ≠ b.mb → w'.heap[k]? = w.heap[k]?)
    (R' : List Rm) (hsub : R'.Sublist g.R) (hmo : ∃ es clk, w'.heap[b.mb]? = some (.map es clk) ∧ es.toList.map (fun e => (e.key, e.val)) = R'.map Rm.kv) :
    Mem b w' { g with R := R' } ∧ Ch w g w' { g with R := R' } := by
  have hmB := h.mbb
  obtain ⟨es, clk, m1, m2⟩ := h.mo
  have keep : ∀ {i : Nat} {o : Obj}, w.heap[i]? = some o → (∀ e c, o ≠ .map e c) → w'.heap[i]? = some o := fun {i o} h1 h2 => (hk i (fun e => by subst e; rw [m1] at h1; exact h2 _ _ (Option.some.inj h1).symm)).trans h1
  have cells : ∀ p : Addr, p.block < w.heap.size → sta b.B g.tag p → w'.cell? p = w.cell? p := fun p hp hs => by
    refine World.cell?_of_block (w := w) (hk _ fun e => ?_)
    have hmt := h.mt
    rcases hs with h1 | h1 | ⟨lo, sz, h1, _⟩ | ⟨d, hi, h1, _⟩
    · omega
    · rw [e, hmt] at h1; cases h1
    · rw [e, hmt] at h1; cases h1
    · rw [e, hmt] at h1; cases h1
  have hle : w.heap.size ≤ w'.heap.size := by omega
  refine ⟨{ os := os.trans h.os, tape := tape.trans h.tape, output := output.trans h.output, hs := by rw [hs]; exact h.hs, old := fun i hi => (hk i (by omega)).trans (h.old i hi), lo := h.lo, new := fun i hi => h.new i (by omega), rt := h.rt, rbb := h.rbb, et := h.et, eo := (hk _ h.eb_mb).trans h.eo, tt := h.tt, to := keep h.to (by simp), mt := h.mt, mbb := h.mbb, mo := hmo, st := row_keep h.st fun i cur e1 e2 => (keep e2 (by simp)).trans e2.symm, stt := h.stt, fr := row_keep h.fr fun i cur e1 e2 => (keep e2 (by simp)).trans e2.symm, frt := h.frt, sr := fun x hx => (h.sr x hx).mono hle (fun k _ => Tag.le_refl _) cells, fl := fun d f hd => (h.fl d f hd).mono hle (fun k _ => Tag.le_refl _) cells fun k hi hkB hk' ht => ⟨ht, hk k (fun e => by subst e; rw [h.mt] at ht; cases ht)⟩, rm := ?_, ra := h.ra.sublist hsub }, ⟨os, tape, output, hle, fun i hi hno => hk i (fun e => by subst e; rw [h.mt] at hno; cases hno), fun k _ => Tag.le_refl _⟩⟩
  intro r hr
  have q := h.rm r (hsub.subset hr)
  obtain ⟨cur, q1, q2⟩ := q.a
  exact { q with o := keep q.o (by simp), a := ⟨cur, keep q1 (by simp), q2⟩ }
theorem eraseIdx_sublist' {α : Type} (l : List α) (j : Nat) : (l.eraseIdx j).Sublist l := List.eraseIdx_sublist l j


theorem st8_ne (w : World) (g o : Nat) (x : AV) (q : Addr) (h : q.block ≠ g ∨ q.off < o ∨ o + 8 ≤ q.off) : (st8 w g o x).cell? q = w.cell? q := by
  unfold st8
  have hn : ∀ i, i < 8 → (⟨g, o + i, none⟩ : Addr) ≠ q := fun i hi e => by subst e; simp at h; omega
  have h0 := hn 0 (by omega)
  rw [Nat.add_zero] at h0
  have k : ∀ (W : World) (i : Nat) (v : Value), i < 8 → (W.setCell ⟨g, o + i, none⟩ v).cell? q = W.cell? q := fun W i v hi => World.cell?_setCell_other _ _ _ _ (hn i hi)
  have k0 : ∀ (W : World) (v : Value), (W.setCell ⟨g, o, none⟩ v).cell? q = W.cell? q := fun W v => World.cell?_setCell_other _ _ _ _ h0
  rw [k _ 7 _ (by omega), k _ 6 _ (by omega), k _ 5 _ (by omega), k _ 4 _ (by omega), k _ 3 _ (by omega), k _ 2 _ (by omega), k _ 1 _ (by omega), k0]
theorem st8_in {w : World} {g o : Nat} {x : AV} {cur : Array Value} {e : TypeId} (h : w.heap[g]? = some (.cells cur e (0, 0))) (hs : o + 8 ≤ cur.size) (i : Nat) (hi : i < 8) : (st8 w g o x).cell? ⟨g, o + i, none⟩ = x.cs[i]? := by
  rw [Lib.cell_of_heap (st8_heap h)]
  have : i = 0 ∨ i = 1 ∨ i = 2 ∨ i = 3 ∨ i = 4 ∨ i = 5 ∨ i = 6 ∨ i = 7 := by omega
  rcases this with rfl | rfl | rfl | rfl | rfl | rfl | rfl | rfl
  all_goals
    simp [Array.getElem?_setIfInBounds, AV.cs]
    omega
theorem st8_hp (w : World) (g o : Nat) (x : AV) {cur : Array Value} {e : TypeId} {fz : Nat × Nat} (h : w.heap[g]? = some (.cells cur e fz)) : ∃ cur', (st8 w g o x).heap[g]? = some (.cells cur' e fz) ∧ cur'.size = cur.size :=
  ⟨_, st8_heap h, by simp⟩

set_option maxHeartbeats 1000000 in
theorem ahead_mem {b : Bl} {w1 W w' : World} {g : Gh} (hm : Mem b w1 g) (hg : w1.grownBy W none) {ab st sz ro : Nat} {cur : Array Value} (hro : W.heap[ro]? = some (.cells #[.slice (some ⟨ab, 0, none⟩) sz sz, iv ((st + 1 : Nat) : Int)] 131 (0, 0))) (hab : W.heap[ab]? = some (.cells cur 54 (0, 0))) (hsz : cur.size = sz * 8)
    (habB : b.B ≤ ab) (hroB : b.B ≤ ro) (h1 : ab < w1.heap.size → g.tag ab = .arr ((st + 1) * 8) (sz * 8)) (h2 : ro < w1.heap.size → g.tag ro = .own) (hdis : ∀ r ∈ g.R, r.ab ≠ ab ∧ r.ro ≠ ro) {x : AV} {L : List AV} (hx : LRd b.B g.tag w1 x.A x.c x.list) (hL : ∀ y ∈ L, LRd b.B g.tag w1 y.A y.c y.list)
    (hlen : st + 1 + L.length = sz) (hs : sz ≤ 1000000000) (hc : ∀ (j : Nat) y, L[j]? = some y → ∀ (i : Nat) v, y.cs[i]? = some v → W.cell? ⟨ab, (st + 1 + j) * 8 + i, none⟩ = some v) {es : Array MapEntry} {clk : Nat} (hmo : w1.heap[b.mb]? = some (.map es clk)) (hkv : es.toList.map (fun e => (e.key, e.val)) = g.R.map Rm.kv)
    (heap : w'.heap = (mapw (st8 (W.setCell ⟨ro, 1, none⟩ (iv st)) ab (st * 8) x) b.mb (es.push { key := .pointer (some ⟨ab, st * 8, none⟩), val := .pointer (some ⟨ro, 0, none⟩), born := clk }) (clk + 1)).heap) (os : w'.os = w1.os) (tape : w'.tape = w1.tape) (output : w'.output = w1.output) :
    ∃ g', Mem b w' g' ∧ Ch w1 g w' g' ∧ g'.S = g.S ∧ g'.sv = g.sv ∧ g'.F = g.F ∧ g'.fv = g.fv ∧ LRd b.B g'.tag w' (some ⟨ab, st * 8, none⟩) (sz - st) (x :: L) ∧ ∀ c fz, w1.heap[b.rb]? = some (.cells c 87 fz) → w'.heap[b.rb]? = some (.cells c 87 fz) := by
  have hB := hm.hs
  have hmB := hm.mbb
  have hml := heap_lt hmo
  have hne : ab ≠ ro := fun e => by subst e; rw [hab] at hro; cases hro
  have hWm := (hg.block _ hml (by simp)).trans hmo
  have nam : ab ≠ b.mb := fun e => by subst e; rw [hab] at hWm; cases hWm
  have nrm : ro ≠ b.mb := fun e => by subst e; rw [hro] at hWm; cases hWm
  have hz : w'.heap.size = W.heap.size := by rw [heap, mapw_size, st8_size]; simp
  have cell : ∀ q : Addr, q.block ≠ b.mb → w'.cell? q = (st8 (W.setCell ⟨ro, 1, none⟩ (iv st)) ab (st * 8) x).cell? q := fun q hq => World.cell?_of_block (by rw [heap, mapw_ne _ _ _ _ hq])
  have hk : ∀ k, k ≠ b.mb → k ≠ ab → k ≠ ro → w'.heap[k]? = W.heap[k]? := fun k k1 k2 k3 => by
    rw [heap, mapw_ne _ _ _ _ k1, st8_other _ _ _ _ _ k2, Below.heap_setCell _ _ _ _ k3]
  have hk1 : ∀ k, k < w1.heap.size → k ≠ b.mb → k ≠ ab → k ≠ ro → w'.heap[k]? = w1.heap[k]? := fun k k0 k1 k2 k3 => (hk k k1 k2 k3).trans (hg.block k k0 (by simp))
  have hroW : w'.heap[ro]? = some (.cells #[.slice (some ⟨ab, 0, none⟩) sz sz, iv st] 131 (0, 0)) := by
    rw [heap, mapw_ne _ _ _ _ nrm, st8_other _ _ _ _ _ (Ne.symm hne), heap_set hro]
    simp
  have habS : (W.setCell ⟨ro, 1, none⟩ (iv st)).heap[ab]? = some (.cells cur 54 (0, 0)) := (Below.heap_setCell _ _ _ _ hne).trans hab
  obtain ⟨cur', ha', hs'⟩ := st8_hp _ ab (st * 8) x habS
  have habW : w'.heap[ab]? = some (.cells cur' 54 (0, 0)) := by rw [heap, mapw_ne _ _ _ _ nam]; exact ha'
  have hmW : w'.heap[b.mb]? = some (.map (es.push { key := .pointer (some ⟨ab, st * 8, none⟩), val := .pointer (some ⟨ro, 0, none⟩), born := clk }) (clk + 1)) := by
    rw [heap]
    exact mapw_at (by rw [st8_size]; simp; exact Nat.lt_of_lt_of_le hml hg.size)
  have far : ∀ q : Addr, q.block = ab → (st + 1) * 8 ≤ q.off → w'.cell? q = W.cell? q := fun q hq ho => by
    rw [cell q (by rw [hq]; exact nam), st8_ne _ _ _ _ _ (.inr (.inr (by omega)))]
    exact World.cell?_of_block (Below.heap_setCell _ _ _ _ (by rw [hq]; exact hne))
  have hcs : ∀ p : Addr, p.block = ab → p.block < w1.heap.size → sta b.B g.tag p → w'.cell? p = w1.cell? p := fun p hp hl hst => by
    have ht := h1 (hp ▸ hl)
    have : (st + 1) * 8 ≤ p.off := by
      rcases hst with h3 | h3 | ⟨lo, s, h3, h4⟩ | ⟨d, hi, h3, _⟩
      · omega
      · rw [hp, ht] at h3; cases h3
      · rw [hp, ht] at h3; cases h3; exact h4
      · rw [hp, ht] at h3; cases h3
    rw [far p hp this]
    exact World.cell?_of_block (hg.block _ hl (by simp))
  have nR : ∀ r ∈ g.R, r.ab ≠ ro ∧ r.ro ≠ ab ∧ r.ab ≠ b.mb ∧ r.ro ≠ b.mb ∧ r.ab < w1.heap.size ∧ r.ro < w1.heap.size := fun r hr => by
    have q := hm.rm r hr
    obtain ⟨c0, q1, q2⟩ := q.a
    have a1 := heap_lt q1
    have a2 := heap_lt q.o
    refine ⟨fun e => ?_, fun e => ?_, fun e => ?_, fun e => ?_, a1, a2⟩
    · have t1 := h2 (e ▸ a1); rw [← e, q.at_] at t1; cases t1
    · have t1 := h1 (e ▸ a2); rw [← e, q.ot] at t1; cases t1
    · rw [e, hmo] at q1; cases q1
    · have t1 := q.o; rw [e, hmo] at t1; cases t1
  have key := hm.rooms (w' := w') (ab := ab) (ro := ro) (lo' := st * 8) (sz := sz * 8) os tape output (by rw [hz]; exact hg.size) hne habB hroB (heap_lt habW) (heap_lt hroW) (fun hl => ⟨_, h1 hl, by omega⟩)
    (fun hl => ⟨h2 hl, _, (hg.block _ hl (by simp)).symm.trans hro⟩) hcs hk1 (g.R ++ [⟨ab, st, sz, ro⟩]) ⟨_, _, hmW, by have := kv_push hkv ⟨ab, st, sz, ro⟩ clk; exact this⟩ (fun r hr => ?_) ?_
  · obtain ⟨m', c'⟩ := key
    refine ⟨_, m', c', rfl, rfl, rfl, rfl, ?_, fun c fz hr => ?_⟩
    · have mono : ∀ {A : Option Addr} {c : Nat} {M : List AV}, LRd b.B g.tag w1 A c M → LRd b.B (upT (upT g.tag ab (.arr (st * 8) (sz * 8))) ro .own) w' A c M := fun h => by
        refine h.mono c'.size c'.tag fun p hp hst => ?_
        by_cases e : p.block = ab
        · exact hcs p e hp hst
        · refine World.cell?_of_block (hk1 _ hp (fun e2 => ?_) e (fun e2 => ?_))
          · rcases hst with h3 | h3 | ⟨lo, s, h3, _⟩ | ⟨d, hi, h3, _⟩
            · omega
            all_goals
              rw [e2, hm.mt] at h3; cases h3
          · have t1 := h2 (e2 ▸ hp)
            rcases hst with h3 | h3 | ⟨lo, s, h3, _⟩ | ⟨d, hi, h3, _⟩
            · omega
            all_goals
              rw [e2, t1] at h3; cases h3
      refine .mk (by simp; omega) (by omega) (fun e => by cases e) (fun a e => by cases e; exact heap_lt habW) (fun a lo s e ht => ?_) (fun a e j y hj i v hi => ?_) (fun y hy => ?_)
      · cases e
        simp only [upT_ne _ _ hne, upT_at, Tag.arr.injEq] at ht
        obtain ⟨rfl, rfl⟩ := ht
        simp only [List.length_cons]
        omega
      · cases e
        have hi8 : i < 8 := by
          rcases Nat.lt_or_ge i 8 with h' | h'
          · exact h'
          · rw [List.getElem?_eq_none (by rw [AV.cs_len]; exact h')] at hi; cases hi
        have ha : ((⟨ab, st * 8, none⟩ : Addr).add (j * 8 + i)) = ⟨ab, (st + j) * 8 + i, none⟩ := by
          by_cases e0 : j * 8 + i = 0
          · have : j = 0 ∧ i = 0 := by omega
            obtain ⟨rfl, rfl⟩ := this
            simp [Addr.add]
          · rw [fld_add _ _ e0]
            simp only [Addr.mk.injEq, and_true, true_and]
            omega
        rw [ha]
        refine ⟨?_, .inr (.inr (.inl ⟨st * 8, sz * 8, (upT_ne _ _ hne).trans (upT_at _ _ _), by show st * 8 ≤ (st + j) * 8 + i; omega⟩))⟩
        cases j with
        | zero =>
          simp at hj
          subst hj
          rw [cell _ nam, Nat.add_zero, st8_in habS (by rw [hsz]; omega) i hi8]
          exact hi
        | succ j =>
          rw [far _ rfl (by show (st + 1) * 8 ≤ (st + (j + 1)) * 8 + i; omega), show (st + (j + 1)) = st + 1 + j by omega]
          exact hc j y (by simpa using hj) i v hi
      · rcases List.mem_cons.1 hy with rfl | hy
        · exact mono hx
        · exact mono (hL y hy)
    · have hl := heap_lt hr
      refine (hk1 _ hl (fun e => ?_) (fun e => ?_) (fun e => ?_)).trans hr
      · rw [e, hmo] at hr; cases hr
      · have t1 := h1 (e ▸ hl); rw [← e, hm.rt] at t1; cases t1
      · have t1 := (hg.block _ hl (by simp)).trans hr
        rw [e, hro] at t1; cases t1
  · rcases List.mem_append.1 hr with hr | hr
    · have q := hm.rm r hr
      obtain ⟨d1, d2⟩ := hdis r hr
      obtain ⟨n1, n2, n3, n4, l1, l2⟩ := nR r hr
      obtain ⟨c0, q1, q2⟩ := q.a
      exact { q with o := (hk1 _ l2 n4 n2 d2).trans q.o, ot := by rw [upT_ne _ _ d2, upT_ne _ _ n2]; exact q.ot, a := ⟨c0, (hk1 _ l1 n3 d1 n1).trans q1, q2⟩, at_ := by rw [upT_ne _ _ n1, upT_ne _ _ d1]; exact q.at_ }
    · rw [List.mem_singleton] at hr
      subst hr
      exact ⟨hroW, upT_at _ _ _, hroB, ⟨cur', habW, by rw [hs', hsz]⟩, by rw [upT_ne _ _ hne, upT_at], habB, by show st ≤ sz; omega, hs⟩
  · rw [List.pairwise_append]
    refine ⟨hm.ra, by simp, fun r hr r' hr' => ?_⟩
    rw [List.mem_singleton] at hr'
    subst hr'
    exact hdis r hr
end Go.Proofs.YtdfllhmkgphcmaaDoor
namespace Go.Proofs.YtdfllhmkgphcmaaDoor
open Go.RowKit

section
variable {o : Oper} {a : Act} {w : World}
theorem op_lookup {x y : Tmp} {r : Nat} {q : Addr} {v : Value} (hd : o.dst.isSome = true) (ho : o.op = .lookup 85 (.tmp x) (.tmp y) false) (h : a.eval (.tmp x) = .map (some r)) (h' : a.eval (.tmp y) = .pointer (some q)) (hl : (Instr.lookup 85 (.map (some r)) (.pointer (some q)) false).run Tryd.prog w = .ok v w) : (execOp a.eval o).run Tryd.prog w = .ok (nx o v) w := by
  rw [nx_some hd]
  unfold Act.eval at h h'
  obtain ⟨d, op, t, ps, af, gu⟩ := o
  simp only at ho
  subst ho
  go_simp
theorem op_delete {x y : Tmp} {r : Nat} {q : Addr} {w' : World} (ho : o.op = .call { callee := .builtin .delete, args := #[.tmp x, .tmp y], argTypes := #[85, 129] }) (h : a.eval (.tmp x) = .map (some r)) (h' : a.eval (.tmp y) = .pointer (some q)) (hl : ∀ ty, (Builtin.delete_ #[85, 129] ty #[.map (some r), .pointer (some q)]).run Tryd.prog w = .ok (.tuple #[]) w') : (execOp a.eval o).run Tryd.prog w = .ok (.value (.tuple #[])) w' := by
  unfold Act.eval at h h'
  obtain ⟨d, op, t, ps, af, gu⟩ := o
  simp only at ho
  subst ho
  have hl' := hl t
  clear hl
  go_simp
theorem wl_value {P : Program} {ops : Array Oper} {rest : List Oper} {Q : Exit → Act → World → Prop} {v : Value} {w' : World} (hgd : o.guard = none) (hr : (execOp a.eval o).run P w = .ok (.value v) w') (h : wpList P ops Q rest (a.put o.dst v) w') : wpList P ops Q (o :: rest) a w := by
  refine wpList_plain hgd fun K hK => ?_
  unfold Oper.wp
  rw [hr]
  simp [Oper.upon]
  exact hK _ _ h
theorem op_mapUpdate {x y z : Tmp} {r : Nat} {q : Addr} {v : Value} {w' : World} (hd : o.dst.isSome = false) (ho : o.op = .mapUpdate 85 (.tmp x) (.tmp y) (.tmp z)) (h : a.eval (.tmp x) = .map (some r)) (h' : a.eval (.tmp y) = .pointer (some q)) (h2 : a.eval (.tmp z) = v) (hl : (Instr.mapUpdate 85 (.map (some r)) (.pointer (some q)) v).run Tryd.prog w = .ok () w') : (execOp a.eval o).run Tryd.prog w = .ok (nx o undef) w' := by
  rw [nx_none hd]
  unfold Act.eval at h h' h2
  obtain ⟨d, op, t, ps, af, gu⟩ := o
  simp only at ho
  subst ho
  go_simp
theorem op_copyd {x y : Tmp} {u v r : Value} {w' : World} (hd : o.dst.isSome = true) (ho : o.op = .call { callee := .builtin .copy, args := #[.tmp x, .tmp y], argTypes := #[33, 33] }) (h : a.eval (.tmp x) = u) (h' : a.eval (.tmp y) = v) (hl : ∀ ty, (Builtin.copy_ #[33, 33] ty #[u, v]).run Tryd.prog w = .ok r w') : (execOp a.eval o).run Tryd.prog w = .ok (nx o r) w' := by
  rw [nx_some hd]
  unfold Act.eval at h h'
  obtain ⟨d, op, t, ps, af, gu⟩ := o
  simp only at ho
  subst ho
  have hl' := hl t
  clear hl
  go_simp
theorem op_tail {x y : Tmp} {g n c k r m d : Nat} {ki : Int} (hr : k * 8 = r) (hm : n - k = m) (hc : c - k = d) (hd : o.dst.isSome = true) (ho : o.op = .slice 33 (.tmp x) (some (.tmp y)) none none) (h : a.eval (.tmp x) = .slice (some ⟨g, 0, none⟩) n c) (h' : a.eval (.tmp y) = .int .i64 ki) (hki : ki = k) (hk : k < n) (hnc : n ≤ c) : (execOp a.eval o).run Tryd.prog w = .ok (nx o (.slice (some ⟨g, r, none⟩) m d)) w := by
  rw [nx_some hd]
  subst hr hm hc hki
  unfold Act.eval at h h'
  obtain ⟨dd, op, t, ps, af, gu⟩ := o
  simp only at ho
  subst ho
  have t1 : (0 : Int) ≤ k := by omega
  have t2 : (k : Int) ≤ n := by omega
  have t3 : ((k : Int)).toNat = k := by omega
  have t4 : (n : Int) ≤ c := by omega
  have t5 : k < c := by omega
  have t6 : (k : Int) < c := by omega
  have t7 : ¬ (c - k = 0) := by omega
  have t8 : ¬ (k : Int) = c := by omega
  have t9 : ¬ c = k := by omega
  go_simp
end

/-- The box of a value. -/
def c8 (x : AV) : Obj := .cells #[iv x.kind, iv x.int, .slice x.A x.list.length x.c, iv x.block, eS, eS, nilS, nilS] 54
theorem c8_cell (x : AV) {W : World} {m : Nat} (h : W.heap[m]? = some (c8 x)) (i : Nat) (hi : i < 8) : W.cell? ⟨m, 0 + i, none⟩ = x.cs[i]? := by
  unfold c8 at h
  rw [Nat.zero_add, Lib.cell_of_heap h]
  have : i = 0 ∨ i = 1 ∨ i = 2 ∨ i = 3 ∨ i = 4 ∨ i = 5 ∨ i = 6 ∨ i = 7 := by omega
  rcases this with rfl | rfl | rfl | rfl | rfl | rfl | rfl | rfl <;> rfl

/-- The room that begins at an address. -/
def roomV (q : Addr) (R : List Rm) : Value := match rIdx q R with | some j => (match R[j]? with | some r => .pointer (some ⟨r.ro, 0, none⟩) | none => .pointer none) | none => .pointer none
def delR (q : Addr) (R : List Rm) : List Rm := match rIdx q R with | some j => R.eraseIdx j | none => R
theorem delR_sub (q : Addr) (R : List Rm) : (delR q R).Sublist R := by
  unfold delR
  split
  · exact List.eraseIdx_sublist R _
  · exact List.Sublist.refl _
theorem look_rooms {b : Bl} {w : World} {g : Gh} (h : Mem b w g) {q : Addr} {v : Value} (hq : w.cell? q = some v) {es : Array MapEntry} {clk : Nat} (hmo : w.heap[b.mb]? = some (.map es clk)) (hkv : es.toList.map (fun e => (e.key, e.val)) = g.R.map Rm.kv) :
    (Instr.lookup 85 (.map (some b.mb)) (.pointer (some q)) false).run Tryd.prog w = .ok (roomV q g.R) w := by
  have ks := rooms_keys h (es := es.toList) hkv hq
  rw [lookup_ptr (fun k => q == k) hmo ks, atK_rooms q g.R es.toList hkv]
  unfold roomV
  cases hj : rIdx q g.R with
  | none => rfl
  | some j =>
    obtain ⟨r, hr, _⟩ := rIdx_some hj
    have h1 := congrArg (fun l => l[j]?) hkv
    simp only [List.getElem?_map, hr, Option.map_some] at h1
    cases he : es.toList[j]? with
    | none => rw [he] at h1; simp at h1
    | some e =>
      rw [he] at h1
      simp [Rm.kv] at h1
      simp only [hr, he, h1.2]
theorem del_rooms {b : Bl} {w : World} {g : Gh} (h : Mem b w g) {q : Addr} {v : Value} (hq : w.cell? q = some v) {es : Array MapEntry} {clk : Nat} (hmo : w.heap[b.mb]? = some (.map es clk)) (hkv : es.toList.map (fun e => (e.key, e.val)) = g.R.map Rm.kv) :
    ∃ es' : Array MapEntry, es'.toList.map (fun e => (e.key, e.val)) = (delR q g.R).map Rm.kv ∧ ∀ ty, (Builtin.delete_ #[85, 129] ty #[.map (some b.mb), .pointer (some q)]).run Tryd.prog w = .ok (.tuple #[]) (mapw w b.mb es' clk) := by
  have ks := rooms_keys h (es := es.toList) hkv hq
  have ha := atK_rooms q g.R es.toList hkv
  unfold delR
  cases hj : rIdx q g.R with
  | none => exact ⟨es, hkv, fun ty => delete_no ty (fun k => q == k) hmo ks (ha.trans hj)⟩
  | some j =>
    obtain ⟨r, hr, _⟩ := rIdx_some hj
    have hlen : es.size = g.R.length := by simpa using congrArg List.length hkv
    have hlt : j < g.R.length := by
      rcases Nat.lt_or_ge j g.R.length with h' | h'
      · exact h'
      · rw [List.getElem?_eq_none h'] at hr; cases hr
    exact ⟨es.eraseIdxIfInBounds j, kv_erase hkv j, fun ty => delete_ptr ty (fun k => q == k) hmo ks (ha.trans hj) (by omega)⟩
theorem delR_ne {q : Addr} {R : List Rm} (hp : R.Pairwise fun r r' => r.ab ≠ r'.ab ∧ r.ro ≠ r'.ro) {j : Nat} {r : Rm} (hj : rIdx q R = some j) (hr : R[j]? = some r) : ∀ r' ∈ delR q R, r'.ab ≠ r.ab ∧ r'.ro ≠ r.ro := fun r' h' => by
  unfold delR at h'
  rw [hj] at h'
  simp only at h'
  obtain ⟨i, hi, hne, e⟩ := List.mem_eraseIdx_iff_getElem.1 h'
  obtain ⟨hjl, e2⟩ := List.getElem?_eq_some_iff.1 hr
  rw [List.pairwise_iff_getElem] at hp
  rcases Nat.lt_or_gt_of_ne hne with h1 | h1
  · have := hp i j hi hjl h1
    rw [e, e2] at this
    exact this
  · have := hp j i hjl hi h1
    rw [e, e2] at this
    exact ⟨Ne.symm this.1, Ne.symm this.2⟩

/-- A copy of records. -/
theorem copy8 (w : World) (ty : TypeId) (g o n dc sc : Nat) (A : Option Addr) (cur : Array Value) (cs : List Value) (hg : w.heap[g]? = some (.cells cur 54 (0, 0))) (hn : cs.length = n * 8) (hsrc : ∀ a, A = some a → ∀ j v, cs[j]? = some v → w.cell? (a.add j) = some v) (h0 : A = none → n = 0 ∧ sc = 0)
    (hfit : o + cs.length ≤ cur.size) (h1 : ∀ v ∈ cs, v.oneCell' = true) :
    (Builtin.copy_ #[33, 33] ty #[.slice (some ⟨g, o, none⟩) n dc, .slice A n sc]).run Tryd.prog w = .ok (goInt n) (w.setRow g (cur.toList.take o ++ cs ++ cur.toList.drop (o + cs.length)).toArray) := by
  obtain ⟨i0, hi, hz0, hz1, hz2⟩ := info_parts info54
  cases A with
  | none =>
    obtain ⟨rfl, rfl⟩ := h0 rfl
    have : cs = [] := by simpa using hn
    subst this
    rw [run_copy_nil Tryd.prog w 33 33 ty 54 _ _ _ Tryd.underlying33 (by rw [hi]; rfl)]
    have e : (cur.toList.take o ++ ([] : List Value) ++ cur.toList.drop (o + ([] : List Value).length)).toArray = cur := by simp
    rw [e, setRow_self w g cur 54 (0, 0) hg]
    rfl
  | some a =>
    have hl := run_loadCells_list (P := Tryd.prog) w a cs (hsrc a rfl)
    have hst := run_storeCells_at Tryd.prog g o 54 cs 0 cur w hg (by simpa using hfit) h1
    simp only [Nat.add_zero] at hst
    rw [hn] at hl
    simp [Builtin.copy_, run_underlying Tryd.underlying33, Builtin.lenOf, Builtin.firstCells, sizeOf, typeInfo, hi, hz1, hl, hst]
/-- Memory while a value is put ahead of a list. -/
structure AhS (b : Bl) (W : World) (x : AV) (M0 ro ab sz st : Nat) (es : Array MapEntry) (clk : Nat) : Prop where
  m : W.heap[M0]? = some (c8 x)
  rc : ∃ cs fz, W.heap[b.rb]? = some (.cells cs 87 fz) ∧ cs[9]? = some (.map (some b.mb))
  hmb : W.heap[b.mb]? = some (.map es clk)
  hro : W.heap[ro]? = some (.cells #[.slice (some ⟨ab, 0, none⟩) sz sz, iv st] 131 (0, 0))
  hab : ∃ cur, W.heap[ab]? = some (.cells cur 54 (0, 0)) ∧ cur.size = sz * 8
  nm : M0 ≠ ab
  ks : ∀ e ∈ es.toList, ∃ k0 o0, e.key = .pointer (some ⟨k0, o0, none⟩) ∧ k0 ≠ ab ∧ ∃ cur, W.heap[k0]? = some (.cells cur 54 (0, 0))
section
variable {b : Bl} {W : World} {x : AV} {M0 ro ab sz st : Nat} {es : Array MapEntry} {clk : Nat}
theorem AhS.heap (h : AhS b W x M0 ro ab sz st es clk) {W' : World} (e : W'.heap = W.heap) : AhS b W' x M0 ro ab sz st es clk := by
  obtain ⟨h1, h2, h3, h4, h5, h6, h7⟩ := h
  exact ⟨by rw [e]; exact h1, by rw [e]; exact h2, by rw [e]; exact h3, by rw [e]; exact h4, by rw [e]; exact h5, h6, by rw [e]; exact h7⟩
theorem AhS.n1 (h : AhS b W x M0 ro ab sz st es clk) : ro ≠ ab := fun e => by obtain ⟨c, h1, _⟩ := h.hab; have h2 := h.hro; rw [e, h1] at h2; cases h2
theorem AhS.n2 (h : AhS b W x M0 ro ab sz st es clk) : M0 ≠ ro := fun e => by have h2 := h.hro; rw [← e, h.m] at h2; unfold c8 at h2; cases h2
theorem AhS.n3 (h : AhS b W x M0 ro ab sz st es clk) : b.rb ≠ ro := fun e => by obtain ⟨c, f, h1, _⟩ := h.rc; have h2 := h.hro; rw [← e, h1] at h2; cases h2
theorem AhS.n4 (h : AhS b W x M0 ro ab sz st es clk) : b.mb ≠ ro := fun e => by have h2 := h.hro; rw [← e, h.hmb] at h2; cases h2
theorem AhS.n5 (h : AhS b W x M0 ro ab sz st es clk) : b.rb ≠ ab := fun e => by obtain ⟨c, f, h1, _⟩ := h.rc; obtain ⟨c2, h2, _⟩ := h.hab; rw [← e, h1] at h2; cases h2
theorem AhS.n6 (h : AhS b W x M0 ro ab sz st es clk) : b.mb ≠ ab := fun e => by obtain ⟨c2, h2, _⟩ := h.hab; rw [← e, h.hmb] at h2; cases h2
theorem AhS.set (h : AhS b W x M0 ro ab sz st es clk) (st' : Nat) : AhS b (W.setCell ⟨ro, 1, none⟩ (iv st')) x M0 ro ab sz st' es clk := by
  have k : ∀ i, i ≠ ro → (W.setCell ⟨ro, 1, none⟩ (iv st')).heap[i]? = W.heap[i]? := fun i hi => Below.heap_setCell _ _ _ _ hi
  refine ⟨(k _ h.n2).trans h.m, ?_, (k _ h.n4).trans h.hmb, (heap_set h.hro 1 _).trans (by simp), ?_, h.nm, fun e he => ?_⟩
  · rw [k _ h.n3]; exact h.rc
  · rw [k _ (Ne.symm h.n1)]; exact h.hab
  · obtain ⟨k0, o0, e1, e2, c, e3⟩ := h.ks e he
    exact ⟨k0, o0, e1, e2, c, (k _ (fun e => by have h2 := h.hro; rw [← e, e3] at h2; cases h2)).trans e3⟩
theorem AhS.st8 (h : AhS b W x M0 ro ab sz st es clk) (y : AV) (o : Nat) : AhS b (st8 W ab o y) x M0 ro ab sz st es clk := by
  have k : ∀ i, i ≠ ab → (Go.Proofs.YtdfllhmkgphcmaaDoor.st8 W ab o y).heap[i]? = W.heap[i]? := fun i hi => st8_other _ _ _ _ _ hi
  refine ⟨(k _ h.nm).trans h.m, ?_, (k _ h.n6).trans h.hmb, (k _ h.n1).trans h.hro, ?_, h.nm, fun e he => ?_⟩
  · rw [k _ h.n5]; exact h.rc
  · obtain ⟨c, h1, h2⟩ := h.hab
    obtain ⟨c', h3, h4⟩ := st8_hp W ab o y h1
    exact ⟨c', h3, h4.trans h2⟩
  · obtain ⟨k0, o0, e1, e2, c, e3⟩ := h.ks e he
    exact ⟨k0, o0, e1, e2, c, (k _ e2).trans e3⟩
theorem AhS.c9 (h : AhS b W x M0 ro ab sz st es clk) : W.cell? ⟨b.rb, 9, none⟩ = some (.map (some b.mb)) := by
  obtain ⟨c, f, h1, h2⟩ := h.rc
  simp [World.cell?, h1, h2]
theorem AhS.r0 (h : AhS b W x M0 ro ab sz st es clk) : W.cell? ⟨ro, 0, none⟩ = some (.slice (some ⟨ab, 0, none⟩) sz sz) := by simp [World.cell?, h.hro]
theorem AhS.r1 (h : AhS b W x M0 ro ab sz st es clk) : W.cell? ⟨ro, 1, none⟩ = some (iv st) := by simp [World.cell?, h.hro]
theorem AhS.rf (h : AhS b W x M0 ro ab sz st es clk) (j : Nat) : W.frozen? ⟨ro, j, none⟩ = false := by simp [World.frozen?, h.hro]
theorem AhS.af (h : AhS b W x M0 ro ab sz st es clk) (j : Nat) : W.frozen? ⟨ab, j, none⟩ = false := by
  obtain ⟨c, h1, _⟩ := h.hab
  simp [World.frozen?, h1]
theorem AhS.ac (h : AhS b W x M0 ro ab sz st es clk) (hs : st < sz) (i : Nat) (hi : i < 8) : (W.cell? ⟨ab, st * 8 + i, none⟩).isSome = true := by
  obtain ⟨c, h1, h2⟩ := h.hab
  have : st * 8 + i < c.size := by omega
  simp [World.cell?, h1, this]
theorem AhS.xc (h : AhS b W x M0 ro ab sz st es clk) (i : Nat) (hi : i < 8) : W.cell? ⟨M0, 0 + i, none⟩ = x.cs[i]? := c8_cell x h.m i hi
theorem AhS.upd (h : AhS b W x M0 ro ab sz st es clk) (hs : st < sz) (v : Value) : (Instr.mapUpdate 85 (.map (some b.mb)) (.pointer (some ⟨ab, st * 8, none⟩)) v).run Tryd.prog W = .ok () (mapw W b.mb (es.push { key := .pointer (some ⟨ab, st * 8, none⟩), val := v, born := clk }) (clk + 1)) := by
  obtain ⟨u, hu⟩ := Option.isSome_iff_exists.1 (h.ac hs 0 (by omega))
  rw [Nat.add_zero] at hu
  refine update_new (q := ⟨ab, st * 8, none⟩) v (fun k => (⟨ab, st * 8, none⟩ : Addr) == k) h.hmb (fun e he => ?_) ?_
  · obtain ⟨k0, o0, e1, e2, c, e3⟩ := h.ks e he
    refine ⟨_, e1, ?_⟩
    have : ((⟨ab, st * 8, none⟩ : Addr) == (⟨k0, o0, none⟩ : Addr)) = false := by
      apply Bool.eq_false_iff.2
      intro e4
      have := eq_of_beq e4
      simp at this
    rw [this]
    exact same_no (fun e => e2 e.symm) hu e3
  · unfold atK
    rw [List.findIdx?_eq_none_iff]
    intro e he
    obtain ⟨k0, o0, e1, e2, c, e3⟩ := h.ks e he
    rw [e1]
    apply Bool.eq_false_iff.2
    intro e4
    have := eq_of_beq e4
    simp at this
theorem AhS.q0 (h : AhS b W x M0 ro ab sz st es clk) (es' : Array MapEntry) (k : Nat) : (mapw W b.mb es' k).cell? ⟨ro, 0, none⟩ = some (.slice (some ⟨ab, 0, none⟩) sz sz) := (World.cell?_of_block (mapw_ne _ _ _ _ (Ne.symm h.n4))).trans h.r0
theorem AhS.q1 (h : AhS b W x M0 ro ab sz st es clk) (es' : Array MapEntry) (k : Nat) : (mapw W b.mb es' k).cell? ⟨ro, 1, none⟩ = some (iv st) := (World.cell?_of_block (mapw_ne _ _ _ _ (Ne.symm h.n4))).trans h.r1
end
theorem setCell_congr {w w' : World} (h : w.heap = w'.heap) (a : Addr) (v : Value) : (w.setCell a v).heap = (w'.setCell a v).heap := by simp [World.setCell, h]
theorem st8_congr {w w' : World} (h : w.heap = w'.heap) (g o : Nat) (x : AV) : (st8 w g o x).heap = (st8 w' g o x).heap := by
  unfold st8
  iterate 8 refine setCell_congr ?_ _ _
  exact h
theorem mapw_congr {w w' : World} (h : w.heap = w'.heap) (r : Nat) (es : Array MapEntry) (clk : Nat) : (mapw w r es clk).heap = (mapw w' r es clk).heap := by simp [mapw, h]
theorem ahead_fin {W0 W4 W5 W6 W7 : World} {x : AV} {ro ab st mb clk : Nat} {es : Array MapEntry} (H5 : W4.setCell ⟨ro, 1, none⟩ (iv st) = W5) (H6 : st8 W5.drew ab (st * 8) x = W6) (H7 : mapw W6.drew mb es clk = W7) (h0 : W4.heap = W0.heap) :
    W7.drew.heap = (mapw (st8 (W0.setCell ⟨ro, 1, none⟩ (iv st)) ab (st * 8) x) mb es clk).heap := by
  subst H7
  refine mapw_congr (w := W6.drew) ?_ _ _ _
  show W6.heap = _
  subst H6
  refine st8_congr ?_ _ _ _
  show W5.heap = _
  subst H5
  exact setCell_congr h0 _ _
theorem ahead_fin_os {W4 W5 W6 W7 : World} {x : AV} {ro ab st mb clk : Nat} {es : Array MapEntry} (H5 : W4.setCell ⟨ro, 1, none⟩ (iv st) = W5) (H6 : st8 W5.drew ab (st * 8) x = W6) (H7 : mapw W6.drew mb es clk = W7) : W7.drew.os = W4.os ∧ W7.drew.tape = W4.tape ∧ W7.drew.output = W4.output := by
  obtain ⟨a1, a2, a3⟩ := st8_os W5.drew ab (st * 8) x
  rw [H6] at a1 a2 a3
  have c : W5.os = W4.os ∧ W5.tape = W4.tape ∧ W5.output = W4.output := by rw [← H5]; exact ⟨rfl, rfl, rfl⟩
  have d : W7.os = W6.os ∧ W7.tape = W6.tape ∧ W7.output = W6.output := by rw [← H7]; exact ⟨rfl, rfl, rfl⟩
  exact ⟨d.1.trans (a1.trans c.1), d.2.1.trans (a2.trans c.2.1), d.2.2.trans (a3.trans c.2.2)⟩
end Go.Proofs.YtdfllhmkgphcmaaDoor
namespace Go.Proofs.YtdfllhmkgphcmaaDoor
open Go.RowKit

set_option maxRecDepth 100000 in
set_option maxHeartbeats 1000000 in
theorem ahead_room (b : Bl) (x : AV) (w : World) (q : Addr) (n c ro ab sz st : Nat) (es : Array MapEntry) (clk : Nat) (P : Ending → World → Prop) (N : Nat) (hN : N = st + 1) (hn : 0 < n) (hnc : n ≤ 1000000000) (hs : st + 1 ≤ sz) (hsz : sz ≤ 1000000000)
    (c9 : ∀ o k, ((w.alloc o).drewN k).cell? ⟨b.rb, 9, none⟩ = some (.map (some b.mb)))
    (LK : ∀ k, (Instr.lookup 85 (.map (some b.mb)) (.pointer (some q)) false).run Tryd.prog ((w.alloc (c8 x)).drewN k) = .ok (.pointer (some ⟨ro, 0, none⟩)) ((w.alloc (c8 x)).drewN k))
    (DL : ∀ k ty, (Builtin.delete_ #[85, 129] ty #[.map (some b.mb), .pointer (some q)]).run Tryd.prog ((w.alloc (c8 x)).drewN k) = .ok (.tuple #[]) (mapw ((w.alloc (c8 x)).drewN k) b.mb es clk))
    (S4 : ∀ k, AhS b (mapw ((w.alloc (c8 x)).drewN k) b.mb es clk) x w.heap.size ro ab sz N es clk)
    (FIN : ∀ w', w'.heap = (mapw (st8 ((mapw (w.alloc (c8 x)) b.mb es clk).setCell ⟨ro, 1, none⟩ (iv st)) ab (st * 8) x) b.mb (es.push { key := .pointer (some ⟨ab, st * 8, none⟩), val := .pointer (some ⟨ro, 0, none⟩), born := clk }) (clk + 1)).heap → w'.os = w.os → w'.tape = w.tape → w'.output = w.output →
      P (.returned (.slice (some ⟨ab, st * 8, none⟩) (sz - st) (sz - st))) w') :
    Calls Tryd.prog 93 #[.pointer (some ⟨b.rb, 0, none⟩), x.v, .slice (some q) n c] w P := by
  have z1 : (0 : Int) < (n : Int) := by omega
  have z2 : ((N : Int) == 0) = false := by simp; omega
  have z3 : IntKind.i64.wrap ((N : Int) - 1) = (st : Int) := by rw [IntWalk.i64_in _ (by omega)]; omega
  have hs' := Lib.hid hs
  have hN' := Lib.hid hN
  clear hN
  have LK := Lib.hid LK
  have DL := Lib.hid DL
  have S4 := Lib.hid S4
  have FIN := Lib.hid FIN
  have xe : x.v = .agg #[iv x.kind, iv x.int, .slice x.A x.list.length x.c, iv x.block, eS, eS, nilS, nilS] := rfl
  rw [xe]
  clear xe
  have we : w.alloc (.cells #[iv x.kind, iv x.int, .slice x.A x.list.length x.c, iv x.block, eS, eS, nilS, nilS] 54) = w.alloc (c8 x) := rfl
  have WE := Lib.hid we
  clear we
  go_enter Tryd.func93, Tryd.ntmps93
  go_wp2
  rw [WE.out]
  refine wp_phaseT [false, false, false, false, false, false, false, false] [[]] [Value.pointer (some ⟨b.rb, 0, none⟩), Value.pointer (some ⟨b.rb, 0, none⟩), Value.pointer (some ⟨b.rb, 9, none⟩), .map (some b.mb), Value.slice (some q) n c, .pointer (some q), Value.pointer (some ⟨ro, 0, none⟩), Value.pointer (some ⟨ro, 0, none⟩)] [_] 0 8 (by decide) (by kernel_rfl) (by kernel_rfl) (by kernel_rfl) (by kernel_rfl) rfl (by kernel_rfl) (fun h => absurd h (by decide)) (fun h => absurd h (by decide)) rfl rfl ⟨?_, ?_, ?_, ?_, ?_, ?_, ?_, ?_, trivial⟩ rfl (by kernel_rfl) ?_
  · intro kk aa hk E
    have h0 : aa.eval (.tmp 0) = Value.pointer (some ⟨b.rb, 0, none⟩) := (E 0 (by kernel_rfl)).trans (by kernel_rfl)
    exact obl_pure (by kernel_rfl) rfl hk fun w => op_move rfl rfl h0
  · intro kk aa hk E
    have h12 : aa.eval (.tmp 12) = Value.pointer (some ⟨b.rb, 0, none⟩) := (E 12 (by kernel_rfl)).trans (by kernel_rfl)
    exact obl_pure (by kernel_rfl) rfl hk fun w => op_nil rfl rfl h12
  · intro kk aa hk E
    have h13 : aa.eval (.tmp 13) = Value.pointer (some ⟨b.rb, 0, none⟩) := (E 13 (by kernel_rfl)).trans (by kernel_rfl)
    exact obl_pure (by kernel_rfl) rfl hk fun w => op_fa (k := 9) rfl rfl rfl h13
  · intro kk aa hk E
    have h14 : aa.eval (.tmp 14) = Value.pointer (some ⟨b.rb, 9, none⟩) := (E 14 (by kernel_rfl)).trans (by kernel_rfl)
    refine obl_read (ks := [0]) (by kernel_rfl) (by kernel_rfl) rfl hk ⟨?_, trivial⟩
    · intro w' hw; cases hw; exact op_load1 rfl (by decide) rfl h14 (c9 _ 1)
  · intro kk aa hk E
    have h2 : aa.eval (.tmp 2) = Value.slice (some q) n c := (E 2 (by kernel_rfl)).trans (by kernel_rfl)
    exact obl_pure (by kernel_rfl) rfl hk fun w => op_move rfl rfl h2
  · intro kk aa hk E
    have h16 : aa.eval (.tmp 16) = Value.slice (some q) n c := (E 16 (by kernel_rfl)).trans (by kernel_rfl)
    exact obl_pure (by kernel_rfl) rfl hk fun w => op_index0' rfl rfl h16 (by omega)
  · intro kk aa hk E
    have h15 : aa.eval (.tmp 15) = .map (some b.mb) := (E 15 (by kernel_rfl)).trans (by kernel_rfl)
    have h17 : aa.eval (.tmp 17) = .pointer (some q) := (E 17 (by kernel_rfl)).trans (by kernel_rfl)
    refine obl_read (ks := [0]) (by kernel_rfl) (by kernel_rfl) rfl hk ⟨?_, trivial⟩
    · intro w' hw; cases hw; exact op_lookup rfl rfl h15 h17 (LK.out 1)
  · intro kk aa hk E
    have h18 : aa.eval (.tmp 18) = Value.pointer (some ⟨ro, 0, none⟩) := (E 18 (by kernel_rfl)).trans (by kernel_rfl)
    exact obl_pure (by kernel_rfl) rfl hk fun w => op_assign rfl rfl h18
  intro af haf
  simp only [List.take_succ_cons, List.take_zero, finA, Act.put, List.setIfInBounds_toArray, List.set_cons_succ, List.set_cons_zero] at haf
  subst haf
  simp only [List.drop_succ_cons, List.drop_zero]
  go_wp2
  refine wp_phaseT [false, false, false, false, false, false] [[]] [Value.pointer (some ⟨b.rb, 0, none⟩), Value.pointer (some ⟨b.rb, 0, none⟩), Value.pointer (some ⟨b.rb, 9, none⟩), .map (some b.mb), Value.slice (some q) n c, .pointer (some q)] [_] 0 6 (by decide) (by kernel_rfl) (by kernel_rfl) (by kernel_rfl) (by kernel_rfl) rfl (by kernel_rfl) (fun _ => by kernel_rfl) (fun _ => by kernel_rfl) rfl rfl ⟨?_, ?_, ?_, ?_, ?_, ?_, trivial⟩ rfl (by kernel_rfl) ?_
  · intro kk aa hk E
    have h0 : aa.eval (.tmp 0) = Value.pointer (some ⟨b.rb, 0, none⟩) := (E 0 (by kernel_rfl)).trans (by kernel_rfl)
    exact obl_pure (by kernel_rfl) rfl hk fun w => op_move rfl rfl h0
  · intro kk aa hk E
    have h19 : aa.eval (.tmp 19) = Value.pointer (some ⟨b.rb, 0, none⟩) := (E 19 (by kernel_rfl)).trans (by kernel_rfl)
    exact obl_pure (by kernel_rfl) rfl hk fun w => op_nil rfl rfl h19
  · intro kk aa hk E
    have h20 : aa.eval (.tmp 20) = Value.pointer (some ⟨b.rb, 0, none⟩) := (E 20 (by kernel_rfl)).trans (by kernel_rfl)
    exact obl_pure (by kernel_rfl) rfl hk fun w => op_fa (k := 9) rfl rfl rfl h20
  · intro kk aa hk E
    have h21 : aa.eval (.tmp 21) = Value.pointer (some ⟨b.rb, 9, none⟩) := (E 21 (by kernel_rfl)).trans (by kernel_rfl)
    refine obl_read (ks := [0]) (by kernel_rfl) (by kernel_rfl) rfl hk ⟨?_, trivial⟩
    · intro w' hw; cases hw; exact op_load1 rfl (by decide) rfl h21 (c9 _ 2)
  · intro kk aa hk E
    have h2 : aa.eval (.tmp 2) = Value.slice (some q) n c := (E 2 (by kernel_rfl)).trans (by kernel_rfl)
    exact obl_pure (by kernel_rfl) rfl hk fun w => op_move rfl rfl h2
  · intro kk aa hk E
    have h23 : aa.eval (.tmp 23) = Value.slice (some q) n c := (E 23 (by kernel_rfl)).trans (by kernel_rfl)
    exact obl_pure (by kernel_rfl) rfl hk fun w => op_index0' rfl rfl h23 (by omega)
  intro af haf
  simp only [List.take_succ_cons, List.take_zero, finA, Act.put, List.setIfInBounds_toArray, List.set_cons_succ, List.set_cons_zero] at haf
  subst haf
  simp only [List.drop_succ_cons, List.drop_zero]
  refine wl_value (w' := mapw ((w.alloc (c8 x)).drewN 2) b.mb es clk) rfl (op_delete (x := 22) (y := 24) rfl rfl rfl (DL.out 2)) ?_
  have s4 := S4.out 2
  generalize hW4 : mapw ((w.alloc (c8 x)).drewN 2) b.mb es clk = W4 at s4 ⊢
  have H4 := Lib.hid hW4
  clear hW4
  have f0 := s4.r0
  have f1 := s4.r1
  have ff := s4.rf
  have S4' := Lib.hid s4
  clear s4
  go_wp2
  have s5 := S4'.out.set st
  generalize hW5 : W4.setCell ⟨ro, 1, none⟩ (Value.int IntKind.i64 ↑st) = W5 at s5 ⊢
  have H5 := Lib.hid hW5
  clear hW5 f0 f1 ff
  refine wp_phaseT [false, false, false, false, false, false, false, false, false, false, true] [[], [10]] [Value.pointer (some ⟨ro, 0, none⟩), Value.pointer (some ⟨ro, 0, none⟩), Value.pointer (some ⟨ro, 0, none⟩), .slice (some ⟨ab, 0, none⟩) sz sz, Value.pointer (some ⟨ro, 0, none⟩), Value.pointer (some ⟨ro, 0, none⟩), Value.pointer (some ⟨ro, 1, none⟩), iv st, x.v, Value.pointer (some ⟨ab, st * 8, none⟩), undef] [_, (st8 W5.drew ab (st * 8) x)] 1 11 (by decide) (by kernel_rfl) (by kernel_rfl) (by kernel_rfl) (by kernel_rfl) rfl (by kernel_rfl) (fun h => absurd h (by decide)) (fun h => absurd h (by decide)) rfl rfl ⟨?_, ?_, ?_, ?_, ?_, ?_, ?_, ?_, ?_, ?_, ?_, trivial⟩ rfl (by kernel_rfl) ?_
  · intro kk aa hk E
    have h7 : aa.eval (.tmp 7) = Value.pointer (some ⟨ro, 0, none⟩) := (E 7 (by kernel_rfl)).trans (by kernel_rfl)
    exact obl_pure (by kernel_rfl) rfl hk fun w => op_move rfl rfl h7
  · intro kk aa hk E
    have h64 : aa.eval (.tmp 64) = Value.pointer (some ⟨ro, 0, none⟩) := (E 64 (by kernel_rfl)).trans (by kernel_rfl)
    exact obl_pure (by kernel_rfl) rfl hk fun w => op_nil rfl rfl h64
  · intro kk aa hk E
    have h65 : aa.eval (.tmp 65) = Value.pointer (some ⟨ro, 0, none⟩) := (E 65 (by kernel_rfl)).trans (by kernel_rfl)
    exact obl_pure (by kernel_rfl) rfl hk fun w => op_fa (k := 0) rfl rfl rfl h65
  · intro kk aa hk E
    have h66 : aa.eval (.tmp 66) = Value.pointer (some ⟨ro, 0, none⟩) := (E 66 (by kernel_rfl)).trans (by kernel_rfl)
    refine obl_read (ks := [0]) (by kernel_rfl) (by kernel_rfl) rfl hk ⟨?_, trivial⟩
    · intro w' hw; cases hw; exact op_load1 rfl (by decide) rfl h66 s5.r0
  · intro kk aa hk E
    have h7 : aa.eval (.tmp 7) = Value.pointer (some ⟨ro, 0, none⟩) := (E 7 (by kernel_rfl)).trans (by kernel_rfl)
    exact obl_pure (by kernel_rfl) rfl hk fun w => op_move rfl rfl h7
  · intro kk aa hk E
    have h68 : aa.eval (.tmp 68) = Value.pointer (some ⟨ro, 0, none⟩) := (E 68 (by kernel_rfl)).trans (by kernel_rfl)
    exact obl_pure (by kernel_rfl) rfl hk fun w => op_nil rfl rfl h68
  · intro kk aa hk E
    have h69 : aa.eval (.tmp 69) = Value.pointer (some ⟨ro, 0, none⟩) := (E 69 (by kernel_rfl)).trans (by kernel_rfl)
    exact obl_pure (by kernel_rfl) rfl hk fun w => op_fa (k := 1) rfl rfl rfl h69
  · intro kk aa hk E
    have h70 : aa.eval (.tmp 70) = Value.pointer (some ⟨ro, 1, none⟩) := (E 70 (by kernel_rfl)).trans (by kernel_rfl)
    refine obl_read (ks := [0]) (by kernel_rfl) (by kernel_rfl) rfl hk ⟨?_, trivial⟩
    · intro w' hw; cases hw; exact op_load1 rfl (by decide) rfl h70 s5.r1
  · intro kk aa hk E
    have h4 : aa.eval (.tmp 4) = Value.pointer (some ⟨w.heap.size, 0, none⟩) := (E 4 (by kernel_rfl)).trans (by kernel_rfl)
    refine obl_read (ks := [0]) (by kernel_rfl) (by kernel_rfl) rfl hk ⟨?_, trivial⟩
    · intro w' hw; cases hw; exact op_load54 (vs := x.cs) rfl rfl rfl h4 s5.xc
  · intro kk aa hk E
    have h67 : aa.eval (.tmp 67) = .slice (some ⟨ab, 0, none⟩) sz sz := (E 67 (by kernel_rfl)).trans (by kernel_rfl)
    have h71 : aa.eval (.tmp 71) = iv st := (E 71 (by kernel_rfl)).trans (by kernel_rfl)
    exact obl_pure (by kernel_rfl) rfl hk fun w => op_index (sz := 8) (k := st) (Nat.zero_add _) rfl (.inl ⟨rfl, rfl⟩) rfl h67 h71 rfl (by omega)
  · intro kk aa hk E
    have h73 : aa.eval (.tmp 73) = Value.pointer (some ⟨ab, st * 8, none⟩) := (E 73 (by kernel_rfl)).trans (by kernel_rfl)
    have h72 : aa.eval (.tmp 72) = x.v := (E 72 (by kernel_rfl)).trans (by kernel_rfl)
    exact obl_write (ks := [0]) (by kernel_rfl) (by kernel_rfl) hk ⟨⟨1, _, _, by kernel_rfl, rfl, rfl, op_st8 rfl rfl h73 h72 (fun i hi => s5.ac (by omega) i hi) s5.af⟩, trivial⟩
  intro af haf
  simp only [List.take_succ_cons, List.take_zero, finA, Act.put, List.setIfInBounds_toArray, List.set_cons_succ, List.set_cons_zero] at haf
  subst haf
  simp only [List.drop_succ_cons, List.drop_zero]
  have s5d : AhS b W5.drew x w.heap.size ro ab sz st es clk := AhS.heap s5 rfl
  have s6 := s5d.st8 x (st * 8)
  generalize hW6 : st8 W5.drew ab (st * 8) x = W6 at s6 ⊢
  have s6 : AhS b W6.drew x w.heap.size ro ab sz st es clk := AhS.heap s6 rfl
  have H6 := Lib.hid hW6
  clear hW6
  have u6 := s6.upd (by omega) (.pointer (some ⟨ro, 0, none⟩))
  have U6 := Lib.hid u6
  clear u6
  have S6 := Lib.hid s6
  clear s6 s5 s5d
  go_wp2
  have s6 := S6.out
  refine wp_phaseT [false, false, false, false, false, false, false, false, false, false, false, false, false, false, true] [[], [14]] [Value.pointer (some ⟨b.rb, 0, none⟩), Value.pointer (some ⟨b.rb, 0, none⟩), Value.pointer (some ⟨b.rb, 9, none⟩), .map (some b.mb), Value.pointer (some ⟨ro, 0, none⟩), Value.pointer (some ⟨ro, 0, none⟩), Value.pointer (some ⟨ro, 0, none⟩), .slice (some ⟨ab, 0, none⟩) sz sz, Value.pointer (some ⟨ro, 0, none⟩), Value.pointer (some ⟨ro, 0, none⟩), Value.pointer (some ⟨ro, 1, none⟩), iv st, Value.pointer (some ⟨ab, st * 8, none⟩), Value.pointer (some ⟨ro, 0, none⟩), undef] [_, (mapw W6.drew b.mb (es.push { key := .pointer (some ⟨ab, st * 8, none⟩), val := .pointer (some ⟨ro, 0, none⟩), born := clk }) (clk + 1))] 1 15 (by decide) (by kernel_rfl) (by kernel_rfl) (by kernel_rfl) (by kernel_rfl) rfl (by kernel_rfl) (fun h => absurd h (by decide)) (fun h => absurd h (by decide)) rfl rfl ⟨?_, ?_, ?_, ?_, ?_, ?_, ?_, ?_, ?_, ?_, ?_, ?_, ?_, ?_, ?_, trivial⟩ rfl (by kernel_rfl) ?_
  · intro kk aa hk E
    have h0 : aa.eval (.tmp 0) = Value.pointer (some ⟨b.rb, 0, none⟩) := (E 0 (by kernel_rfl)).trans (by kernel_rfl)
    exact obl_pure (by kernel_rfl) rfl hk fun w => op_move rfl rfl h0
  · intro kk aa hk E
    have h74 : aa.eval (.tmp 74) = Value.pointer (some ⟨b.rb, 0, none⟩) := (E 74 (by kernel_rfl)).trans (by kernel_rfl)
    exact obl_pure (by kernel_rfl) rfl hk fun w => op_nil rfl rfl h74
  · intro kk aa hk E
    have h75 : aa.eval (.tmp 75) = Value.pointer (some ⟨b.rb, 0, none⟩) := (E 75 (by kernel_rfl)).trans (by kernel_rfl)
    exact obl_pure (by kernel_rfl) rfl hk fun w => op_fa (k := 9) rfl rfl rfl h75
  · intro kk aa hk E
    have h76 : aa.eval (.tmp 76) = Value.pointer (some ⟨b.rb, 9, none⟩) := (E 76 (by kernel_rfl)).trans (by kernel_rfl)
    refine obl_read (ks := [0]) (by kernel_rfl) (by kernel_rfl) rfl hk ⟨?_, trivial⟩
    · intro w' hw; cases hw; exact op_load1 rfl (by decide) rfl h76 s6.c9
  · intro kk aa hk E
    have h7 : aa.eval (.tmp 7) = Value.pointer (some ⟨ro, 0, none⟩) := (E 7 (by kernel_rfl)).trans (by kernel_rfl)
    exact obl_pure (by kernel_rfl) rfl hk fun w => op_move rfl rfl h7
  · intro kk aa hk E
    have h78 : aa.eval (.tmp 78) = Value.pointer (some ⟨ro, 0, none⟩) := (E 78 (by kernel_rfl)).trans (by kernel_rfl)
    exact obl_pure (by kernel_rfl) rfl hk fun w => op_nil rfl rfl h78
  · intro kk aa hk E
    have h79 : aa.eval (.tmp 79) = Value.pointer (some ⟨ro, 0, none⟩) := (E 79 (by kernel_rfl)).trans (by kernel_rfl)
    exact obl_pure (by kernel_rfl) rfl hk fun w => op_fa (k := 0) rfl rfl rfl h79
  · intro kk aa hk E
    have h80 : aa.eval (.tmp 80) = Value.pointer (some ⟨ro, 0, none⟩) := (E 80 (by kernel_rfl)).trans (by kernel_rfl)
    refine obl_read (ks := [0]) (by kernel_rfl) (by kernel_rfl) rfl hk ⟨?_, trivial⟩
    · intro w' hw; cases hw; exact op_load1 rfl (by decide) rfl h80 s6.r0
  · intro kk aa hk E
    have h7 : aa.eval (.tmp 7) = Value.pointer (some ⟨ro, 0, none⟩) := (E 7 (by kernel_rfl)).trans (by kernel_rfl)
    exact obl_pure (by kernel_rfl) rfl hk fun w => op_move rfl rfl h7
  · intro kk aa hk E
    have h82 : aa.eval (.tmp 82) = Value.pointer (some ⟨ro, 0, none⟩) := (E 82 (by kernel_rfl)).trans (by kernel_rfl)
    exact obl_pure (by kernel_rfl) rfl hk fun w => op_nil rfl rfl h82
  · intro kk aa hk E
    have h83 : aa.eval (.tmp 83) = Value.pointer (some ⟨ro, 0, none⟩) := (E 83 (by kernel_rfl)).trans (by kernel_rfl)
    exact obl_pure (by kernel_rfl) rfl hk fun w => op_fa (k := 1) rfl rfl rfl h83
  · intro kk aa hk E
    have h84 : aa.eval (.tmp 84) = Value.pointer (some ⟨ro, 1, none⟩) := (E 84 (by kernel_rfl)).trans (by kernel_rfl)
    refine obl_read (ks := [0]) (by kernel_rfl) (by kernel_rfl) rfl hk ⟨?_, trivial⟩
    · intro w' hw; cases hw; exact op_load1 rfl (by decide) rfl h84 s6.r1
  · intro kk aa hk E
    have h81 : aa.eval (.tmp 81) = .slice (some ⟨ab, 0, none⟩) sz sz := (E 81 (by kernel_rfl)).trans (by kernel_rfl)
    have h85 : aa.eval (.tmp 85) = iv st := (E 85 (by kernel_rfl)).trans (by kernel_rfl)
    exact obl_pure (by kernel_rfl) rfl hk fun w => op_index (sz := 8) (k := st) (Nat.zero_add _) rfl (.inl ⟨rfl, rfl⟩) rfl h81 h85 rfl (by omega)
  · intro kk aa hk E
    have h7 : aa.eval (.tmp 7) = Value.pointer (some ⟨ro, 0, none⟩) := (E 7 (by kernel_rfl)).trans (by kernel_rfl)
    exact obl_pure (by kernel_rfl) rfl hk fun w => op_move rfl rfl h7
  · intro kk aa hk E
    have h77 : aa.eval (.tmp 77) = .map (some b.mb) := (E 77 (by kernel_rfl)).trans (by kernel_rfl)
    have h86 : aa.eval (.tmp 86) = Value.pointer (some ⟨ab, st * 8, none⟩) := (E 86 (by kernel_rfl)).trans (by kernel_rfl)
    have h87 : aa.eval (.tmp 87) = Value.pointer (some ⟨ro, 0, none⟩) := (E 87 (by kernel_rfl)).trans (by kernel_rfl)
    exact obl_write (ks := [0]) (by kernel_rfl) (by kernel_rfl) hk ⟨⟨1, _, _, by kernel_rfl, rfl, rfl, op_mapUpdate rfl rfl h77 h86 h87 U6.out⟩, trivial⟩
  intro af haf
  simp only [List.take_succ_cons, List.take_zero, finA, Act.put, List.setIfInBounds_toArray, List.set_cons_succ, List.set_cons_zero] at haf
  subst haf
  simp only [List.drop_succ_cons, List.drop_zero]
  have q0 := s6.q0 (es.push { key := .pointer (some ⟨ab, st * 8, none⟩), val := .pointer (some ⟨ro, 0, none⟩), born := clk }) (clk + 1)
  have q1 := s6.q1 (es.push { key := .pointer (some ⟨ab, st * 8, none⟩), val := .pointer (some ⟨ro, 0, none⟩), born := clk }) (clk + 1)
  generalize hW7 : mapw W6.drew b.mb (es.push { key := .pointer (some ⟨ab, st * 8, none⟩), val := .pointer (some ⟨ro, 0, none⟩), born := clk }) (clk + 1) = W7 at q0 q1 ⊢
  have H7 := Lib.hid hW7
  have Q0 := Lib.hid q0
  have Q1 := Lib.hid q1
  clear hW7 s6 q0 q1
  go_wp2
  refine wp_phaseT [false, false, false, false, false, false, false, false, false, false] [[]] [Value.pointer (some ⟨ro, 0, none⟩), Value.pointer (some ⟨ro, 0, none⟩), Value.pointer (some ⟨ro, 0, none⟩), .slice (some ⟨ab, 0, none⟩) sz sz, Value.pointer (some ⟨ro, 0, none⟩), Value.pointer (some ⟨ro, 0, none⟩), Value.pointer (some ⟨ro, 1, none⟩), iv st, .slice (some ⟨ab, st * 8, none⟩) (sz - st) (sz - st), .slice (some ⟨ab, st * 8, none⟩) (sz - st) (sz - st)] [_] 0 10 (by decide) (by kernel_rfl) (by kernel_rfl) (by kernel_rfl) (by kernel_rfl) rfl (by kernel_rfl) (fun h => absurd h (by decide)) (fun h => absurd h (by decide)) rfl rfl ⟨?_, ?_, ?_, ?_, ?_, ?_, ?_, ?_, ?_, ?_, trivial⟩ rfl (by kernel_rfl) ?_
  · intro kk aa hk E
    have h7 : aa.eval (.tmp 7) = Value.pointer (some ⟨ro, 0, none⟩) := (E 7 (by kernel_rfl)).trans (by kernel_rfl)
    exact obl_pure (by kernel_rfl) rfl hk fun w => op_move rfl rfl h7
  · intro kk aa hk E
    have h88 : aa.eval (.tmp 88) = Value.pointer (some ⟨ro, 0, none⟩) := (E 88 (by kernel_rfl)).trans (by kernel_rfl)
    exact obl_pure (by kernel_rfl) rfl hk fun w => op_nil rfl rfl h88
  · intro kk aa hk E
    have h89 : aa.eval (.tmp 89) = Value.pointer (some ⟨ro, 0, none⟩) := (E 89 (by kernel_rfl)).trans (by kernel_rfl)
    exact obl_pure (by kernel_rfl) rfl hk fun w => op_fa (k := 0) rfl rfl rfl h89
  · intro kk aa hk E
    have h90 : aa.eval (.tmp 90) = Value.pointer (some ⟨ro, 0, none⟩) := (E 90 (by kernel_rfl)).trans (by kernel_rfl)
    refine obl_read (ks := [0]) (by kernel_rfl) (by kernel_rfl) rfl hk ⟨?_, trivial⟩
    · intro w' hw; cases hw; exact op_load1 rfl (by decide) rfl h90 Q0.out
  · intro kk aa hk E
    have h7 : aa.eval (.tmp 7) = Value.pointer (some ⟨ro, 0, none⟩) := (E 7 (by kernel_rfl)).trans (by kernel_rfl)
    exact obl_pure (by kernel_rfl) rfl hk fun w => op_move rfl rfl h7
  · intro kk aa hk E
    have h92 : aa.eval (.tmp 92) = Value.pointer (some ⟨ro, 0, none⟩) := (E 92 (by kernel_rfl)).trans (by kernel_rfl)
    exact obl_pure (by kernel_rfl) rfl hk fun w => op_nil rfl rfl h92
  · intro kk aa hk E
    have h93 : aa.eval (.tmp 93) = Value.pointer (some ⟨ro, 0, none⟩) := (E 93 (by kernel_rfl)).trans (by kernel_rfl)
    exact obl_pure (by kernel_rfl) rfl hk fun w => op_fa (k := 1) rfl rfl rfl h93
  · intro kk aa hk E
    have h94 : aa.eval (.tmp 94) = Value.pointer (some ⟨ro, 1, none⟩) := (E 94 (by kernel_rfl)).trans (by kernel_rfl)
    refine obl_read (ks := [0]) (by kernel_rfl) (by kernel_rfl) rfl hk ⟨?_, trivial⟩
    · intro w' hw; cases hw; exact op_load1 rfl (by decide) rfl h94 Q1.out
  · intro kk aa hk E
    have h91 : aa.eval (.tmp 91) = .slice (some ⟨ab, 0, none⟩) sz sz := (E 91 (by kernel_rfl)).trans (by kernel_rfl)
    have h95 : aa.eval (.tmp 95) = iv st := (E 95 (by kernel_rfl)).trans (by kernel_rfl)
    exact obl_pure (by kernel_rfl) rfl hk fun w => op_tail rfl rfl rfl rfl rfl h91 h95 rfl (by omega) (Nat.le_refl _)
  · intro kk aa hk E
    have h96 : aa.eval (.tmp 96) = .slice (some ⟨ab, st * 8, none⟩) (sz - st) (sz - st) := (E 96 (by kernel_rfl)).trans (by kernel_rfl)
    exact obl_pure (by kernel_rfl) rfl hk fun w => op_assign rfl rfl h96
  intro af haf
  simp only [List.take_succ_cons, List.take_zero, finA, Act.put, List.setIfInBounds_toArray, List.set_cons_succ, List.set_cons_zero] at haf
  subst haf
  simp only [List.drop_succ_cons, List.drop_zero]
  go_wp2
  show P (.returned (.slice (some ⟨ab, st * 8, none⟩) (sz - st) (sz - st))) W7.drew
  have h4 := H4.out
  subst h4
  obtain ⟨o1, o2, o3⟩ := ahead_fin_os H5.out H6.out H7.out
  exact FIN.out _ (ahead_fin H5.out H6.out H7.out rfl) o1 o2 o3
end Go.Proofs.YtdfllhmkgphcmaaDoor
namespace Go.Proofs.YtdfllhmkgphcmaaDoor
open Go.RowKit
section
variable {o : Oper} {a : Act} {w : World}
theorem op_tailE {x y : Tmp} {g n c k : Nat} {ki : Int} (hd : o.dst.isSome = true) (ho : o.op = .slice 33 (.tmp x) (some (.tmp y)) none none) (h : a.eval (.tmp x) = .slice (some ⟨g, 0, none⟩) n c) (h' : a.eval (.tmp y) = .int .i64 ki) (hki : ki = k) (hk : k = n) (hnc : n = c) : (execOp a.eval o).run Tryd.prog w = .ok (nx o (.slice (some ⟨g, 0, none⟩) 0 0)) w := by
  rw [nx_some hd]
  subst hk hki hnc
  unfold Act.eval at h h'
  obtain ⟨dd, op, t, ps, af, gu⟩ := o
  simp only at ho
  subst ho
  have t1 : (0 : Int) ≤ k := by omega
  have t3 : ((k : Int)).toNat = k := by omega
  go_simp
end
/-- A new array of records. -/
def zc (sz : Nat) : Array Value := madeCells (Value.cells (.agg #[.int .i64 0, .int .i64 0, .slice none 0 0, .int .i64 0, .string ⟨#[]⟩, .string ⟨#[]⟩, .slice none 0 0, .slice none 0 0])) (sz * 8)
theorem zc_size (sz : Nat) : (zc sz).size = sz * 8 := size_madeCells _ _
theorem mk_run (sz : Nat) (h : sz ≤ 2000000000) (W : World) : (Instr.makeSlice 33 (.int .i64 sz) (.int .i64 sz)).run Tryd.prog W = .ok (.slice (some ⟨W.heap.size, 0, none⟩) sz sz) (W.alloc (.cells (zc sz) 54)) := by
  obtain ⟨i0, hi, hz0, hz1, hz2⟩ := info_parts info54
  have := run_make (P := Tryd.prog) W 33 54 i0 _ Tryd.underlying33 hi hz0 .i64 .i64 (sz : Int) (sz : Int) (by omega) (Int.le_refl _) (by rw [hz2]; omega) (by omega)
  rw [Int.toNat_natCast, hz1] at this
  exact this
/-- Memory before a new room is made. -/
structure AhV (b : Bl) (V : World) (x : AV) (M0 : Nat) (A : Option Addr) (cs : List Value) (es : Array MapEntry) (clk : Nat) : Prop where
  m : V.heap[M0]? = some (c8 x)
  rc : ∃ cs fz, V.heap[b.rb]? = some (.cells cs 87 fz) ∧ cs[9]? = some (.map (some b.mb))
  hmb : V.heap[b.mb]? = some (.map es clk)
  ks : ∀ e ∈ es.toList, ∃ k0 o0, e.key = .pointer (some ⟨k0, o0, none⟩) ∧ ∃ cur, V.heap[k0]? = some (.cells cur 54 (0, 0))
  src : ∀ a, A = some a → a.block < V.heap.size ∧ ∀ (j : Nat) v, cs[j]? = some v → V.cell? (a.add j) = some v
/-- The array and the box of a new room. -/
def newR (V : World) (sz N : Nat) : World := (V.alloc (.cells (zc sz) 54)).alloc (.cells #[.slice (some ⟨V.heap.size, 0, none⟩) sz sz, iv N] 131)
theorem newR_size (V : World) (sz N : Nat) : (newR V sz N).heap.size = V.heap.size + 2 := by simp [newR]
theorem newR_old (V : World) (sz N : Nat) {k : Nat} (h : k < V.heap.size) : (newR V sz N).heap[k]? = V.heap[k]? :=
  (Below.heap_alloc _ _ _ (by simp; omega)).trans (Below.heap_alloc _ _ _ h)
theorem newR_ab (V : World) (sz N : Nat) : (newR V sz N).heap[V.heap.size]? = some (.cells (zc sz) 54 (0, 0)) :=
  (Below.heap_alloc _ _ _ (by simp)).trans (al_new _ _)
theorem newR_ro (V : World) (sz N : Nat) : (newR V sz N).heap[V.heap.size + 1]? = some (.cells #[.slice (some ⟨V.heap.size, 0, none⟩) sz sz, iv N] 131 (0, 0)) := by
  have := al_new (V.alloc (.cells (zc sz) 54)) (.cells #[.slice (some ⟨V.heap.size, 0, none⟩) sz sz, iv N] 131)
  simpa [newR] using this
/-- The new array behind the copy. -/
def newA (sz N : Nat) (cs : List Value) : Array Value := ((zc sz).toList.take (N * 8) ++ cs ++ (zc sz).toList.drop (N * 8 + cs.length)).toArray
section
variable {b : Bl} {V : World} {x : AV} {M0 : Nat} {A : Option Addr} {cs : List Value} {es : Array MapEntry} {clk : Nat}
theorem AhV.up (h : AhV b V x M0 A cs es clk) (sz N : Nat) {W : World} (hW : W.heap = (newR V sz N).heap) (cur : Array Value) (hc : cur.size = sz * 8) : AhS b (W.setRow V.heap.size cur) x M0 (V.heap.size + 1) V.heap.size sz N es clk := by
  have k : ∀ i, i ≠ V.heap.size → (W.setRow V.heap.size cur).heap[i]? = (newR V sz N).heap[i]? := fun i hi => by rw [setRow_other _ _ _ _ hi, hW]
  have o : ∀ i, i < V.heap.size → (W.setRow V.heap.size cur).heap[i]? = V.heap[i]? := fun i hi => (k i (by omega)).trans (newR_old V sz N hi)
  refine ⟨(o _ (heap_lt h.m)).trans h.m, ?_, (o _ (heap_lt h.hmb)).trans h.hmb, (k _ (by omega)).trans (newR_ro V sz N), ⟨cur, setRow_heap _ _ (zc sz) _ _ _ (by rw [hW]; exact newR_ab V sz N), hc⟩, Nat.ne_of_lt (heap_lt h.m), fun e he => ?_⟩
  · obtain ⟨c, f, h1, h2⟩ := h.rc
    exact ⟨c, f, (o _ (heap_lt h1)).trans h1, h2⟩
  · obtain ⟨k0, o0, e1, c, e3⟩ := h.ks e he
    exact ⟨k0, o0, e1, Nat.ne_of_lt (heap_lt e3), c, (o _ (heap_lt e3)).trans e3⟩
theorem AhV.copy (h : AhV b V x M0 A cs es clk) {sz N n c : Nat} {W : World} (hW : W.heap = (newR V sz N).heap) (hn : cs.length = n * 8) (h0 : A = none → n = 0 ∧ c = 0) (hs : N + n = sz) (h1 : ∀ v ∈ cs, v.oneCell' = true) (ty : TypeId) :
    (Builtin.copy_ #[33, 33] ty #[.slice (some ⟨V.heap.size, N * 8, none⟩) n n, .slice A n c]).run Tryd.prog W = .ok (goInt n) (W.setRow V.heap.size (newA sz N cs)) := by
  refine copy8 W ty V.heap.size (N * 8) n n c A (zc sz) cs (by rw [hW]; exact newR_ab V sz N) hn (fun a ha j v hj => ?_) h0 (by rw [zc_size, hn]; omega) h1
  obtain ⟨h2, h3⟩ := h.src a ha
  refine (World.cell?_of_block (w := V) ?_).trans (h3 j v hj)
  rw [hW, add_block]
  exact newR_old V sz N h2
theorem new_size {sz N n : Nat} {cs : List Value} (hn : cs.length = n * 8) (hs : N + n = sz) : (newA sz N cs).size = sz * 8 := by
  simp [newA, zc_size, hn]
  omega
theorem AhV.pack (h : AhV b V x M0 A cs es clk) {sz N n c : Nat} (hn : cs.length = n * 8) (h0 : A = none → n = 0 ∧ c = 0) (hs : N + n = sz) (h1 : ∀ v ∈ cs, v.oneCell' = true) :
    (newR V sz N).heap[V.heap.size + 1]? = some (.cells #[.slice (some ⟨V.heap.size, 0, none⟩) sz sz, iv N] 131 (0, 0)) ∧ AhS b ((newR V sz N).drew.setRow V.heap.size (newA sz N cs)) x M0 (V.heap.size + 1) V.heap.size sz N es clk ∧
    ∀ ty, (Builtin.copy_ #[33, 33] ty #[.slice (some ⟨V.heap.size, N * 8, none⟩) n n, .slice A n c]).run Tryd.prog (newR V sz N).drew = .ok (goInt n) ((newR V sz N).drew.setRow V.heap.size (newA sz N cs)) :=
  ⟨newR_ro V sz N, h.up sz N (W := (newR V sz N).drew) rfl _ (new_size hn hs), h.copy (W := (newR V sz N).drew) rfl hn h0 hs h1⟩
theorem AhV.packE (h : AhV b V x M0 A cs es clk) {sz N n c : Nat} (hn : cs.length = n * 8) (h0 : A = none → n = 0 ∧ c = 0) (hn0 : n = 0) (ty : TypeId) :
    (Builtin.copy_ #[33, 33] ty #[.slice (some ⟨V.heap.size, 0, none⟩) 0 0, .slice A n c]).run Tryd.prog (newR V sz N).drew = .ok (goInt n) ((newR V sz N).drew.setRow V.heap.size (newA sz N cs)) := by
  subst hn0
  have hc : cs = [] := by simpa using hn
  subst hc
  have := copy8 (newR V sz N).drew ty V.heap.size 0 0 0 c A (zc sz) [] (newR_ab V sz N) rfl (fun a ha j v hj => by simp at hj) h0 (by simp) (by simp)
  have e : newA sz N [] = ((zc sz).toList.take 0 ++ [] ++ (zc sz).toList.drop (0 + ([] : List Value).length)).toArray := by simp [newA]
  rw [e]
  exact this
end
theorem setRow_congr {w w' : World} (h : w.heap = w'.heap) (g : Nat) (c : Array Value) : (w.setRow g c).heap = (w'.setRow g c).heap := by simp [World.setRow, h]
end Go.Proofs.YtdfllhmkgphcmaaDoor

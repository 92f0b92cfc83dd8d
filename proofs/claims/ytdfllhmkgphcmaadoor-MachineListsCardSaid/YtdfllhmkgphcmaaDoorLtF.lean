/- Plain: functions remember their variables. -/
import Derived.Test.YtdfllhmkgphcmaaDoorM9
namespace Go.Proofs.YtdfllhmkgphcmaaDoor

def fnB (l : List Int) : List Ins := l.flatMap fun n => [⟨1, n, 0, []⟩, ⟨14, 0, 0, []⟩]
def fnD (n : Nat) : List Ins := if n = 0 then [] else [⟨15, n, 0, []⟩]
def fnE (arg : Int) : List Ins := [⟨1, arg, 0, []⟩, ⟨6, 0, 0, []⟩, ⟨7, 0, 0, []⟩]
def fnL (l : List Int) (arg : Int) : List Ins := fnB l ++ [⟨5, 1, 0, []⟩] ++ fnD l.length ++ fnE arg
def fnK (k : Int) : List Ins := [⟨3, k, 0, []⟩, ⟨7, 0, 0, []⟩]
theorem fnB_len (l : List Int) : (fnB l).length = 2 * l.length := by
  induction l with
  | nil => rfl
  | cons n l ih => simp [fnB] at ih ⊢; omega
theorem fnB_snoc (l : List Int) (n : Int) : fnB (l ++ [n]) = fnB l ++ [⟨1, n, 0, []⟩, ⟨14, 0, 0, []⟩] := by simp [fnB]
theorem fnL_len (l : List Int) (arg : Int) (h : l.length ≤ 10) : (fnL l arg).length ≤ 25 := by
  simp only [fnL, List.length_append, fnB_len, fnE]
  unfold fnD
  split <;> simp <;> omega

/-- Instructions stand in a block from a place on. -/
def HasI (b : Blk) (j : Nat) (L : List Ins) : Prop := ∀ i x, L[i]? = some x → b.ins[j + i]? = some x
theorem HasI.app {b : Blk} {j : Nat} {L M : List Ins} (h : HasI b j (L ++ M)) : HasI b j L ∧ HasI b (j + L.length) M :=
  ⟨fun i x hx => h i x (by rw [List.getElem?_append_left (List.getElem?_eq_some_iff.1 hx).1]; exact hx), fun i x hx => by
    have := h (L.length + i) x (by rw [List.getElem?_append_right (by omega), Nat.add_sub_cancel_left]; exact hx)
    rw [← Nat.add_assoc] at this
    exact this⟩
theorem HasI.head {b : Blk} {j : Nat} {x : Ins} {L : List Ins} (h : HasI b j (x :: L)) : b.ins[((j : Nat) : Int).toNat]? = some x := h 0 x rfl
theorem HasI.tail {b : Blk} {j : Nat} {x : Ins} {L : List Ins} (h : HasI b j (x :: L)) : HasI b (j + 1) L := fun i y hy => by
  have := h (i + 1) y hy
  rw [show j + 1 + i = j + (i + 1) by omega]
  exact this

theorem cast1 (j : Nat) : (j : Int) + 1 = ((j + 1 : Nat) : Int) := rfl
/-- The variables are bound. -/
theorem run_fnB {bs : List Blk} {b : Blk} {G : List MF} (hb : bs[(0 : Int).toNat]? = some b) : ∀ (l : List Int) (j n : Nat) (S V : List MV) (k : Int), HasI b j (fnB l) →
    runE (n + 2 * l.length) (stM bs S G ⟨0, j, V⟩ k 0) = runE n (stM bs S G ⟨0, ((j + 2 * l.length : Nat) : Int), V ++ l.map vInt⟩ (k + 2 * l.length) 0)
  | [], j, n, S, V, k, _ => by simp
  | x :: l, j, n, S, V, k, h => by
    have h1 : HasI b j (⟨1, x, 0, []⟩ :: ⟨14, 0, 0, []⟩ :: fnB l) := h
    rw [show n + 2 * (x :: l).length = n + 2 * l.length + 1 + 1 by simp; omega, run_int hb h1.head, cast1, run_bind hb h1.tail.head, cast1, run_fnB hb l (j + 1 + 1) n S _ _ h1.tail.tail]
    rw [show j + 1 + 1 + 2 * l.length = j + 2 * (x :: l).length by simp; omega, show k + 1 + 1 + 2 * (l.length : Int) = k + 2 * ((x :: l).length : Nat) by simp; omega]
    simp
/-- The whole run. -/
theorem fn_run (A A2 : Option Addr) (c c2 : Nat) (l : List Int) (arg : Int) (k : Nat) (want : Int) (hl : l.length ≤ 10) (hw : (l ++ [arg])[k]? = some want) :
    ∃ m, runE 400 (begM [⟨0, false, A, c, fnL l arg⟩, ⟨l.length, true, A2, c2, fnK k⟩] 0 0) = (m, 0) ∧ m.done = true ∧ m.S = [] ++ [vInt want] := by
  obtain ⟨b, hb⟩ : ∃ b : Blk, b = ⟨0, false, A, c, fnL l arg⟩ := ⟨_, rfl⟩
  obtain ⟨b2, hb2⟩ : ∃ b : Blk, b = ⟨l.length, true, A2, c2, fnK k⟩ := ⟨_, rfl⟩
  have hI : HasI b 0 (fnB l ++ [⟨5, 1, 0, []⟩] ++ fnD l.length ++ fnE arg) := fun i x hx => by rw [Nat.zero_add, hb]; exact hx
  have hI2 : HasI b2 0 (fnK k) := fun i x hx => by rw [Nat.zero_add, hb2]; exact hx
  have hcap : b2.cap = l.length := by rw [hb2]
  rw [← hb, ← hb2]
  clear hb hb2
  obtain ⟨hI, hE⟩ := hI.app
  obtain ⟨hI, hD⟩ := hI.app
  obtain ⟨hB, hC⟩ := hI.app
  simp only [List.length_append, List.length_cons, List.length_nil, fnB_len, Nat.zero_add] at hE hD hC
  have b0 : [b, b2][(0 : Int).toNat]? = some b := rfl
  have b1 : [b, b2][(1 : Int).toNat]? = some b2 := rfl
  obtain ⟨r, hr⟩ : ∃ r, 400 = r + 2 * l.length := ⟨400 - 2 * l.length, by omega⟩
  obtain ⟨q, rfl⟩ : ∃ q, r = q + 1 + 1 + 1 + 1 + 1 + 1 + 1 := ⟨r - 7, by omega⟩
  rw [begM_st, hr, show (⟨0, 0, []⟩ : MF) = ⟨0, ((0 : Nat) : Int), []⟩ from rfl, run_fnB b0 l 0 _ [] [] 0 hB, run_clos b0 (by rw [Nat.zero_add]; exact hC.head) (by rw [b1]; simp [hcap])]
  simp only [List.nil_append, Nat.zero_add]
  rw [cast1]
  have dr : ∃ s : Int, runE (q + 1 + 1 + 1 + 1 + 1 + 1) (stM [b, b2] [vFun 1 (l.map vInt)] [] ⟨0, ((2 * l.length + 1 : Nat) : Int), l.map vInt⟩ (0 + 2 * l.length + 1) 0) = runE (q + 1 + 1 + 1 + 1 + 1 + (1 - (fnD l.length).length)) (stM [b, b2] [vFun 1 (l.map vInt)] [] ⟨0, ((2 * l.length + 1 + (fnD l.length).length : Nat) : Int), []⟩ s 0) := by
    by_cases h0 : l.length = 0
    · obtain rfl := List.eq_nil_of_length_eq_zero h0
      exact ⟨_, rfl⟩
    · have e : fnD l.length = [⟨15, l.length, 0, []⟩] := by unfold fnD; rw [if_neg h0]
      rw [e] at hD ⊢
      refine ⟨0 + 2 * l.length + 1 + 1, ?_⟩
      rw [run_drop b0 hD.head (by simp)]
      simp
  obtain ⟨s, dr⟩ := dr
  rw [dr]
  obtain ⟨y, hy⟩ : ∃ y, 1 - (fnD l.length).length = y := ⟨_, rfl⟩
  rw [hy, show q + 1 + 1 + 1 + 1 + 1 + y = q + y + 1 + 1 + 1 + 1 + 1 by omega]
  have hE1 : HasI b (2 * l.length + 1 + (fnD l.length).length) (⟨1, arg, 0, []⟩ :: ⟨6, 0, 0, []⟩ :: [⟨7, 0, 0, []⟩]) := hE
  have hK1 : HasI b2 0 (⟨3, k, 0, []⟩ :: [⟨7, 0, 0, []⟩]) := hI2
  generalize 2 * l.length + 1 + (fnD l.length).length = j at *
  rw [run_int b0 hE1.head, cast1, show [vFun 1 (l.map vInt)] ++ [vInt arg] = [] ++ [vFun 1 (l.map vInt)] ++ [vInt arg] from rfl, run_call (S := []) b0 hE1.tail.head, show (⟨1, 0, l.map vInt ++ [vInt arg]⟩ : MF) = ⟨1, ((0 : Nat) : Int), l.map vInt ++ [vInt arg]⟩ from rfl]
  rw [run_local (v := vInt want) b1 hK1.head (by
    rw [show (l.map vInt ++ [vInt arg]) = (l ++ [arg]).map vInt by simp, List.getElem?_map, Int.toNat_natCast, hw]; rfl), cast1]
  rw [cast1, run_ret (G' := []) b1 hK1.tail.head (by simp), run_done b0 hE1.tail.tail.head (by simp)]
  exact ⟨_, rfl, rfl, rfl⟩
theorem cntW_two (b b2 : Blk) : cntW [b, b2] = Go.RowKit.wrap64 (Go.RowKit.wrap64 (b.ins.length : Int) + (b2.ins.length : Int)) := by
  unfold cntW
  rw [List.foldl_cons, foldl_one, Int.zero_add]
theorem fn_ck (A A2 : Option Addr) (c c2 : Nat) (l : List Int) (arg : Int) (k : Nat) (bA sA : Option Addr) (bc sc : Nat) (hl : l.length ≤ 10) (hk : k ≤ 10) (hr : ∀ n ∈ l, -999999999 ≤ n ∧ n ≤ 999999999) (ha : -999999999 ≤ arg ∧ arg ≤ 999999999) :
    errP ⟨bA, bc, [⟨0, false, A, c, fnL l arg⟩, ⟨l.length, true, A2, c2, fnK k⟩], sA, sc, [⟨[109], 1, 0⟩]⟩ = 0 := by
  have hlen := fnL_len l arg hl
  obtain ⟨bs, hbs⟩ : ∃ bs : List Blk, bs = [⟨0, false, A, c, fnL l arg⟩, ⟨l.length, true, A2, c2, fnK k⟩] := ⟨_, rfl⟩
  have hc : closB bs 1 = true := by rw [hbs]; simp [closB]
  have hp : plainB bs 0 = true := by rw [hbs]; simp [plainB]
  have i1 : ∀ i ∈ fnL l arg, ckI bs (fnL l arg).length i.op i.a i.b i.name = 0 := by
    intro i hi
    simp only [fnL, List.mem_append, fnB, List.mem_flatMap, List.mem_cons, List.not_mem_nil, or_false, fnD, fnE] at hi
    rcases hi with ((⟨n, hn, rfl | rfl⟩ | rfl) | hi) | rfl | rfl | rfl
    · simp [ckI, ckB, fK, fA, fB, fN, inR, (hr n hn).1, (hr n hn).2]
    · simp [ckI, ckB, fK, fA, fB, fN, inR]
    · simp [ckI, ckB, fK, fA, fB, fN, inR, hc]
    · split at hi
      · cases hi
      · simp only [List.mem_singleton] at hi
        subst hi
        have h1 : (1 : Int) ≤ l.length := by omega
        have h2 : (l.length : Int) ≤ 1000 := by omega
        simp [ckI, ckB, fK, fA, fB, fN, inR, h1, h2]
    · simp [ckI, ckB, fK, fA, fB, fN, inR, ha.1, ha.2]
    · simp [ckI, ckB, fK, fA, fB, fN, inR]
    · simp [ckI, ckB, fK, fA, fB, fN, inR]
  have i2 : ∀ i ∈ fnK k, ckI bs (fnK k).length i.op i.a i.b i.name = 0 := by
    intro i hi
    simp only [fnK, List.mem_cons, List.not_mem_nil, or_false] at hi
    have h2 : (k : Int) ≤ 1000 := by omega
    rcases hi with rfl | rfl
    · simp [ckI, ckB, fK, fA, fB, fN, inR, h2]
    · simp [ckI, ckB, fK, fA, fB, fN, inR]
  have e1 : errB bs ⟨0, false, A, c, fnL l arg⟩ = 0 := by
    unfold errB
    rw [if_neg (by simp)]
    apply fe_all
    intro x hx
    obtain ⟨i, hi, rfl⟩ := List.mem_map.1 hx
    exact i1 i hi
  have e2 : errB bs ⟨l.length, true, A2, c2, fnK k⟩ = 0 := by
    unfold errB
    rw [if_neg (by simp only [not_or]; omega)]
    apply fe_all
    intro x hx
    obtain ⟨i, hi, rfl⟩ := List.mem_map.1 hx
    exact i2 i hi
  have e3 : fe (bs.map (errB bs)) = 0 := fe_all fun x hx => by
    obtain ⟨b, hb, rfl⟩ := List.mem_map.1 hx
    rw [hbs] at hb
    simp only [List.mem_cons, List.not_mem_nil, or_false] at hb
    rcases hb with rfl | rfl
    · exact e1
    · exact e2
  have e4 : ¬ (2000 < bs.length ∨ 20000 < cntW bs) := by
    have h2 : bs.length = 2 := by rw [hbs]; rfl
    have h3 : cntW bs = (fnL l arg).length + 2 := by
      rw [hbs, cntW_two]
      show Go.RowKit.wrap64 (Go.RowKit.wrap64 ((fnL l arg).length : Int) + ((2 : Nat) : Int)) = _
      rw [IntWalk.wrap64_in ((fnL l arg).length : Int) ⟨by omega, by omega⟩, IntWalk.wrap64_in _ ⟨by omega, by omega⟩]
      rfl
    rw [h2, h3]
    omega
  rw [← hbs]
  clear i1 i2 e1 e2 hc
  have e5 : errS bs [⟨[109], 1, 0⟩] 0 = 0 := by
    simp only [errS, List.getElem?_cons_zero, lab_m, hp, ordS]
    rfl
  have e6 : fe ((List.range 1).map (errS bs [⟨[109], 1, 0⟩])) = 0 := fe_all (by simp [e5])
  simp only [errP, if_neg e4, e3]
  exact e6
end Go.Proofs.YtdfllhmkgphcmaaDoor

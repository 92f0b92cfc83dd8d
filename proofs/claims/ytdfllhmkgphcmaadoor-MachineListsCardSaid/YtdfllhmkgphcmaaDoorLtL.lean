/- Plain: lists come apart as they were put together. -/
import Derived.Test.YtdfllhmkgphcmaaDoorLtF
namespace Go.Proofs.YtdfllhmkgphcmaaDoor

def lsI (l : List Int) : List Ins := l.map fun n => ⟨1, n, 0, []⟩
def lsC (n : Nat) : List Ins := List.replicate n ⟨12, 0, 0, []⟩
/-- What puts the list together. -/
def lsA (l : List Int) : List Ins := lsI l ++ [⟨11, 0, 0, []⟩] ++ lsC l.length
/-- What takes it apart: from the element i on. -/
def lsP (e : Int) (i n : Nat) : List Ins := (List.range' i n).flatMap fun (j : Nat) => [⟨13, e, 0, []⟩, ⟨3, 2 * (j : Int) + 1, 0, []⟩]
def lsQ (n : Nat) : List Ins := (List.range n).map fun (j : Nat) => ⟨3, 2 * (j : Int), 0, []⟩
def lsE (l : List Int) : Int := ((4 * l.length + 2 : Nat) : Int)
def lsL (l : List Int) : List Ins := lsA l ++ lsP (lsE l) 0 l.length ++ [⟨13, lsE l, 0, []⟩] ++ lsQ l.length ++ [⟨11, 0, 0, []⟩, ⟨7, 0, 0, []⟩]
theorem lsI_len (l : List Int) : (lsI l).length = l.length := by simp [lsI]
theorem lsC_len (n : Nat) : (lsC n).length = n := by simp [lsC]
theorem lsA_len (l : List Int) : (lsA l).length = 2 * l.length + 1 := by simp [lsA, lsI_len, lsC_len]; omega
theorem lsP_len (e : Int) : ∀ n i : Nat, (lsP e i n).length = 2 * n
  | 0, _ => rfl
  | n + 1, i => by
    have := lsP_len e n (i + 1)
    unfold lsP at this ⊢
    rw [List.range'_succ, List.flatMap_cons, List.length_append, this]
    simp; omega
theorem lsQ_len (n : Nat) : (lsQ n).length = n := by simp [lsQ]
theorem lsL_len (l : List Int) : (lsL l).length = 5 * l.length + 4 := by simp [lsL, lsA_len, lsP_len, lsQ_len]; omega
theorem lsC_succ (n : Nat) : lsC (n + 1) = lsC n ++ [⟨12, 0, 0, []⟩] := by simp [lsC, List.replicate_succ']
theorem lsP_snoc (e : Int) (n : Nat) : lsP e 0 (n + 1) = lsP e 0 n ++ [⟨13, e, 0, []⟩, ⟨3, 2 * (n : Int) + 1, 0, []⟩] := by
  unfold lsP
  rw [List.range'_concat]
  simp
theorem lsQ_succ (n : Nat) : lsQ (n + 1) = lsQ n ++ [⟨3, 2 * (n : Int), 0, []⟩] := by simp [lsQ, List.range_succ]
/-- An instruction that lacks its goal. -/
def lsG (e : Int) (x : Ins) : Ins := if x.op = 13 then { x with a := e } else x
theorem lsG_P (e : Int) (n : Nat) : (lsP 0 0 n).map (lsG e) = lsP e 0 n := by
  unfold lsP
  rw [List.map_flatMap]
  congr 1
theorem lsG_A (e : Int) (l : List Int) : (lsA l).map (lsG e) = lsA l := by
  simp [lsA, lsI, lsC, lsG]

section
variable {bs : List Blk} {b : Blk} {G : List MF}
theorem run_lsI (hb : bs[(0 : Int).toNat]? = some b) : ∀ (l : List Int) (j n : Nat) (S V : List MV) (k : Int), HasI b j (lsI l) →
    runE (n + l.length) (stM bs S G ⟨0, j, V⟩ k 0) = runE n (stM bs (S ++ l.map vInt) G ⟨0, ((j + l.length : Nat) : Int), V⟩ (k + l.length) 0)
  | [], j, n, S, V, k, _ => by simp
  | x :: l, j, n, S, V, k, h => by
    have h1 : HasI b j (⟨1, x, 0, []⟩ :: lsI l) := h
    rw [show n + (x :: l).length = n + l.length + 1 by simp; omega, run_int hb h1.head, cast1, run_lsI hb l (j + 1) n _ _ _ h1.tail]
    rw [show j + 1 + l.length = j + (x :: l).length by simp; omega, show k + 1 + (l.length : Int) = k + ((x :: l).length : Nat) by simp; omega]
    simp
theorem run_lsC (hb : bs[(0 : Int).toNat]? = some b) : ∀ (m : Nat) (l : List Int) (j n : Nat) (S V T : List MV) (k : Int), l.length = m → HasI b j (lsC m) →
    runE (n + m) (stM bs (S ++ l.map vInt ++ [vList T]) G ⟨0, j, V⟩ k 0) = runE n (stM bs (S ++ [vList (l.map vInt ++ T)]) G ⟨0, ((j + m : Nat) : Int), V⟩ (k + m) 0)
  | 0, l, j, n, S, V, T, k, hl, _ => by
    obtain rfl := List.eq_nil_of_length_eq_zero hl
    simp
  | m + 1, l, j, n, S, V, T, k, hl, h => by
    rcases snoc_cases l with rfl | ⟨l', x, rfl⟩
    · simp at hl
    · have h1 : HasI b j (⟨12, 0, 0, []⟩ :: lsC m) := by
        have e : lsC (m + 1) = ⟨12, 0, 0, []⟩ :: lsC m := by simp [lsC, List.replicate_succ]
        rw [← e]; exact h
      rw [show n + (m + 1) = n + m + 1 by omega, show S ++ (l' ++ [x]).map vInt ++ [vList T] = (S ++ l'.map vInt) ++ [vInt x] ++ [vList T] by simp, run_cons hb h1.head, cast1, run_lsC hb m l' (j + 1) n S V (vInt x :: T) _ (by simpa using hl) h1.tail]
      rw [show j + 1 + m = j + (m + 1) by omega, show k + 1 + (m : Int) = k + ((m + 1 : Nat) : Int) by omega]
      simp
/-- The variables after the list came apart. -/
def lsV : List Int → List MV
  | [] => []
  | x :: l => vInt x :: vList (l.map vInt) :: lsV l
theorem lsV_len (l : List Int) : (lsV l).length = 2 * l.length := by induction l with | nil => rfl | cons x l ih => simp [lsV, ih]; omega
theorem run_lsP (e : Int) (hb : bs[(0 : Int).toNat]? = some b) : ∀ (l : List Int) (i j n : Nat) (S V : List MV) (k : Int), V.length = 2 * i → HasI b j (lsP e i l.length) →
    runE (n + 2 * l.length) (stM bs (S ++ [vList (l.map vInt)]) G ⟨0, j, V⟩ k 0) = runE n (stM bs (S ++ [vList []]) G ⟨0, ((j + 2 * l.length : Nat) : Int), V ++ lsV l⟩ (k + 2 * l.length) 0)
  | [], i, j, n, S, V, k, _, _ => by simp [lsV]
  | x :: l, i, j, n, S, V, k, hV, h => by
    have h1 : HasI b j (⟨13, e, 0, []⟩ :: ⟨3, 2 * (i : Int) + 1, 0, []⟩ :: lsP e (i + 1) l.length) := by
      have e1 : lsP e i (x :: l).length = ⟨13, e, 0, []⟩ :: ⟨3, 2 * (i : Int) + 1, 0, []⟩ :: lsP e (i + 1) l.length := by
        unfold lsP
        rw [List.length_cons, List.range'_succ, List.flatMap_cons]
        rfl
      rw [← e1]; exact h
    rw [show n + 2 * (x :: l).length = n + 2 * l.length + 1 + 1 by simp; omega, List.map_cons, run_case hb h1.head, cast1]
    rw [run_local (v := vList (l.map vInt)) hb h1.tail.head (by
      rw [show (2 * (i : Int) + 1).toNat = 2 * i + 1 by omega, List.getElem?_append_right (by omega), hV, show 2 * i + 1 - 2 * i = 1 by omega]; rfl), cast1]
    rw [run_lsP e hb l (i + 1) (j + 1 + 1) n S _ _ (by simp; omega) h1.tail.tail]
    rw [show j + 1 + 1 + 2 * l.length = j + 2 * (x :: l).length by simp; omega, show k + 1 + 1 + 2 * (l.length : Int) = k + 2 * ((x :: l).length : Nat) by simp; omega]
    simp [lsV]
theorem lsV_at : ∀ (l : List Int) (i : Nat) (h : i < l.length), (lsV l)[2 * i]? = some (vInt l[i])
  | x :: l, 0, _ => rfl
  | x :: l, i + 1, h => by
    have := lsV_at l i (by simpa using h)
    rw [show 2 * (i + 1) = 2 * i + 1 + 1 by omega]
    simpa [lsV] using this
theorem run_lsQ (hb : bs[(0 : Int).toNat]? = some b) (l : List Int) : ∀ (m j n : Nat) (S : List MV) (k : Int), m ≤ l.length → HasI b j (lsQ m) →
    runE (n + m) (stM bs S G ⟨0, j, lsV l⟩ k 0) = runE n (stM bs (S ++ (l.take m).map vInt) G ⟨0, ((j + m : Nat) : Int), lsV l⟩ (k + m) 0)
  | 0, j, n, S, k, _, _ => by simp
  | m + 1, j, n, S, k, hm, h => by
    rw [lsQ_succ] at h
    obtain ⟨ha, hz⟩ := h.app
    rw [lsQ_len] at hz
    rw [show n + (m + 1) = (n + 1) + m by omega, run_lsQ hb l m j (n + 1) S k (by omega) ha, run_local (v := vInt l[m]) hb hz.head (by
      rw [show (2 * (m : Int)).toNat = 2 * m by omega]; exact lsV_at l m (by omega)), cast1]
    rw [show l.take (m + 1) = l.take m ++ [l[m]] from List.take_succ_eq_append_getElem (by omega), show j + m + 1 = j + (m + 1) by omega, show k + (m : Int) + 1 = k + ((m + 1 : Nat) : Int) by omega, List.map_append, List.append_assoc]
    rfl
end
/-- The list is put together. -/
theorem ls_run1 (A : Option Addr) (c : Nat) (l : List Int) (hl : l.length ≤ 20) :
    ∃ m, runE 400 (begM [⟨0, false, A, c, lsA l ++ [⟨7, 0, 0, []⟩]⟩] 0 0) = (m, 0) ∧ m.done = true ∧ m.S = [] ++ [vList (l.map vInt)] := by
  obtain ⟨b, hb⟩ : ∃ b : Blk, b = ⟨0, false, A, c, lsA l ++ [⟨7, 0, 0, []⟩]⟩ := ⟨_, rfl⟩
  have hI : HasI b 0 (lsI l ++ [⟨11, 0, 0, []⟩] ++ lsC l.length ++ [⟨7, 0, 0, []⟩]) := fun i x hx => by rw [Nat.zero_add, hb]; exact hx
  rw [← hb]
  clear hb
  obtain ⟨hI, hR⟩ := hI.app
  obtain ⟨hI, hC⟩ := hI.app
  obtain ⟨hI, hN⟩ := hI.app
  simp only [List.length_append, List.length_cons, List.length_nil, lsI_len, lsC_len, Nat.zero_add] at hR hC hN
  have b0 : [b][(0 : Int).toNat]? = some b := rfl
  obtain ⟨r, hr⟩ : ∃ r, 400 = r + 1 + l.length + 1 + l.length := ⟨398 - 2 * l.length, by omega⟩
  rw [begM_st, hr, show (⟨0, 0, []⟩ : MF) = ⟨0, ((0 : Nat) : Int), []⟩ from rfl, run_lsI b0 l 0 _ [] [] 0 hI, run_nil b0 (by rw [Nat.zero_add]; exact hN.head), cast1]
  rw [run_lsC (T := []) b0 l.length l _ _ [] _ _ rfl (by rw [Nat.zero_add]; exact hC), run_done b0 (by rw [Nat.zero_add]; exact hR.head) (by simp)]
  exact ⟨_, rfl, rfl, by simp⟩
/-- It comes apart. -/
theorem ls_run2 (A : Option Addr) (c : Nat) (l : List Int) (hl : l.length ≤ 20) :
    ∃ m, runE 400 (begM [⟨0, false, A, c, lsL l⟩] 0 0) = (m, 0) ∧ m.done = true ∧ m.S = l.map vInt ++ [vList []] := by
  obtain ⟨b, hb⟩ : ∃ b : Blk, b = ⟨0, false, A, c, lsL l⟩ := ⟨_, rfl⟩
  have hI : HasI b 0 (lsI l ++ [⟨11, 0, 0, []⟩] ++ lsC l.length ++ lsP (lsE l) 0 l.length ++ [⟨13, lsE l, 0, []⟩] ++ lsQ l.length ++ [⟨11, 0, 0, []⟩, ⟨7, 0, 0, []⟩]) := fun i x hx => by rw [Nat.zero_add, hb]; exact hx
  rw [← hb]
  clear hb
  obtain ⟨hI, hR⟩ := hI.app
  obtain ⟨hI, hQ⟩ := hI.app
  obtain ⟨hI, hE⟩ := hI.app
  obtain ⟨hI, hP⟩ := hI.app
  obtain ⟨hI, hC⟩ := hI.app
  obtain ⟨hI, hN⟩ := hI.app
  simp only [List.length_append, List.length_cons, List.length_nil, lsI_len, lsC_len, lsP_len, lsQ_len, Nat.zero_add] at hR hQ hE hP hC hN
  have b0 : [b][(0 : Int).toNat]? = some b := rfl
  obtain ⟨r, hr⟩ : ∃ r, 400 = r + 1 + 1 + l.length + 1 + 2 * l.length + l.length + 1 + l.length := ⟨396 - 5 * l.length, by omega⟩
  rw [begM_st, hr, show (⟨0, 0, []⟩ : MF) = ⟨0, ((0 : Nat) : Int), []⟩ from rfl, run_lsI b0 l 0 _ [] [] 0 hI, run_nil b0 (by rw [Nat.zero_add]; exact hN.head), cast1]
  rw [run_lsC (T := []) b0 l.length l _ _ [] _ _ rfl (by rw [Nat.zero_add]; exact hC), List.append_nil]
  rw [run_lsP (lsE l) b0 l 0 _ _ [] _ _ rfl (by rw [Nat.zero_add]; exact hP), run_case0 b0 (by rw [Nat.zero_add]; exact hE.head)]
  have eE : lsE l = ((l.length + (0 + 1) + l.length + 2 * l.length + (0 + 1) : Nat) : Int) := by unfold lsE; omega
  rw [show (⟨0, lsE l, [] ++ lsV l⟩ : MF) = ⟨0, ((l.length + (0 + 1) + l.length + 2 * l.length + (0 + 1) : Nat) : Int), lsV l⟩ by rw [eE]; rfl]
  rw [run_lsQ b0 l l.length _ _ [] _ (Nat.le_refl _) hQ, List.take_length, List.nil_append, run_nil b0 hR.head, cast1, run_done b0 hR.tail.head (by simp)]
  exact ⟨_, rfl, rfl, rfl⟩
theorem ls_ck (bs : List Blk) (l : List Int) (nb : Nat) (hnb : 5 * l.length + 4 ≤ nb) (hl : l.length ≤ 20) (hr : ∀ n ∈ l, -999999999 ≤ n ∧ n ≤ 999999999) : ∀ i ∈ lsL l, ckI bs nb i.op i.a i.b i.name = 0 := by
  intro i hi
  have h0 : (0 : Int) ≤ lsE l ∧ lsE l ≤ nb := by unfold lsE; omega
  simp only [lsL, lsA, lsI, lsC, lsP, lsQ, List.mem_append, List.mem_flatMap, List.mem_map, List.mem_replicate, List.mem_range', List.mem_range, List.mem_cons, List.not_mem_nil, or_false] at hi
  rcases hi with (((((⟨n, hn, rfl⟩ | rfl) | ⟨-, rfl⟩) | ⟨j, ⟨q, hq, rfl⟩, rfl | rfl⟩) | rfl) | ⟨j, hj, rfl⟩) | rfl | rfl
  · simp [ckI, ckB, fK, fA, fB, fN, inR, (hr n hn).1, (hr n hn).2]
  · rfl
  · rfl
  · simp [ckI, ckB, fK, fA, fB, fN, inR, h0.1, h0.2]
  · have h1 : (0 : Int) ≤ 2 * ((0 + 1 * q : Nat) : Int) + 1 := by omega
    have h2 : 2 * ((0 + 1 * q : Nat) : Int) + 1 ≤ 1000 := by omega
    simp only [ckI, ckB, fK, fA, fB, fN, inR, h1, h2]
    rfl
  · simp [ckI, ckB, fK, fA, fB, fN, inR, h0.1, h0.2]
  · have h1 : (0 : Int) ≤ 2 * (j : Int) := by omega
    have h2 : 2 * (j : Int) ≤ 1000 := by omega
    simp only [ckI, ckB, fK, fA, fB, fN, inR, h1, h2]
    rfl
  · rfl
  · rfl
theorem ls_ckA (bs : List Blk) (l : List Int) (nb : Nat) (hr : ∀ n ∈ l, -999999999 ≤ n ∧ n ≤ 999999999) : ∀ i ∈ lsA l ++ [⟨7, 0, 0, []⟩], ckI bs nb i.op i.a i.b i.name = 0 := by
  intro i hi
  simp only [lsA, lsI, lsC, List.mem_append, List.mem_map, List.mem_replicate, List.mem_cons, List.not_mem_nil, or_false] at hi
  rcases hi with ((⟨n, hn, rfl⟩ | rfl) | ⟨-, rfl⟩) | rfl
  · simp [ckI, ckB, fK, fA, fB, fN, inR, (hr n hn).1, (hr n hn).2]
  · rfl
  · rfl
  · rfl
theorem ls_nm (l : List Int) : ∀ i ∈ lsL l, i.name.length ≤ 100 := by
  intro i hi
  simp only [lsL, lsA, lsI, lsC, lsP, lsQ, List.mem_append, List.mem_flatMap, List.mem_map, List.mem_replicate, List.mem_cons, List.not_mem_nil, or_false] at hi
  rcases hi with (((((⟨n, hn, rfl⟩ | rfl) | ⟨-, rfl⟩) | ⟨j, -, rfl | rfl⟩) | rfl) | ⟨j, hj, rfl⟩) | rfl | rfl <;> exact Nat.zero_le _
theorem ls_nmA (l : List Int) : ∀ i ∈ lsA l ++ [⟨7, 0, 0, []⟩], i.name.length ≤ 100 := by
  intro i hi
  simp only [lsA, lsI, lsC, List.mem_append, List.mem_map, List.mem_replicate, List.mem_cons, List.not_mem_nil, or_false] at hi
  rcases hi with ((⟨n, hn, rfl⟩ | rfl) | ⟨-, rfl⟩) | rfl <;> exact Nat.zero_le _
end Go.Proofs.YtdfllhmkgphcmaaDoor

/- The plain mathematics of sums of texts: sorted lists, their counts, the merged sum; nothing of the program is in sight. -/
namespace Go.Proofs.Ytgenloemohcpcaa

abbrev T := List UInt8

/-- Ascending, equal ones beside each other. -/
abbrev Srt (l : List T) : Prop := l.Pairwise (fun x y => x ≤ y)

theorem lt_irr (a : T) : ¬ a < a := List.lt_irrefl a
theorem le_of_nlt {a b : T} (h : ¬ b < a) : a ≤ b := List.not_lt.1 h
theorem nlt_of_le {a b : T} (h : a ≤ b) : ¬ b < a := List.not_lt.2 h
theorem le_tr {a b c : T} (h : a ≤ b) (k : b ≤ c) : a ≤ c := List.le_trans h k
theorem le_anti {a b : T} (h : a ≤ b) (k : b ≤ a) : a = b := List.le_antisymm h k
theorem le_of_lt' {a b : T} (h : a < b) : a ≤ b := List.le_of_lt h
theorem lt_le {a b c : T} (h : a < b) (k : b ≤ c) : a < c := by
  rcases Classical.em (a < c) with h1 | h1
  · exact h1
  · exact absurd h (nlt_of_le (le_tr k (le_of_nlt h1)))
theorem lt_of_le_ne {a b : T} (h : a ≤ b) (k : a ≠ b) : a < b := by
  rcases Classical.em (a < b) with h1 | h1
  · exact h1
  · exact absurd (le_anti h (le_of_nlt h1)) k

/-- The error of a list of texts behind a text. -/
def lstFrom : Option T → List T → Int
  | _, [] => 0
  | p, x :: xs => if 65536 < x.length then 4 else if (p.any fun q => decide (x < q)) then 10 else lstFrom (some x) xs

def lst (l : List T) : Int := lstFrom none l

/-- Is a text in a list? -/
def hasB (M : List T) (x : T) : Bool := M.contains x
theorem hasB_yes {M : List T} {x : T} (h : x ∈ M) : hasB M x = true := by simpa [hasB] using h
theorem hasB_no {M : List T} {x : T} (h : x ∉ M) : hasB M x = false := by simpa [hasB] using h

def com (A R : List T) : Bool := A.any fun x => R.contains x

def chk (A R : List T) : Int :=
  if A.length ≠ R.length + 1 then 11 else if 1000 < A.length then 4 else if lst A ≠ 0 then lst A else if lst R ≠ 0 then lst R else if com A R then 7 else 0

theorem lstFrom_zero : ∀ (l : List T) (p : Option T), lstFrom p l = 0 ↔ (∀ x ∈ l, x.length ≤ 65536) ∧ (∀ q, p = some q → ∀ x ∈ l, q ≤ x) ∧ Srt l
  | [], p => by simp [lstFrom]
  | x :: xs, p => by
    have ih := lstFrom_zero xs (some x)
    unfold lstFrom
    by_cases h1 : 65536 < x.length
    · rw [if_pos h1]
      constructor
      · intro h; omega
      · intro h; have := h.1 x (by simp); omega
    · rw [if_neg h1]
      by_cases h2 : (p.any fun q => decide (x < q)) = true
      · rw [if_pos h2]
        constructor
        · intro h; omega
        · intro h
          cases p with
          | none => simp at h2
          | some q =>
            simp at h2
            exact absurd h2 (nlt_of_le (h.2.1 q rfl x (by simp)))
      · rw [if_neg h2, ih]
        constructor
        · rintro ⟨a, b, c⟩
          have hx : ∀ q, p = some q → q ≤ x := by
            rintro q rfl
            simp at h2
            exact le_of_nlt (by simpa using h2)
          refine ⟨?_, ?_, ?_⟩
          · intro y hy
            rcases List.mem_cons.1 hy with rfl | hy
            · omega
            · exact a y hy
          · intro q hq y hy
            rcases List.mem_cons.1 hy with rfl | hy
            · exact hx q hq
            · exact le_tr (hx q hq) (b x rfl y hy)
          · exact List.Pairwise.cons (fun y hy => b x rfl y hy) c
        · rintro ⟨a, b, c⟩
          have c := List.pairwise_cons.1 c
          exact ⟨fun y hy => a y (by simp [hy]), fun q hq y hy => by cases hq; exact c.1 y hy, c.2⟩

/-- What stands before place k. -/
def prev (L : List T) (k : Nat) : Option T := if k = 0 then none else L[k - 1]?

theorem lst_start (L : List T) : lst L = lstFrom (prev L 0) (L.drop 0) := by simp [prev, lst]
theorem lst_end (L : List T) {k : Nat} (h : L.length ≤ k) : lstFrom (prev L k) (L.drop k) = 0 := by
  rw [List.drop_eq_nil_of_le h]; simp [lstFrom]
theorem lst_step (L : List T) {k : Nat} (h : k < L.length) : lstFrom (prev L k) (L.drop k) =
    if 65536 < L[k].length then 4 else if ((prev L k).any fun q => decide (L[k] < q)) then 10 else lstFrom (prev L (k + 1)) (L.drop (k + 1)) := by
  have e : prev L (k + 1) = some L[k] := by simp [prev, List.getElem?_eq_getElem h]
  rw [List.drop_eq_getElem_cons h, lstFrom, e]
theorem prev_pos (L : List T) {k : Nat} (h : k < L.length) (h0 : 0 < k) : prev L k = some (L[k - 1]'(by omega)) := by
  unfold prev
  rw [if_neg (by omega), List.getElem?_eq_getElem]

theorem lst_zero (l : List T) : lst l = 0 ↔ (∀ x ∈ l, x.length ≤ 65536) ∧ Srt l := by
  unfold lst
  rw [lstFrom_zero]
  simp

theorem com_false {A R : List T} : com A R = false ↔ ∀ x ∈ A, x ∉ R := by
  unfold com
  rw [List.any_eq_false]
  simp

/-- A valid sum. -/
structure Ok (A R : List T) : Prop where
  len : A.length = R.length + 1
  most : A.length ≤ 1000
  sa : Srt A
  sr : Srt R
  la : ∀ x ∈ A, x.length ≤ 65536
  lr : ∀ x ∈ R, x.length ≤ 65536
  apart : ∀ x ∈ A, x ∉ R

theorem chk_zero {A R : List T} : chk A R = 0 ↔ Ok A R := by
  unfold chk
  constructor
  · intro h
    by_cases h1 : A.length ≠ R.length + 1
    · rw [if_pos h1] at h; omega
    rw [if_neg h1] at h
    by_cases h2 : 1000 < A.length
    · rw [if_pos h2] at h; omega
    rw [if_neg h2] at h
    by_cases h3 : lst A ≠ 0
    · rw [if_pos h3] at h; exact absurd h h3
    rw [if_neg h3] at h
    by_cases h4 : lst R ≠ 0
    · rw [if_pos h4] at h; exact absurd h h4
    rw [if_neg h4] at h
    have h3' := (lst_zero A).1 (by simpa using h3)
    have h4' := (lst_zero R).1 (by simpa using h4)
    by_cases h5 : com A R = true
    · rw [if_pos h5] at h; omega
    · exact ⟨by omega, by omega, h3'.2, h4'.2, h3'.1, h4'.1, com_false.1 (by simpa using h5)⟩
  · intro h
    rw [if_neg (by have := h.len; omega), if_neg (by have := h.most; omega), if_neg (by simpa using (lst_zero A).2 ⟨h.la, h.sa⟩),
      if_neg (by simpa using (lst_zero R).2 ⟨h.lr, h.sr⟩), if_neg (by simpa using com_false.2 h.apart)]

/-- What has been passed in the two lists stands in one of them alone. -/
def TP (L M : List T) (i k : Nat) : Prop := (∀ x ∈ L.take i, x ∉ M) ∧ (∀ y ∈ M.take k, y ∉ L)

theorem tp_start (L M : List T) : TP L M 0 0 := by simp [TP]

theorem srt_drop {M : List T} (h : Srt M) {k : Nat} (hk : k < M.length) : ∀ y ∈ M.drop k, M[k] ≤ y := by
  rw [List.drop_eq_getElem_cons hk]
  have h' : Srt (M.drop k) := List.Pairwise.sublist (List.drop_sublist k M) h
  rw [List.drop_eq_getElem_cons hk] at h'
  intro y hy
  rcases List.mem_cons.1 hy with rfl | hy
  · exact List.le_refl _
  · exact (List.pairwise_cons.1 h').1 y hy

theorem tp_left {L M : List T} {i k : Nat} (h : TP L M i k) (hi : i < L.length) (hk : k < M.length) (hM : Srt M) (hlt : L[i] < M[k]) : TP L M (i + 1) k := by
  refine ⟨fun x hx => ?_, h.2⟩
  rw [List.take_succ_eq_append_getElem hi, List.mem_append, List.mem_singleton] at hx
  rcases hx with hx | rfl
  · exact h.1 x hx
  · intro hm
    rw [← List.take_append_drop k M, List.mem_append] at hm
    rcases hm with hm | hm
    · exact h.2 _ hm (List.getElem_mem hi)
    · exact nlt_of_le (srt_drop hM hk _ hm) hlt

theorem tp_right {L M : List T} {i k : Nat} (h : TP L M i k) (hi : i < L.length) (hk : k < M.length) (hL : Srt L) (hlt : M[k] < L[i]) : TP L M i (k + 1) := by
  refine ⟨h.1, fun x hx => ?_⟩
  rw [List.take_succ_eq_append_getElem hk, List.mem_append, List.mem_singleton] at hx
  rcases hx with hx | rfl
  · exact h.2 x hx
  · intro hm
    rw [← List.take_append_drop i L, List.mem_append] at hm
    rcases hm with hm | hm
    · exact h.1 _ hm (List.getElem_mem hk)
    · exact nlt_of_le (srt_drop hL hi _ hm) hlt

theorem tp_end {L M : List T} {i k : Nat} (h : TP L M i k) (hd : L.length ≤ i ∨ M.length ≤ k) : com L M = false := by
  rw [com_false]
  intro x hx hm
  rcases hd with hd | hd
  · exact h.1 x (by rw [List.take_of_length_le hd]; exact hx) hm
  · exact h.2 x (by rw [List.take_of_length_le hd]; exact hm) hx

theorem tp_found {L M : List T} {i k : Nat} (hi : i < L.length) (hk : k < M.length) (e : L[i] = M[k]) : com L M = true := by
  unfold com
  rw [List.any_eq_true]
  refine ⟨L[i], List.getElem_mem hi, ?_⟩
  rw [e]
  simp

/-- Two sorted lists that hold each text equally often are one. -/
theorem srt_ext {l m : List T} (hl : Srt l) (hm : Srt m) (h : ∀ x, l.count x = m.count x) : l = m :=
  List.Perm.eq_of_pairwise (fun _ _ _ _ a b => le_anti a b) hl hm (List.perm_iff_count.2 h)

/-- A text put into an ascending list. -/
def ins (x : T) : List T → List T
  | [] => [x]
  | y :: ys => if y < x then y :: ins x ys else x :: y :: ys

theorem count_ins (x z : T) : ∀ l : List T, (ins x l).count z = l.count z + if x = z then 1 else 0
  | [] => by simp [ins, List.count_cons]
  | y :: ys => by
    unfold ins
    split
    · rw [List.count_cons, count_ins x z ys, List.count_cons]; omega
    · rw [List.count_cons]; by_cases e : x = z <;> simp [e]

theorem mem_ins {x z : T} {l : List T} : z ∈ ins x l ↔ z = x ∨ z ∈ l := by
  rw [← List.count_pos_iff, ← List.count_pos_iff, count_ins]
  by_cases e : x = z
  · simp [e]
  · rw [if_neg e]
    constructor
    · intro h; right; omega
    · rintro (rfl | h)
      · exact absurd rfl e
      · omega

theorem len_ins (x : T) : ∀ l : List T, (ins x l).length = l.length + 1
  | [] => rfl
  | y :: ys => by
    unfold ins
    split
    · simp [len_ins x ys]
    · simp

theorem srt_ins (x : T) : ∀ l : List T, Srt l → Srt (ins x l)
  | [], _ => by simp [ins]
  | y :: ys, h => by
    have hc := List.pairwise_cons.1 h
    unfold ins
    split
    · rename_i hlt
      refine List.Pairwise.cons (fun z hz => ?_) (srt_ins x ys hc.2)
      rcases mem_ins.1 hz with rfl | hz
      · exact le_of_lt' hlt
      · exact hc.1 z hz
    · rename_i hlt
      refine List.Pairwise.cons (fun z hz => ?_) h
      rcases List.mem_cons.1 hz with rfl | hz
      · exact le_of_nlt hlt
      · exact le_tr (le_of_nlt hlt) (hc.1 z hz)

/-- Where a text is put. -/
theorem ins_eq (x : T) : ∀ (l : List T) (k : Nat), k ≤ l.length → (∀ y ∈ l.take k, y < x) → (∀ h : k < l.length, ¬ l[k] < x) → ins x l = l.take k ++ x :: l.drop k
  | [], k, hk, _, _ => by simp [ins]
  | y :: ys, 0, _, _, h => by
    have := h (by simp)
    simp only [List.getElem_cons_zero] at this
    simp [ins, this]
  | y :: ys, k + 1, hk, h1, h2 => by
    have hy := h1 y (by simp)
    have ih := ins_eq x ys k (by simpa using hk) (fun z hz => h1 z (by simp [hz])) (fun h => by have := h2 (by simpa using h); simpa using this)
    simp [ins, hy, ih]

/-- What stays where the first place of a text is struck. -/
theorem erase_eq {x : T} : ∀ (l : List T) (k : Nat) (h : k < l.length), x ∉ l.take k → l[k] = x → l.erase x = l.take k ++ l.drop (k + 1)
  | [], k, h, _, _ => by simp at h
  | y :: ys, 0, _, _, e => by simp at e; simp [e]
  | y :: ys, k + 1, h, h1, e => by
    have hy : y ≠ x := fun e' => h1 (by simp [e'])
    have ih := erase_eq ys k (by simpa using h) (fun hm => h1 (by rw [List.take_succ_cons]; exact List.mem_cons_of_mem _ hm)) (by simpa using e)
    have hb : (y == x) = false := by simpa using hy
    simp [hb, ih]

theorem srt_erase {l : List T} (x : T) (h : Srt l) : Srt (l.erase x) := List.Pairwise.sublist List.erase_sublist h

/-- One text added to a sum; one removed from it. -/
def addA (s : List T × List T) (x : T) : List T × List T := if x ∈ s.2 then (s.1, s.2.erase x) else (ins x s.1, s.2)
def addR (s : List T × List T) (x : T) : List T × List T := if x ∈ s.1 then (s.1.erase x, s.2) else (s.1, ins x s.2)
def add (s : List T × List T) (as rs : List T) : List T × List T := rs.foldl addR (as.foldl addA s)
def mrg (b l r : List T × List T) : List T × List T := if l = r then l else add (add l r.1 r.2) b.2 b.1

/-- How often a text stands in a sum, with its sign. -/
def tot (s : List T × List T) (x : T) : Int := (s.1.count x : Int) - (s.2.count x : Int)

/-- Sorted, and no text in both lists. -/
structure Fine (s : List T × List T) : Prop where
  sa : Srt s.1
  sr : Srt s.2
  apart : ∀ x ∈ s.1, x ∉ s.2

theorem Ok.fine {s : List T × List T} (h : Ok s.1 s.2) : Fine s := ⟨h.sa, h.sr, h.apart⟩

theorem fine_ext {s t : List T × List T} (hs : Fine s) (ht : Fine t) (h : ∀ x, tot s x = tot t x) : s = t := by
  have key : ∀ x, s.1.count x = t.1.count x ∧ s.2.count x = t.2.count x := by
    intro x
    have hx := h x
    unfold tot at hx
    have a : s.1.count x = 0 ∨ s.2.count x = 0 := by
      by_cases m : x ∈ s.1
      · right; exact List.count_eq_zero.2 (hs.apart x m)
      · left; exact List.count_eq_zero.2 m
    have b : t.1.count x = 0 ∨ t.2.count x = 0 := by
      by_cases m : x ∈ t.1
      · right; exact List.count_eq_zero.2 (ht.apart x m)
      · left; exact List.count_eq_zero.2 m
    omega
  obtain ⟨a, r⟩ := s
  obtain ⟨a', r'⟩ := t
  have e1 : a = a' := srt_ext hs.sa ht.sa fun x => (key x).1
  have e2 : r = r' := srt_ext hs.sr ht.sr fun x => (key x).2
  rw [e1, e2]

theorem addA_tot (s : List T × List T) (x z : T) : tot (addA s x) z = tot s z + if x = z then 1 else 0 := by
  unfold addA
  split
  · rename_i h
    unfold tot
    simp only [List.count_erase]
    have hp := List.count_pos_iff.2 h
    by_cases e : x = z
    · subst e; simp; omega
    · simp [e]
  · unfold tot
    simp only [count_ins]
    by_cases e : x = z <;> simp [e] <;> omega

theorem addR_tot (s : List T × List T) (x z : T) : tot (addR s x) z = tot s z - if x = z then 1 else 0 := by
  unfold addR
  split
  · rename_i h
    unfold tot
    simp only [List.count_erase]
    have hp := List.count_pos_iff.2 h
    by_cases e : x = z
    · subst e; simp; omega
    · simp [e]
  · unfold tot
    simp only [count_ins]
    by_cases e : x = z <;> simp [e] <;> omega

theorem addA_fine {s : List T × List T} (h : Fine s) (x : T) : Fine (addA s x) := by
  unfold addA
  split
  · exact ⟨h.sa, srt_erase x h.sr, fun z hz hm => h.apart z hz (List.mem_of_mem_erase hm)⟩
  · rename_i hx
    exact ⟨srt_ins x _ h.sa, h.sr, fun z hz hm => by
      rcases mem_ins.1 hz with rfl | hz
      · exact hx hm
      · exact h.apart z hz hm⟩

theorem addR_fine {s : List T × List T} (h : Fine s) (x : T) : Fine (addR s x) := by
  unfold addR
  split
  · exact ⟨srt_erase x h.sa, h.sr, fun z hz hm => h.apart z (List.mem_of_mem_erase hz) hm⟩
  · rename_i hx
    exact ⟨h.sa, srt_ins x _ h.sr, fun z hz hm => by
      rcases mem_ins.1 hm with rfl | hm
      · exact hx hz
      · exact h.apart z hz hm⟩

theorem addA_len (s : List T × List T) (x : T) : ((addA s x).1.length : Int) - (addA s x).2.length = (s.1.length : Int) - s.2.length + 1 ∧
    (addA s x).1.length ≤ s.1.length + 1 ∧ (addA s x).2.length ≤ s.2.length := by
  unfold addA
  split
  · rename_i h
    have := List.length_erase_of_mem h
    have hp := List.length_pos_of_mem h
    simp only [this]
    omega
  · simp only [len_ins]
    omega

theorem addR_len (s : List T × List T) (x : T) : ((addR s x).1.length : Int) - (addR s x).2.length = (s.1.length : Int) - s.2.length - 1 ∧
    (addR s x).1.length ≤ s.1.length ∧ (addR s x).2.length ≤ s.2.length + 1 := by
  unfold addR
  split
  · rename_i h
    have := List.length_erase_of_mem h
    have hp := List.length_pos_of_mem h
    simp only [this]
    omega
  · simp only [len_ins]
    omega

theorem addA_mem {s : List T × List T} {x : T} (P : T → Prop) (h1 : ∀ y ∈ s.1, P y) (h2 : ∀ y ∈ s.2, P y) (hx : P x) : (∀ y ∈ (addA s x).1, P y) ∧ (∀ y ∈ (addA s x).2, P y) := by
  unfold addA
  split
  · exact ⟨h1, fun y hy => h2 y (List.mem_of_mem_erase hy)⟩
  · exact ⟨fun y hy => by rcases mem_ins.1 hy with rfl | hy; exact hx; exact h1 y hy, h2⟩

theorem addR_mem {s : List T × List T} {x : T} (P : T → Prop) (h1 : ∀ y ∈ s.1, P y) (h2 : ∀ y ∈ s.2, P y) (hx : P x) : (∀ y ∈ (addR s x).1, P y) ∧ (∀ y ∈ (addR s x).2, P y) := by
  unfold addR
  split
  · exact ⟨fun y hy => h1 y (List.mem_of_mem_erase hy), h2⟩
  · exact ⟨h1, fun y hy => by rcases mem_ins.1 hy with rfl | hy; exact hx; exact h2 y hy⟩

theorem foldA_tot (z : T) : ∀ (as : List T) (s : List T × List T), tot (as.foldl addA s) z = tot s z + as.count z
  | [], s => by simp
  | x :: xs, s => by
    rw [List.foldl_cons, foldA_tot z xs, addA_tot, List.count_cons]
    by_cases e : x = z <;> simp [e] <;> omega

theorem foldR_tot (z : T) : ∀ (as : List T) (s : List T × List T), tot (as.foldl addR s) z = tot s z - as.count z
  | [], s => by simp
  | x :: xs, s => by
    rw [List.foldl_cons, foldR_tot z xs, addR_tot, List.count_cons]
    by_cases e : x = z <;> simp [e] <;> omega

theorem add_tot (s : List T × List T) (as rs : List T) (z : T) : tot (add s as rs) z = tot s z + as.count z - rs.count z := by
  unfold add
  rw [foldR_tot, foldA_tot]

theorem foldA_fine : ∀ (as : List T) (s : List T × List T), Fine s → Fine (as.foldl addA s)
  | [], _, h => h
  | x :: xs, _, h => foldA_fine xs _ (addA_fine h x)
theorem foldR_fine : ∀ (as : List T) (s : List T × List T), Fine s → Fine (as.foldl addR s)
  | [], _, h => h
  | x :: xs, _, h => foldR_fine xs _ (addR_fine h x)
theorem add_fine {s : List T × List T} (h : Fine s) (as rs : List T) : Fine (add s as rs) := foldR_fine _ _ (foldA_fine _ _ h)

theorem foldA_len : ∀ (as : List T) (s : List T × List T), ((as.foldl addA s).1.length : Int) - (as.foldl addA s).2.length = (s.1.length : Int) - s.2.length + as.length ∧
    (as.foldl addA s).1.length ≤ s.1.length + as.length ∧ (as.foldl addA s).2.length ≤ s.2.length
  | [], s => by simp
  | x :: xs, s => by
    have h := foldA_len xs (addA s x)
    have k := addA_len s x
    rw [List.foldl_cons, List.length_cons]
    omega
theorem foldR_len : ∀ (as : List T) (s : List T × List T), ((as.foldl addR s).1.length : Int) - (as.foldl addR s).2.length = (s.1.length : Int) - s.2.length - as.length ∧
    (as.foldl addR s).1.length ≤ s.1.length ∧ (as.foldl addR s).2.length ≤ s.2.length + as.length
  | [], s => by simp
  | x :: xs, s => by
    have h := foldR_len xs (addR s x)
    have k := addR_len s x
    rw [List.foldl_cons, List.length_cons]
    omega
theorem add_len (s : List T × List T) (as rs : List T) : ((add s as rs).1.length : Int) - (add s as rs).2.length = (s.1.length : Int) - s.2.length + as.length - rs.length ∧
    (add s as rs).1.length ≤ s.1.length + as.length ∧ (add s as rs).2.length ≤ s.2.length + rs.length := by
  have h := foldA_len as s
  have k := foldR_len rs (as.foldl addA s)
  unfold add
  omega

theorem foldA_mem (P : T → Prop) : ∀ (as : List T) (s : List T × List T), (∀ y ∈ s.1, P y) → (∀ y ∈ s.2, P y) → (∀ y ∈ as, P y) → (∀ y ∈ (as.foldl addA s).1, P y) ∧ (∀ y ∈ (as.foldl addA s).2, P y)
  | [], _, h1, h2, _ => ⟨h1, h2⟩
  | x :: xs, s, h1, h2, h => by
    have k := addA_mem (s := s) (x := x) P h1 h2 (h x (by simp))
    exact foldA_mem P xs _ k.1 k.2 (fun y hy => h y (by simp [hy]))
theorem foldR_mem (P : T → Prop) : ∀ (as : List T) (s : List T × List T), (∀ y ∈ s.1, P y) → (∀ y ∈ s.2, P y) → (∀ y ∈ as, P y) → (∀ y ∈ (as.foldl addR s).1, P y) ∧ (∀ y ∈ (as.foldl addR s).2, P y)
  | [], _, h1, h2, _ => ⟨h1, h2⟩
  | x :: xs, s, h1, h2, h => by
    have k := addR_mem (s := s) (x := x) P h1 h2 (h x (by simp))
    exact foldR_mem P xs _ k.1 k.2 (fun y hy => h y (by simp [hy]))
theorem add_mem (P : T → Prop) (s : List T × List T) (as rs : List T) (h1 : ∀ y ∈ s.1, P y) (h2 : ∀ y ∈ s.2, P y) (h3 : ∀ y ∈ as, P y) (h4 : ∀ y ∈ rs, P y) :
    (∀ y ∈ (add s as rs).1, P y) ∧ (∀ y ∈ (add s as rs).2, P y) := by
  have k := foldA_mem P as s h1 h2 h3
  exact foldR_mem P rs _ k.1 k.2 h4

/-- A valid sum, as a pair. -/
abbrev Okp (s : List T × List T) : Prop := Ok s.1 s.2

theorem mrg_tot {b l r : List T × List T} (hne : l ≠ r) (x : T) : tot (mrg b l r) x = tot l x + tot r x - tot b x := by
  unfold mrg
  rw [if_neg hne, add_tot, add_tot]
  unfold tot
  omega

theorem mrg_fine {b l r : List T × List T} (hl : Fine l) : Fine (mrg b l r) := by
  unfold mrg
  split
  · exact hl
  · exact add_fine (add_fine hl _ _) _ _

/-- How long the merged lists are. -/
theorem mrg_len {b l r : List T × List T} (hb : Okp b) (hl : Okp l) (hr : Okp r) : (mrg b l r).1.length = (mrg b l r).2.length + 1 ∧
    (mrg b l r).1.length ≤ l.1.length + r.1.length + b.2.length ∧ (mrg b l r).2.length ≤ l.2.length + r.2.length + b.1.length := by
  have e1 := hb.len
  have e2 := hl.len
  have e3 := hr.len
  unfold mrg
  split
  · exact ⟨e2, by omega, by omega⟩
  · have h := add_len l r.1 r.2
    have k := add_len (add l r.1 r.2) b.2 b.1
    omega

theorem mrg_mem (P : T → Prop) {b l r : List T × List T} (hb1 : ∀ y ∈ b.1, P y) (hb2 : ∀ y ∈ b.2, P y) (hl1 : ∀ y ∈ l.1, P y) (hl2 : ∀ y ∈ l.2, P y) (hr1 : ∀ y ∈ r.1, P y) (hr2 : ∀ y ∈ r.2, P y) :
    (∀ y ∈ (mrg b l r).1, P y) ∧ (∀ y ∈ (mrg b l r).2, P y) := by
  unfold mrg
  split
  · exact ⟨hl1, hl2⟩
  · have k := add_mem P l r.1 r.2 hl1 hl2 hr1 hr2
    exact add_mem P _ b.2 b.1 k.1 k.2 hb2 hb1

theorem mrg_ok {b l r : List T × List T} (hb : Okp b) (hl : Okp l) (hr : Okp r) (hsz : l.1.length + r.1.length + b.2.length ≤ 1000) : Okp (mrg b l r) := by
  have f := mrg_fine (b := b) (r := r) (Ok.fine hl)
  have n := mrg_len hb hl hr
  have m := mrg_mem (fun y => y.length ≤ 65536) hb.la hb.lr hl.la hl.lr hr.la hr.lr
  exact ⟨n.1, by omega, f.sa, f.sr, m.1, m.2, f.apart⟩

/-- The merged sum is the one that holds each text as often as it must. -/
theorem mrg_unique {b l r s : List T × List T} (hl : Okp l) (hne : l ≠ r) (hs : Fine s) (h : ∀ x, tot s x = tot l x + tot r x - tot b x) : s = mrg b l r :=
  fine_ext hs (mrg_fine (Ok.fine hl)) fun x => by rw [h, mrg_tot hne]

theorem mrg_base_left {b r : List T × List T} (hb : Okp b) (hr : Okp r) : mrg b b r = r := by
  by_cases e : b = r
  · subst e; simp [mrg]
  · exact (mrg_unique hb e (Ok.fine hr) fun x => by omega).symm

theorem mrg_base_right {b l : List T × List T} (hl : Okp l) : mrg b l b = l := by
  by_cases e : l = b
  · subst e; simp [mrg]
  · exact (mrg_unique hl e (Ok.fine hl) fun x => by omega).symm

theorem mrg_same (b l : List T × List T) : mrg b l l = l := by simp [mrg]

theorem mrg_comm {b l r : List T × List T} (hl : Okp l) (hr : Okp r) : mrg b l r = mrg b r l := by
  by_cases e : l = r
  · subst e; rfl
  · exact fine_ext (mrg_fine (Ok.fine hl)) (mrg_fine (Ok.fine hr)) fun x => by rw [mrg_tot e, mrg_tot (Ne.symm e)]; omega

theorem mrg_order {f1 t1 f2 t2 s : List T × List T} (hs : Okp s) (h1 : s ≠ t1) (h2 : s ≠ t2)
    (ha : mrg f1 s t1 ≠ t2) (hb : mrg f2 s t2 ≠ t1) : mrg f2 (mrg f1 s t1) t2 = mrg f1 (mrg f2 s t2) t1 :=
  fine_ext (mrg_fine (mrg_fine (Ok.fine hs))) (mrg_fine (mrg_fine (Ok.fine hs))) fun x => by
    rw [mrg_tot ha, mrg_tot hb, mrg_tot h1, mrg_tot h2]; omega

/-- The sum of one value. -/
def one (v : T) : List T × List T := ([v], [])

theorem one_ok {v : T} (h : v.length ≤ 65536) : Okp (one v) :=
  ⟨rfl, by simp [one], by simp [one], by simp [one], by simpa [one] using h, by simp [one], by simp [one]⟩

theorem one_tot (v x : T) : tot (one v) x = if v = x then 1 else 0 := by
  simp only [tot, one, List.count_cons, List.count_nil]
  by_cases e : v = x <;> simp [e]

theorem one_inj {x y : T} (h : one x = one y) : x = y := by simpa [one] using h

/-- Two changes of a value: a conflict of two sides. -/
theorem undo_conflict {x y z : T} (hy : y.length ≤ 65536) (hxy : x ≠ y) (hyz : y ≠ z) (hxz : x ≠ z) :
    (mrg (one x) (one y) (one z)).2 = [x] ∧ (mrg (one x) (one y) (one z)).1.length = 2 := by
  have hne : one y ≠ one z := fun e => hyz (one_inj e)
  have key : (if y < z then [y, z] else [z, y], [x]) = mrg (one x) (one y) (one z) := by
    refine mrg_unique (one_ok hy) hne ⟨?_, by simp, ?_⟩ ?_
    · by_cases h : y < z
      · simpa [h] using le_of_lt' h
      · simpa [h] using le_of_nlt h
    · intro u hu
      have : u = y ∨ u = z := by
        by_cases h : y < z
        · simpa [h] using hu
        · simp [h] at hu; exact hu.symm
      rcases this with rfl | rfl
      · simpa using Ne.symm hxy
      · simpa using Ne.symm hxz
    · intro u
      rw [one_tot, one_tot, one_tot]
      unfold tot
      by_cases h : y < z <;> simp only [h, if_true, if_false, List.count_cons, List.count_nil] <;>
        by_cases e1 : y = u <;> by_cases e2 : z = u <;> by_cases e3 : x = u <;> simp_all
  rw [← key]
  by_cases h : y < z <;> simp [h]

theorem undo_left {x y z : T} (hx : x.length ≤ 65536) (hy : y.length ≤ 65536) (hz : z.length ≤ 65536) (hxy : x ≠ y) (hyz : y ≠ z) (hxz : x ≠ z) :
    mrg (one y) (mrg (one x) (one y) (one z)) (one x) = one z := by
  have hne : one y ≠ one z := fun e => hyz (one_inj e)
  have c := undo_conflict hy hxy hyz hxz
  have hne2 : mrg (one x) (one y) (one z) ≠ one x := fun e => by rw [e] at c; simp [one] at c
  have hok : Okp (mrg (one x) (one y) (one z)) := mrg_ok (one_ok hx) (one_ok hy) (one_ok hz) (by simp [one])
  exact (mrg_unique hok hne2 (Ok.fine (one_ok hz)) fun u => by rw [mrg_tot hne]; omega).symm

theorem undo_right {x y z : T} (hx : x.length ≤ 65536) (hy : y.length ≤ 65536) (hz : z.length ≤ 65536) (hxy : x ≠ y) (hyz : y ≠ z) (hxz : x ≠ z) :
    mrg (one z) (mrg (one x) (one y) (one z)) (one x) = one y := by
  have hne : one y ≠ one z := fun e => hyz (one_inj e)
  have c := undo_conflict hy hxy hyz hxz
  have hne2 : mrg (one x) (one y) (one z) ≠ one x := fun e => by rw [e] at c; simp [one] at c
  have hok : Okp (mrg (one x) (one y) (one z)) := mrg_ok (one_ok hx) (one_ok hy) (one_ok hz) (by simp [one])
  exact (mrg_unique hok hne2 (Ok.fine (one_ok hy)) fun u => by rw [mrg_tot hne]; omega).symm

/-- What the program writes: each key so often as its count says. -/
def pos (c : T → Int) (ks : List T) : List T := ks.flatMap fun k => List.replicate (c k).toNat k

theorem count_pos (c : T → Int) (x : T) : ∀ ks : List T, ks.Nodup → (pos c ks).count x = if x ∈ ks then (c x).toNat else 0
  | [], _ => by simp [pos]
  | k :: ks, h => by
    have hn := List.nodup_cons.1 h
    have ih := count_pos c x ks hn.2
    unfold pos at ih ⊢
    rw [List.flatMap_cons, List.count_append, ih, List.count_replicate]
    by_cases e : k = x
    · subst e; simp [hn.1]
    · have e' : ¬ x = k := fun h => e h.symm
      simp [e, e']

theorem srt_pos (c : T → Int) : ∀ ks : List T, Srt ks → Srt (pos c ks)
  | [], _ => by simp [pos]
  | k :: ks, h => by
    have hc := List.pairwise_cons.1 h
    unfold pos
    rw [List.flatMap_cons]
    refine List.pairwise_append.2 ⟨?_, srt_pos c ks hc.2, ?_⟩
    · exact List.pairwise_replicate.2 (Or.inr (List.le_refl k))
    · intro a ha b hb
      have ea := (List.mem_replicate.1 ha).2
      subst ea
      obtain ⟨k', hk', hb'⟩ := List.mem_flatMap.1 hb
      have eb := (List.mem_replicate.1 hb').2
      subst eb
      exact hc.1 _ hk'

theorem mem_pos {c : T → Int} {ks : List T} {x : T} (h : x ∈ pos c ks) : x ∈ ks ∧ 0 < c x := by
  obtain ⟨k, hk, hx⟩ := List.mem_flatMap.1 h
  obtain ⟨h1, h2⟩ := List.mem_replicate.1 hx
  subst h2
  exact ⟨hk, by omega⟩

/-- What the program's merge writes is the merged sum. -/
theorem prog_merge {b l r : List T × List T} (hl : Okp l) (hne : l ≠ r) (c : T → Int) (ks : List T) (hs : Srt ks) (hn : ks.Nodup)
    (hc : ∀ x, c x = tot l x + tot r x - tot b x) (hout : ∀ x, x ∉ ks → c x = 0) : (pos c ks, pos (fun x => - c x) ks) = mrg b l r := by
  refine mrg_unique hl hne ⟨srt_pos c ks hs, srt_pos _ ks hs, ?_⟩ ?_
  · intro x hx hx'
    have h1 := (mem_pos hx).2
    have h2 := (mem_pos hx').2
    omega
  · intro x
    rw [← hc]
    unfold tot
    simp only [count_pos _ _ ks hn]
    by_cases hm : x ∈ ks
    · simp only [hm, if_true]; omega
    · have := hout x hm
      simp only [hm, if_false]; omega

end Go.Proofs.Ytgenloemohcpcaa

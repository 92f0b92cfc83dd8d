/- The walks and the words of the family link, part 7: PlE. -/
import Derived.Test.YtgboboljgcfggaaGreatDoorM6
namespace Go.Proofs.YtgboboljgcfggaaGreatDoor

def dig (n : Nat) : List UInt8 := if h : n < 128 then [UInt8.ofNat n] else UInt8.ofNat (n % 128 + 128) :: dig (n / 128)
termination_by n
decreasing_by omega

theorem dig_small {n : Nat} (h : n < 128) : dig n = [UInt8.ofNat n] := by rw [dig, dif_pos h]
theorem dig_large {n : Nat} (h : ¬ n < 128) : dig n = UInt8.ofNat (n % 128 + 128) :: dig (n / 128) := by rw [dig, dif_neg h]

theorem dig_ne (n : Nat) : dig n ≠ [] := by
  by_cases h : n < 128
  · simp [dig_small h]
  · simp [dig_large h]
theorem dig_len (n : Nat) : (dig n).length ≤ n + 1 := by
  induction n using Nat.strongRecOn with
  | ind n ih =>
    by_cases h : n < 128
    · simp [dig_small h]
    · rw [dig_large h]
      have := ih (n / 128) (by omega)
      simp only [List.length_cons]
      omega

def onePut (x : T) : T := dig x.length ++ x
def giF : Nat → Nat → Nat → Nat → T → Nat × Nat × Int
  | 0, _, _, _, _ => (0, 0, 13)
  | _ + 1, _, _, _, [] => (0, 0, 12)
  | f + 1, i, n, u, d :: r => if 128 ≤ d.toNat then giF f (i + 1) (n + (d.toNat - 128) * u) (u * 128) r
    else if (d.toNat = 0 ∧ 0 < i) ∨ 1099511627776 < n + d.toNat * u then (0, 0, 13) else (n + d.toNat * u, i + 1, 0)
def gi (l : T) : Nat × Nat × Int := giF 6 0 0 1 l

theorem byte_lo' {m : Nat} (h : m < 128) : (UInt8.ofNat m).toNat = m := by simp; omega
theorem byte_hi' (m : Nat) : (UInt8.ofNat (m % 128 + 128)).toNat = m % 128 + 128 := by simp; omega

theorem giF_put : ∀ (f i n u m : Nat) (r : T), 0 < f → m < 128 ^ f → (0 < i → 0 < m) → n + m * u ≤ 1099511627776 → giF f i n u (dig m ++ r) = (n + m * u, i + (dig m).length, 0)
  | 0, _, _, _, _, _, h0, _, _, _ => absurd h0 (by omega)
  | f + 1, i, n, u, m, r, _, h, hi, hm => by
    by_cases hs : m < 128
    · rw [dig_small hs]
      simp only [List.singleton_append, giF, byte_lo' hs, List.length_singleton]
      rw [if_neg (by omega), if_neg]
      rintro (⟨h1, h2⟩ | h1)
      · have := hi h2; omega
      · omega
    · have e : n + m % 128 * u + m / 128 * (u * 128) = n + m * u := by
        have : m * u = (m % 128 + 128 * (m / 128)) * u := by rw [Nat.mod_add_div]
        rw [this, Nat.add_mul]
        have : m / 128 * (u * 128) = 128 * (m / 128) * u := by rw [Nat.mul_comm u 128, ← Nat.mul_assoc, Nat.mul_comm (m / 128) 128]
        omega
      have ih := giF_put f (i + 1) (n + m % 128 * u) (u * 128) (m / 128) r (by rcases Nat.eq_zero_or_pos f with rfl | h0; (simp at h; omega); exact h0) (by rw [Nat.pow_succ] at h; omega) (fun _ => by omega) (by omega)
      rw [dig_large hs]
      simp only [List.cons_append, giF, byte_hi', List.length_cons]
      rw [if_pos (by omega), Nat.add_sub_cancel, ih, e]
      simp only [Prod.mk.injEq, true_and, and_true]
      omega

theorem gi_put {n : Nat} (h : n ≤ 1099511627776) (r : T) : gi (dig n ++ r) = (n, (dig n).length, 0) := by
  unfold gi
  have h6 : (128 : Nat) ^ 6 = 4398046511104 := by decide
  rw [giF_put 6 0 0 1 n r (by omega) (by omega) (by omega) (by omega)]
  simp

theorem giF_inv : ∀ (f i n u : Nat) (l : T) (v k : Nat), giF f i n u l = (v, k, 0) → ∃ (m : Nat) (r : T), l = dig m ++ r ∧ v = n + m * u ∧ k = i + (dig m).length ∧ (0 < i → 0 < m) ∧ v ≤ 1099511627776
  | 0, _, _, _, _, _, _, h => by simp [giF] at h
  | _ + 1, _, _, _, [], _, _, h => by simp [giF] at h
  | f + 1, i, n, u, d :: r, v, k, h => by
    simp only [giF] at h
    have hd : d.toNat < 256 := UInt8.toNat_lt d
    by_cases h1 : 128 ≤ d.toNat
    · rw [if_pos h1] at h
      obtain ⟨m, r', e1, e2, e3, e4, e5⟩ := giF_inv f (i + 1) _ _ r v k h
      have hm := e4 (by omega)
      refine ⟨d.toNat - 128 + 128 * m, r', ?_, ?_, ?_, fun _ => by omega, e5⟩
      · rw [dig_large (by omega), e1]
        have a1 : (d.toNat - 128 + 128 * m) % 128 + 128 = d.toNat := by omega
        have a2 : (d.toNat - 128 + 128 * m) / 128 = m := by omega
        rw [a1, a2]
        simp
      · rw [e2, Nat.add_mul]
        have : m * (u * 128) = 128 * m * u := by rw [Nat.mul_comm u 128, ← Nat.mul_assoc, Nat.mul_comm m 128]
        omega
      · have a2 : (d.toNat - 128 + 128 * m) / 128 = m := by omega
        rw [e3, dig_large (n := d.toNat - 128 + 128 * m) (by omega), a2, List.length_cons]
        omega
    · rw [if_neg h1] at h
      by_cases h2 : (d.toNat = 0 ∧ 0 < i) ∨ 1099511627776 < n + d.toNat * u
      · rw [if_pos h2] at h; simp at h
      · rw [if_neg h2] at h
        simp only [Prod.mk.injEq, and_true] at h
        refine ⟨d.toNat, r, ?_, h.1.symm, ?_, ?_, ?_⟩
        · rw [dig_small (by omega)]; simp
        · rw [dig_small (by omega)]; simp; omega
        · intro hi
          have := not_or.1 h2
          have h3 := this.1
          omega
        · have := not_or.1 h2
          omega
theorem gi_inv {l : T} {v k : Nat} (h : gi l = (v, k, 0)) : ∃ r : T, l = dig v ++ r ∧ k = (dig v).length ∧ v ≤ 1099511627776 := by
  obtain ⟨m, r, e1, e2, e3, -, e5⟩ := giF_inv 6 0 0 1 l v k h
  have : m = v := by omega
  subst this
  exact ⟨r, e1, by omega, e5⟩
theorem giF_err : ∀ (f i n u : Nat) (l : T), (giF f i n u l).2.2 ≠ 0 → (giF f i n u l).1 = 0 ∧ (giF f i n u l).2.1 = 0
  | 0, _, _, _, _ => by simp [giF]
  | _ + 1, _, _, _, [] => by simp [giF]
  | f + 1, i, n, u, d :: r => by
    simp only [giF]
    split
    · exact giF_err f _ _ _ r
    · split <;> simp

/-- A text at the beginning of bytes. -/
def gt (l : T) : T × Nat × Int :=
  if (gi l).2.2 ≠ 0 then ([], 0, (gi l).2.2) else if 65536 < (gi l).1 then ([], 0, 13) else if l.length - (gi l).2.1 < (gi l).1 then ([], 0, 12) else ((l.drop (gi l).2.1).take (gi l).1, (gi l).2.1 + (gi l).1, 0)
theorem gt_put {x : T} (h : x.length ≤ 65536) (r : T) : gt (onePut x ++ r) = (x, (onePut x).length, 0) := by
  have e : gi (onePut x ++ r) = (x.length, (dig x.length).length, 0) := by
    unfold onePut
    rw [List.append_assoc]
    exact gi_put (by omega) _
  unfold gt
  rw [e]
  simp only [ne_eq, not_true_eq_false, if_false]
  rw [if_neg (by omega), if_neg (by simp [onePut])]
  simp [onePut]
theorem gt_inv {l x : T} {k : Nat} (h : gt l = (x, k, 0)) : ∃ r : T, l = onePut x ++ r ∧ k = (onePut x).length ∧ x.length ≤ 65536 := by
  unfold gt at h
  by_cases h0 : (gi l).2.2 ≠ 0
  · rw [if_pos h0] at h; simp only [Prod.mk.injEq] at h; exact absurd h.2.2 h0
  rw [if_neg h0] at h
  by_cases h1 : 65536 < (gi l).1
  · rw [if_pos h1] at h; simp at h
  rw [if_neg h1] at h
  by_cases h2 : l.length - (gi l).2.1 < (gi l).1
  · rw [if_pos h2] at h; simp at h
  rw [if_neg h2] at h
  obtain ⟨r, e1, e2, e3⟩ := gi_inv (l := l) (v := (gi l).1) (k := (gi l).2.1) (by
    have : (gi l).2.2 = 0 := by simpa using h0
    rw [← this])
  simp only [Prod.mk.injEq, and_true] at h
  generalize (gi l).1 = n at *
  generalize (gi l).2.1 = m at *
  have hr : l.drop m = r := by rw [e1, e2]; simp
  have hl : l.length = m + r.length := by rw [e1, e2]; simp
  rw [hr] at h
  have hx : x.length = n := by rw [← h.1]; simp; omega
  refine ⟨r.drop n, ?_, ?_, by omega⟩
  · unfold onePut
    rw [hx, ← h.1, List.append_assoc, List.take_append_drop, e1]
  · unfold onePut
    rw [hx, List.length_append, hx, ← h.2, e2]

/-- A reader: what is left, and whether something was wrong. -/
structure RS where
  rest : T
  bad : Bool
deriving DecidableEq
def rdN (s : RS) : Int × RS := if (gi s.rest).2.2 = 0 then ((gi s.rest).1, ⟨s.rest.drop (gi s.rest).2.1, s.bad⟩) else (0, ⟨s.rest, true⟩)
def rdT (s : RS) : T × RS := if (gt s.rest).2.2 = 0 then ((gt s.rest).1, ⟨s.rest.drop (gt s.rest).2.1, s.bad⟩) else ([], ⟨s.rest, true⟩)
def sgn (n : Int) : Int := if n % 2 = 1 then -(n / 2) else n / 2
def flag (c : Bool) (s : RS) : RS := ⟨s.rest, s.bad || c⟩
/-- A list of n elements; it ends where something is wrong. -/
def rdL {α : Type} (rd : RS → α × RS) : Nat → RS → List α → List α × RS
  | 0, s, acc => (acc, s)
  | n + 1, s, acc => if s.bad then (acc, s) else rdL rd n (rd s).2 (acc ++ [(rd s).1])
def rdI (st : Bool) (s : RS) : Ins × RS :=
  let a := rdN s
  let b := rdN a.2
  let c := rdN (flag (st && b.1 == 1) b.2)
  let d := rdT c.2
  (⟨a.1, sgn b.1, c.1, d.1⟩, d.2)
def rdB (st : Bool) (s : RS) : PB × RS :=
  let a := rdN s
  let b := rdN a.2
  let c := rdN (flag (st && decide (1 < b.1)) b.2)
  let d := rdL (rdI st) c.1.toNat c.2 []
  (⟨a.1, b.1 == 1, d.1⟩, d.2)
def rdS (s : RS) : Stt × RS :=
  let a := rdT s
  let b := rdN a.2
  let c := rdN b.2
  (⟨a.1, b.1, c.1⟩, c.2)
/-- A program. -/
structure PP where
  bs : List PB
  ss : List Stt
deriving DecidableEq
def rdP (st : Bool) (s : RS) : PP × RS :=
  let a := rdN s
  let b := rdL (rdB st) a.1.toNat a.2 []
  let c := rdN b.2
  let d := rdL rdS c.1.toNat c.2 []
  (⟨b.1, d.1⟩, d.2)
/-- Encodings. -/
def eN (n : Int) : T := dig n.toNat
def eA (a : Int) : T := if a < 0 then dig (2 * (-a).toNat + 1) else dig (2 * a.toNat)
def eI (x : Ins) : T := eN x.op ++ eA x.a ++ eN x.b ++ onePut x.name
def eL {α : Type} (e : α → T) (l : List α) : T := (l.map e).flatten
def eB (b : PB) : T := eN b.cap ++ eN (if b.param then 1 else 0) ++ eN b.ins.length ++ eL eI b.ins
def eS (x : Stt) : T := onePut x.pack ++ eN x.id ++ eN x.block
def eP (p : PP) : T := eN p.bs.length ++ eL eB p.bs ++ eN p.ss.length ++ eL eS p.ss
/-- What can be encoded. -/
def nOk (n : Int) : Prop := 0 ≤ n ∧ n ≤ 1099511627776
def aOk (a : Int) : Prop := -500000000000 ≤ a ∧ a ≤ 500000000000
structure IOk (x : Ins) : Prop where
  op : nOk x.op
  a : aOk x.a
  b : nOk x.b
  n : x.name.length ≤ 65536
structure BOk (b : PB) : Prop where
  cap : nOk b.cap
  l : b.ins.length ≤ 1000000
  i : ∀ x ∈ b.ins, IOk x
structure SOk (x : Stt) : Prop where
  p : x.pack.length ≤ 65536
  i : nOk x.id
  b : nOk x.block
structure POk (p : PP) : Prop where
  bl : p.bs.length ≤ 1000000
  sl : p.ss.length ≤ 1000000
  b : ∀ x ∈ p.bs, BOk x
  s : ∀ x ∈ p.ss, SOk x
theorem rdN_enc {n : Int} (h : nOk n) (r : T) : rdN ⟨eN n ++ r, false⟩ = (n, ⟨r, false⟩) := by
  unfold rdN eN
  have h1 := gi_put (n := n.toNat) (by have := h.2; omega) r
  rw [h1]
  have := h.1
  simp only [if_pos, List.drop_left]
  congr 1
  omega
theorem rdT_enc {x : T} (h : x.length ≤ 65536) (r : T) : rdT ⟨onePut x ++ r, false⟩ = (x, ⟨r, false⟩) := by
  unfold rdT
  rw [gt_put h r]
  simp only [if_pos, List.drop_left]
theorem rdL_enc {α : Type} {rd : RS → α × RS} {e : α → T} : ∀ (l : List α) (acc : List α) (r : T), (∀ x ∈ l, ∀ r, rd ⟨e x ++ r, false⟩ = (x, ⟨r, false⟩)) → rdL rd l.length ⟨eL e l ++ r, false⟩ acc = (acc ++ l, ⟨r, false⟩)
  | [], acc, r, _ => by simp [rdL, eL]
  | x :: l, acc, r, h => by
    rw [List.length_cons, rdL, if_neg (by simp)]
    have e1 : eL e (x :: l) ++ r = e x ++ (eL e l ++ r) := by simp [eL]
    rw [e1, h x (by simp), rdL_enc l (acc ++ [x]) r fun y hy => h y (by simp [hy])]
    simp
theorem rdA_enc {a : Int} (h : aOk a) (r : T) : ∃ n : Int, rdN ⟨eA a ++ r, false⟩ = (n, ⟨r, false⟩) ∧ sgn n = a ∧ n ≠ 1 := by
  unfold eA
  obtain ⟨h1, h2⟩ := h
  by_cases hn : a < 0
  · rw [if_pos hn]
    refine ⟨((2 * (-a).toNat + 1 : Nat) : Int), ?_, ?_, by omega⟩
    · have := rdN_enc (n := ((2 * (-a).toNat + 1 : Nat) : Int)) ⟨by omega, by omega⟩ r
      unfold eN at this
      rwa [Int.toNat_natCast] at this
    · unfold sgn
      rw [if_pos (by omega)]
      omega
  · rw [if_neg hn]
    refine ⟨((2 * a.toNat : Nat) : Int), ?_, ?_, by omega⟩
    · have := rdN_enc (n := ((2 * a.toNat : Nat) : Int)) ⟨by omega, by omega⟩ r
      unfold eN at this
      rwa [Int.toNat_natCast] at this
    · unfold sgn
      rw [if_neg (by omega)]
      omega
theorem flag_false (s : RS) : flag false s = s := by unfold flag; simp
theorem rdI_enc (st : Bool) {x : Ins} (h : IOk x) (r : T) : rdI st ⟨eI x ++ r, false⟩ = (x, ⟨r, false⟩) := by
  unfold rdI eI
  simp only [List.append_assoc]
  rw [rdN_enc h.op]
  obtain ⟨n, h1, h2, h3⟩ := rdA_enc h.a (eN x.b ++ (onePut x.name ++ r))
  simp only
  rw [h1]
  simp only
  rw [show (st && n == 1) = false from by simp [h3], flag_false, rdN_enc h.b]
  simp only
  rw [rdT_enc h.n, h2]
theorem rdB_enc (st : Bool) {x : PB} (h : BOk x) (r : T) : rdB st ⟨eB x ++ r, false⟩ = (x, ⟨r, false⟩) := by
  unfold rdB eB
  simp only [List.append_assoc]
  rw [rdN_enc h.cap]
  simp only
  rw [rdN_enc (n := if x.param = true then 1 else 0) ⟨by split <;> omega, by split <;> omega⟩]
  simp only
  have hp : decide (1 < (if x.param = true then (1 : Int) else 0)) = false := by split <;> simp
  rw [hp, Bool.and_false, flag_false, rdN_enc ⟨by omega, by have := h.l; omega⟩]
  simp only [Int.toNat_natCast]
  rw [rdL_enc x.ins [] r fun y hy r => rdI_enc st (h.i y hy) r]
  obtain ⟨c, p, i⟩ := x
  cases p <;> simp
theorem rdS_enc {x : Stt} (h : SOk x) (r : T) : rdS ⟨eS x ++ r, false⟩ = (x, ⟨r, false⟩) := by
  unfold rdS eS
  simp only [List.append_assoc]
  rw [rdT_enc h.p]
  simp only
  rw [rdN_enc h.i]
  simp only
  rw [rdN_enc h.b]
theorem rdP_enc (st : Bool) {p : PP} (h : POk p) (r : T) : rdP st ⟨eP p ++ r, false⟩ = (p, ⟨r, false⟩) := by
  unfold rdP eP
  simp only [List.append_assoc]
  rw [rdN_enc ⟨by omega, by have := h.bl; omega⟩]
  simp only [Int.toNat_natCast]
  rw [rdL_enc p.bs [] _ fun y hy r => rdB_enc st (h.b y hy) r]
  simp only
  rw [rdN_enc ⟨by omega, by have := h.sl; omega⟩]
  simp only [Int.toNat_natCast]
  rw [rdL_enc p.ss [] _ fun y hy r => rdS_enc (h.s y hy) r]
  simp
/-- What a reader has read where nothing was wrong. -/
def Rev {α : Type} (e : α → T) (x : α × RS) (s : RS) : Prop := x.2.bad = false → s.bad = false ∧ s.rest = e x.1 ++ x.2.rest
theorem rdN_inv (s : RS) : Rev eN (rdN s) s := by
  unfold rdN Rev
  split
  · rename_i h
    intro hb
    obtain ⟨r, e1, e2, -⟩ := gi_inv (l := s.rest) (v := (gi s.rest).1) (k := (gi s.rest).2.1) (by rw [← h])
    refine ⟨hb, ?_⟩
    show s.rest = eN ((gi s.rest).1 : Int) ++ s.rest.drop (gi s.rest).2.1
    unfold eN
    rw [Int.toNat_natCast, e2]
    conv => lhs; rw [e1]
    conv => rhs; rhs; rhs; rw [e1]
    rw [List.drop_left]
  · intro hb; cases hb
theorem rdN_nn (s : RS) : 0 ≤ (rdN s).1 := by
  unfold rdN
  split <;> simp
theorem rdT_inv (s : RS) : Rev onePut (rdT s) s := by
  unfold rdT Rev
  split
  · rename_i h
    intro hb
    obtain ⟨r, e1, e2, -⟩ := gt_inv (l := s.rest) (x := (gt s.rest).1) (k := (gt s.rest).2.1) (by rw [← h])
    refine ⟨hb, ?_⟩
    show s.rest = onePut (gt s.rest).1 ++ s.rest.drop (gt s.rest).2.1
    rw [e2]
    conv => lhs; rw [e1]
    conv => rhs; rhs; rhs; rw [e1]
    rw [List.drop_left]
  · intro hb; cases hb
theorem rdL_inv {α : Type} {rd : RS → α × RS} {e : α → T} (h : ∀ s, Rev e (rd s) s) : ∀ (n : Nat) (s : RS) (acc : List α), (rdL rd n s acc).2.bad = false → ∃ l, (rdL rd n s acc).1 = acc ++ l ∧ l.length = n ∧ s.bad = false ∧ s.rest = eL e l ++ (rdL rd n s acc).2.rest
  | 0, s, acc, hb => ⟨[], by simp [rdL], rfl, hb, by simp [rdL, eL]⟩
  | n + 1, s, acc, hb => by
    rw [rdL] at hb ⊢
    split at hb
    · rename_i h1
      rw [h1] at hb
      cases hb
    · rename_i h1
      rw [if_neg h1]
      obtain ⟨l, e1, e2, e3, e4⟩ := rdL_inv h n _ _ hb
      obtain ⟨f1, f2⟩ := h s e3
      refine ⟨(rd s).1 :: l, by rw [e1]; simp, by simp [e2], f1, ?_⟩
      rw [f2, e4]
      simp [eL]
theorem flag_bad {c : Bool} {s : RS} (h : (flag c s).bad = false) : s.bad = false ∧ c = false := by
  unfold flag at h
  simpa using h
theorem eA_sgn {n : Int} (h0 : 0 ≤ n) (h1 : n ≠ 1) : eA (sgn n) = eN n := by
  unfold eA sgn eN
  split
  · rename_i h
    rw [if_pos (by omega)]
    congr 1
    omega
  · rename_i h
    rw [if_neg (by omega)]
    congr 1
    omega
theorem rdI_inv (s : RS) : Rev eI (rdI true s) s := by
  unfold rdI Rev
  simp only
  have hn := rdN_nn (rdN s).2
  have hA := rdN_inv s
  generalize rdN s = a at *
  have hB := rdN_inv a.2
  generalize rdN a.2 = b at *
  have hC := rdN_inv (flag (true && b.1 == 1) b.2)
  generalize rdN (flag (true && b.1 == 1) b.2) = c at *
  have hD := rdT_inv c.2
  generalize rdT c.2 = d at *
  intro hb
  obtain ⟨d1, d2⟩ := hD hb
  obtain ⟨c1, c2⟩ := hC d1
  obtain ⟨b1, b2⟩ := flag_bad c1
  obtain ⟨b3, b4⟩ := hB b1
  obtain ⟨a1, a2⟩ := hA b3
  refine ⟨a1, ?_⟩
  have c3 : b.2.rest = eN c.1 ++ c.2.rest := c2
  rw [a2, b4, c3, d2]
  unfold eI
  simp only
  rw [eA_sgn hn (by simpa using b2)]
  simp
theorem rdB_inv (s : RS) : Rev eB (rdB true s) s := by
  unfold rdB Rev
  simp only
  have hn := rdN_nn (rdN s).2
  have hA := rdN_inv s
  generalize rdN s = a at *
  have hB := rdN_inv a.2
  generalize rdN a.2 = b at *
  have hC := rdN_inv (flag (true && decide (1 < b.1)) b.2)
  have hcn := rdN_nn (flag (true && decide (1 < b.1)) b.2)
  generalize rdN (flag (true && decide (1 < b.1)) b.2) = c at *
  have hD := rdL_inv rdI_inv c.1.toNat c.2 []
  generalize rdL (rdI true) c.1.toNat c.2 [] = d at *
  intro hb
  obtain ⟨l, d1, d2, d3, d4⟩ := hD hb
  obtain ⟨c1, c2⟩ := hC d3
  obtain ⟨b1, b2⟩ := flag_bad c1
  obtain ⟨b3, b4⟩ := hB b1
  obtain ⟨a1, a2⟩ := hA b3
  refine ⟨a1, ?_⟩
  have c3 : b.2.rest = eN c.1 ++ c.2.rest := c2
  rw [a2, b4, c3, d4]
  unfold eB
  simp only
  have h1 : ¬ 1 < b.1 := by simpa using b2
  have hp : (if (b.1 == 1) = true then (1 : Int) else 0) = b.1 := by
    by_cases h : b.1 = 1
    · simp [h]
    · rw [if_neg (by simpa using h)]; omega
  rw [hp, d1]
  simp only [List.nil_append]
  rw [show (l.length : Int) = c.1 from by rw [d2]; exact Int.toNat_of_nonneg hcn]
  simp
theorem rdS_inv (s : RS) : Rev eS (rdS s) s := by
  unfold rdS Rev
  simp only
  have hA := rdT_inv s
  generalize rdT s = a at *
  have hB := rdN_inv a.2
  generalize rdN a.2 = b at *
  have hC := rdN_inv b.2
  generalize rdN b.2 = c at *
  intro hb
  obtain ⟨c1, c2⟩ := hC hb
  obtain ⟨b1, b2⟩ := hB c1
  obtain ⟨a1, a2⟩ := hA b1
  refine ⟨a1, ?_⟩
  rw [a2, b2, c2]
  unfold eS
  simp
theorem rdP_inv (s : RS) : Rev eP (rdP true s) s := by
  unfold rdP Rev
  simp only
  have hA := rdN_inv s
  have han := rdN_nn s
  generalize rdN s = a at *
  have hB := rdL_inv rdB_inv a.1.toNat a.2 []
  generalize rdL (rdB true) a.1.toNat a.2 [] = b at *
  have hC := rdN_inv b.2
  have hcn := rdN_nn b.2
  generalize rdN b.2 = c at *
  have hD := rdL_inv rdS_inv c.1.toNat c.2 []
  generalize rdL rdS c.1.toNat c.2 [] = d at *
  intro hb
  obtain ⟨m, d1, d2, d3, d4⟩ := hD hb
  obtain ⟨c1, c2⟩ := hC d3
  obtain ⟨l, b1, b2, b3, b4⟩ := hB c1
  obtain ⟨a1, a2⟩ := hA b3
  refine ⟨a1, ?_⟩
  unfold eP
  simp only
  rw [d1, b1]
  simp only [List.nil_append]
  rw [show (l.length : Int) = a.1 from by rw [b2]; exact Int.toNat_of_nonneg han, show (m.length : Int) = c.1 from by rw [d2]; exact Int.toNat_of_nonneg hcn]
  rw [a2, b4, c2, d4]
  simp
/-- Both ways of reading: strict, or by encoding again. -/
theorem rd_both {s : T} {V : PP → Prop} (hV : ∀ p, V p → POk p) {p : PP} : ((rdP true ⟨s, false⟩) = (p, ⟨[], false⟩) ∧ V p) ↔ ∃ r, rdP false ⟨s, false⟩ = (p, ⟨r, false⟩) ∧ V p ∧ eP p = s := by
  constructor
  · rintro ⟨h, hv⟩
    have h1 := rdP_inv ⟨s, false⟩
    unfold Rev at h1
    rw [h] at h1
    have h2 := (h1 rfl).2
    have h3 : s = eP p := by simpa using h2
    refine ⟨[], ?_, hv, h3.symm⟩
    have := rdP_enc false (hV p hv) []
    rw [List.append_nil, ← h3] at this
    exact this
  · rintro ⟨r, h, hv, rfl⟩
    have := rdP_enc true (hV p hv) []
    rw [List.append_nil] at this
    exact ⟨this, hv⟩
end Go.Proofs.YtgboboljgcfggaaGreatDoor

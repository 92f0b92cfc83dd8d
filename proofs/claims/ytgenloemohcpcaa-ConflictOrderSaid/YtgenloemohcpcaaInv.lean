/- A region that draws its order, by an invariant over what has come up. -/
import Derived.Test.YtgenloemohcpcaaLawUndo
namespace Go.Proofs.Ytgenloemohcpcaa
open Go.RowKit

theorem wpAny_inv {P : Program} {md : Region.Mode} {ops : Array Oper} {Q : Exit → Act → World → Prop} (I : Nat → Array Bool → Act → World → Prop) (f : Nat)
    (hne : ∀ n l a w, I (n + 1) l a w → Region.ready md ops l ≠ [])
    (hstep : ∀ n l a w i, I (n + 1) l a w → i ∈ Region.ready md ops l → wpOp P ops Q i (fun a' w' => I n (l.setIfInBounds i true) a' w') a w)
    (hend : ∀ l a w, I 0 l a w → wpAny P md ops Q f l a w) : ∀ n l a w, I n l a w → wpAny P md ops Q (n + f) l a w := by
  intro n
  induction n with
  | zero => intro l a w h; rw [Nat.zero_add]; exact hend l a w h
  | succ n ih =>
    intro l a w h
    rw [show n + 1 + f = (n + f) + 1 by omega]
    exact ⟨fun h0 => absurd h0 (hne n l a w h), fun i hi => wpOp_mono (fun a' w' h' => ih _ a' w' h') (hstep n l a w i h hi)⟩

theorem wpAny_act {P : Program} {md : Region.Mode} {ops : Array Oper} {Q : Exit → Act → World → Prop} {f : Nat} {l : Array Bool} {a : Act} {w : World} (h : ∀ a0, a0 = a → wpAny P md ops Q f l a0 w) : wpAny P md ops Q f l a w := h a rfl

/-- A function with one value turned. -/
def upd {α : Type} (v : Nat → α) (t : Nat) (x : α) : Nat → α := fun j => if j = t then x else v j
theorem upd_at {α : Type} (v : Nat → α) (t : Nat) (x : α) : upd v t x t = x := by simp [upd]
theorem upd_ne {α : Type} (v : Nat → α) {t j : Nat} (x : α) (h : j ≠ t) : upd v t x j = v j := by simp [upd, h]

/-- A frame with these slots turned. -/
def putAll (a : Act) (v : Nat → Value) : List Nat → Act
  | [] => a
  | t :: ts => (putAll a v ts).put (some t) (v t)

theorem putAll_upd_out (a : Act) (v : Nat → Value) (t : Nat) (x : Value) : ∀ ts : List Nat, t ∉ ts → putAll a (upd v t x) ts = putAll a v ts
  | [], _ => rfl
  | u :: ts, h => by
    simp only [List.mem_cons, not_or] at h
    simp only [putAll, putAll_upd_out a v t x ts h.2, upd_ne v x (Ne.symm h.1)]
theorem putAll_put (a : Act) (v : Nat → Value) (t : Nat) (x : Value) : ∀ ts : List Nat, t ∈ ts → ts.Nodup → (putAll a v ts).put (some t) x = putAll a (upd v t x) ts
  | u :: ts, h, hn => by
    rw [List.nodup_cons] at hn
    by_cases e : t = u
    · subst e
      simp only [putAll, putAll_upd_out a v t x ts hn.1, upd_at]
      simp [Act.put]
    · have hm : t ∈ ts := by
        rcases List.mem_cons.1 h with h | h
        · exact absurd h e
        · exact h
      simp only [putAll]
      rw [Act.put_comm _ _ _ (fun d hd => by intro h2; cases hd; cases h2; exact e rfl), putAll_put a v t x ts hm hn.2, upd_ne v x (Ne.symm e)]
theorem putAll_size (a : Act) (v : Nat → Value) : ∀ ts : List Nat, (putAll a v ts).tmps.size = a.tmps.size
  | [] => rfl
  | t :: ts => by simp [putAll, Act.put, putAll_size a v ts]
theorem eval_in (a : Act) (v : Nat → Value) (t : Nat) : ∀ ts : List Nat, t ∈ ts → t < a.tmps.size → (putAll a v ts).eval (.tmp t) = v t
  | u :: ts, h, hs => by
    by_cases e : t = u
    · subst e
      have := putAll_size a v ts
      simp [putAll, Act.put, Act.eval, this, hs]
    · have hm : t ∈ ts := by
        rcases List.mem_cons.1 h with h | h
        · exact absurd h e
        · exact h
      rw [putAll, Act.eval_put (fun d hd => by intro h2; cases hd; cases h2; exact e rfl)]
      exact eval_in a v t ts hm hs
theorem eval_out (a : Act) (v : Nat → Value) (t : Nat) : ∀ ts : List Nat, t ∉ ts → (putAll a v ts).eval (.tmp t) = a.eval (.tmp t)
  | [], _ => rfl
  | u :: ts, h => by
    simp only [List.mem_cons, not_or] at h
    rw [putAll, Act.eval_put (fun d hd => by intro h2; cases hd; cases h2; exact h.1 rfl)]
    exact eval_out a v t ts h.2
/-- The slots are at first what they are. -/
theorem putAll_self (a : Act) : ∀ ts : List Nat, putAll a (fun t => a.tmps.getD t undef) ts = a
  | [] => rfl
  | t :: ts => by
    rw [putAll, putAll_self a ts]
    show Act.mk (a.tmps.setIfInBounds t (a.tmps.getD t undef)) a.defers = a
    suffices e : a.tmps.setIfInBounds t (a.tmps.getD t undef) = a.tmps by rw [e]
    apply Array.ext
    · simp
    · intro i h1 h2
      rw [Array.getElem_setIfInBounds]
      split
      · rename_i e; subst e; simp [Array.getD, h2]
      · rfl

theorem wpOp_of {P : Program} {ops : Array Oper} {Q : Exit → Act → World → Prop} {i : Nat} {K : Act → World → Prop} {a : Act} {w : World} {o : Oper} (ho : ops[i]? = some o) (hg : o.guard = none) (h : o.wp P a w K Q) : wpOp P ops Q i K a w := by
  unfold wpOp
  simp only [ho]
  rw [if_pos (by simp [Region.wanted, hg])]
  exact .inl h
end Go.Proofs.Ytgenloemohcpcaa

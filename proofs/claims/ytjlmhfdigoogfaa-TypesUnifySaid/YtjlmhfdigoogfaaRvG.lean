/- Walks: join (80), joined; equal (50). -/
import Derived.Test.YtjlmhfdigoogfaaRvE
import Derived.Test.YtjlmhfdigoogfaaRvF
namespace Go.Proofs.Ytjlmhfdigoogfaa
open Go.RowKit

/-- What equal does. -/
def EQH (b : SB) (B : Nat) (V : List Int) (g : SS → PT → PT → Option (Bool × SS)) : Prop := ∀ (S : SS) (L : List Ty) (W : World) (x y : Ty) (r : Bool) (S' : SS), SMem b B V S L W → TG B V x W → TG B V y W → g S x.er y.er = some (r, S') → Calls Try.prog 50 #[.pointer (some ⟨b.sp, 0, none⟩), x.v, y.v] W (EqM b B V L S S' r W)
/-- What join does. -/
def JNH (b : SB) (B : Nat) (V : List Int) (g : SS → PT → PT → Option (Bool × SS)) : Prop := ∀ (S : SS) (L : List Ty) (W : World) (a c : Nat) (r : Bool) (S' : SS), SMem b B V S L W → a < V.length → c < V.length → jnP V g S a c = some (r, S') → Calls Try.prog 80 #[.pointer (some ⟨b.sp, 0, none⟩), iv a, iv c] W (EqM b B V L S S' r W)
attribute [local irreducible] Calls in
set_option maxRecDepth 100000 in
set_option maxHeartbeats 1000000 in
theorem jj_same (b : SB) (B : Nat) (V : List Int) (S : SS) (L : List Ty) (W : World) (h : SMem b B V S L W) (a : Nat) : Calls Try.prog 80 #[.pointer (some ⟨b.sp, 0, none⟩), iv a, iv a] W (EqM b B V L S S true W) := by
  have H := Lib.hid h
  clear h
  go_enter Try.func80, Try.ntmps80
  go_wp2
  go_ret
  exact ⟨rfl, L, H.out, SGr.refl _ _, fun i _ hb => ⟨hb, rfl⟩⟩
theorem jj_two {b : SB} {B : Nat} {V : List Int} {g : SS → PT → PT → Option (Bool × SS)} (EQ : EQH b B V g) {S : SS} {L : List Ty} {W : World} (h : SMem b B V S L W) {a c : Nat} (hac : a < c) (hc : c < V.length) {r : Bool} {S' : SS} (e : jn2P V g S a c = some (r, S')) :
    Calls Try.prog 80 #[.pointer (some ⟨b.sp, 0, none⟩), iv a, iv c] W (EqM b B V L S S' r W) ∧ Calls Try.prog 80 #[.pointer (some ⟨b.sp, 0, none⟩), iv c, iv a] W (EqM b B V L S S' r W) := by
  unfold jn2P at e
  by_cases h1 : S.b c = false
  · rw [if_pos h1] at e
    cases e
    exact ⟨join1 b B V S L W h a c hac hc h1, join1s b B V S L W h a c hac hc h1⟩
  · rw [if_neg h1] at e
    have h1' : S.b c = true := by simpa using h1
    by_cases h2 : S.b a = false
    · rw [if_pos h2] at e
      cases e
      have hk := (h.wf.ok c hc h1').1
      exact ⟨join2 b B V S L W h a c hac hc h1' h2 hk, join2s b B V S L W h a c hac hc h1' h2 hk⟩
    · rw [if_neg h2] at e
      have h2' : S.b a = true := by simpa using h2
      by_cases h3 : sndP V (S.jn a c) a = false
      · rw [if_pos h3] at e
        cases e
        exact ⟨join3 b B V S L W h a c hac hc h1' h2' h3, join3s b B V S L W h a c hac hc h1' h2' h3⟩
      · rw [if_neg h3] at e
        have h3' : sndP V (S.jn a c) a = true := by simpa using h3
        cases hq : g (S.jn a c) (S.t a) (S.t c) with
        | none => rw [hq] at e; cases e
        | some p =>
          obtain ⟨q, S3⟩ := p
          rw [hq] at e
          cases q with
          | true =>
            cases e
            exact ⟨join5 b B V S L W h a c hac hc g EQ h1' h2' h3' _ hq, join5s b B V S L W h a c hac hc g EQ h1' h2' h3' _ hq⟩
          | false =>
            cases e
            exact ⟨join4 b B V S L W h a c hac hc g EQ h1' h2' h3' _ hq, join4s b B V S L W h a c hac hc g EQ h1' h2' h3' _ hq⟩
theorem jj_any {b : SB} {B : Nat} {V : List Int} {g : SS → PT → PT → Option (Bool × SS)} (EQ : EQH b B V g) : JNH b B V g := by
  intro S L W a c r S' h ha hc e
  unfold jnP at e
  by_cases h1 : a = c
  · rw [if_pos h1] at e
    cases e
    subst h1
    exact jj_same b B V S L W h a
  · rw [if_neg h1] at e
    by_cases h2 : c < a
    · rw [if_pos h2] at e
      exact (jj_two EQ h h2 ha e).2
    · rw [if_neg h2] at e
      exact (jj_two EQ h (by omega) hc e).1
end Go.Proofs.Ytjlmhfdigoogfaa

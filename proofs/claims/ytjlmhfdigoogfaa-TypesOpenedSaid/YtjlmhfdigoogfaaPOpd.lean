/- TypesOpened returns true for every input. No condition. -/
import Derived.Test.YtjlmhfdigoogfaaOpn
import Derived.Test.YtjlmhfdigoogfaaLawO
namespace Go.Proofs.Ytjlmhfdigoogfaa
open Go.ChangeShapes Go.WideShapes Go.ChangeAt Go.RowKit Go.Joins
open Go.ChangeMaps (open_string shut_string)

set_option maxRecDepth 100000 in
theorem opened_holds_lifted (os : Os) (started : os.Started) (H : Type) (enc : TypeId × Value → H) :
    ReturnsInHanded {} Try.checked os 11 .any (Rows.typesOpenedSpec.pre6 enc Try.prog Try.f11 Rows.typesOpenedRow.domain false) (Rows.typesOpenedSpec.post enc Try.prog Try.f11 false true false false) := by
  refine returnsInHanded_of_change (C := Try.checked) own started (by kernel_rfl) Try.func11
    (ChangeSpec.witness6 (enc := enc) (C := Try.checked) false ⟨#[], #[.agg #[.int .i64 0, .int .i64 0, .int .i64 0, .slice none 0 0], .int .u16 0, .string ⟨#[]⟩], []⟩ 8 (by kernel_rfl) (by kernel_rfl) (by kernel_rfl) (by kernel_rfl)) ?_
  intro W base args ds gs before hval0 hW _ _
  have hval : ∀ (j : Nat) t v, Try.f11.params[j]? = some t → args[j]? = some v → Value.okWide Try.prog W .any base t v := hval0
  have hW' := hW
  obtain ⟨p, q, hA0, hV, rfl, _, _⟩ := hW
  have hA : DataW.TrodAll enc Try.prog W 0 (fun _ => true) true Try.f11.params.toList args.toList ds p := hA0
  rw [Try.params11] at hA hval
  obtain ⟨v0, v1, v2, d0, d1, d2, p0, p1, p2, rfl, rfl, rfl, h0, h1, h2⟩ := trodAll_three hA
  obtain ⟨rfl, rfl⟩ := trodVars_none hV
  have lt0 : ∀ x ∈ p0, x.block < W.heap.size := by obtain ⟨m, hm⟩ := h0; exact DataW.trod_lt m _ _ _ hm
  obtain ⟨s0, e0, r0⟩ := open_sc (hval 0 47 v0 rfl rfl) h0
  obtain ⟨n1, rfl, rfl, rfl, hw1⟩ := open_int Try.underlying61 (hval 1 61 v1 rfl rfl) h1
  obtain ⟨b2, rfl, rfl, rfl, hw2⟩ := open_string Try.underlying9 (hval 2 9 v2 rfl rfl) h2
  have e2 : Value.string b2 = tv b2.data.toList := by simp [tv]
  clear hA0 hval0
  have hw : Calls Try.prog 11 #[v0, .int .u16 n1, .string b2] W fun e w' => e = .returned (.bool true) ∧ W.grownBy w' none := by
    rw [e0, e2]
    exact law_opened_any s0 n1 b2.data.toList W r0 (by have := hw1; simp only [Lit.wf, Bool.and_eq_true, decide_eq_true_eq] at this; exact this) (Nat.le_trans (Nat.le_of_eq (Array.length_toList (xs := b2.data))) (Nat.le_trans hw2 (by unfold maxLen; decide)))
  refine hw.mono fun e W' ⟨he, gr⟩ => ?_
  have bel := below_of gr
  subst he
  exact ⟨_, rfl, _, _, _, [], _, [], hW', trodAll_mk1 (shut_bool Try.underlying4 _), trodAll_mk3 (Below.trod laidOut (by kernel_rfl) (of_decide_eq_true (by kernel_rfl)) h0 bel lt0) (shut_int Try.underlying61 hw1) (shut_string Try.underlying9 hw2), rfl, bel.frame _, fun h => by cases h⟩

theorem opened_holds : Rows.TypesOpenedSaid :=
  OpenClaim.holds_of_wide 11 Try.f11 rfl rfl rfl rfl rfl rfl rfl ⟨rfl, rfl, rfl, rfl, rfl⟩ rfl rfl rfl rfl rfl (by kernel_rfl) Try.func11 (by kernel_rfl)
    (of_decide_eq_true (by kernel_rfl)) (by unfold Func.isWrapper; first | (rw [if_pos (by decide +kernel)]; kernel_rfl) | (rw [if_neg (by decide +kernel)]; exact ⟨rfl, rfl⟩))
    (fun os started H enc _ => opened_holds_lifted os started H enc)
end Go.Proofs.Ytjlmhfdigoogfaa

/- LinkEncoding returns true for every input. The two listed tables of unicode/utf8 are tied to the program text; their contents are never read. -/
import Derived.Test.YtgboboljgcfggaaDoorM7
import Derived.Test.YtgboboljgcfggaaDoorOpW
import Derived.Test.YtgboboljgcfggaaDoorLawN
namespace Go.Proofs.YtgboboljgcfggaaDoor
open Go.ChangeShapes Go.WideShapes Go.ChangeAt Go.RowKit Go.Joins
open Go.ChangeMaps (open_string shut_string)
set_option maxRecDepth 100000 in
theorem encoding_holds_lifted (os : Os) (started : os.Started) (H : Type) (enc : TypeId × Value → H) :
    ReturnsInHanded {} Tryd.checked os 6 .any (fun w args => (Rows.linkEncodingSpec.pre enc Tryd.prog Tryd.f6 Rows.linkEncodingRow.domain false w args ∧ laidMetH Tryd.prog Rows.linkEncodingRow.laid w) ∧ sizedMet enc Tryd.prog Tryd.f6 (OpenSpec.ofChange Rows.linkEncodingSpec) false w args)
      (Rows.linkEncodingSpec.post enc Tryd.prog Tryd.f6 false true false false) := by
  refine returnsInHanded_of_change_and (C := Tryd.checked) (X := fun w _ => laidMetH Tryd.prog Rows.linkEncodingRow.laid w) (fun _ _ _ hh h => h.of_heap hh) own started (by kernel_rfl) Tryd.func6
    (ChangeSpec.witness_shaped (enc := enc) (C := Tryd.checked) (os := os) (X := fun w _ => laidMetH Tryd.prog Rows.linkEncodingRow.laid w) false (World.laidAll Tryd.prog os Rows.linkEncodingRow.laid) #[.agg #[.slice none 0 0, .slice none 0 0], .string ⟨#[]⟩] 8 (World.laidAll_os _ _ _)
      (World.shaped_of_ZipB (by kernel_rfl) (by kernel_rfl)) (by kernel_rfl) (by kernel_rfl) (by kernel_rfl)
      (by rw [MakeChecks.laidMetH_plain _ _ _ (by kernel_rfl)]; exact laidMet_laidAll _ (by kernel_rfl) (by kernel_rfl))) ?_
  intro W base args ds gs before hval0 hW _ hwt _ _
  have hval : ∀ (j : Nat) t v, Tryd.f6.params[j]? = some t → args[j]? = some v → Value.okWide Tryd.prog W .any base t v := hval0
  have hW' := hW
  obtain ⟨p, q, hA0, hV, rfl, _, _⟩ := hW
  have hA : DataW.TrodAll enc Tryd.prog W 0 (fun _ => true) true Tryd.f6.params.toList args.toList ds p := hA0
  rw [Tryd.params6] at hA hval
  obtain ⟨v0, v1, d0, d1, p0, p1, rfl, rfl, rfl, h0, h1⟩ := trodAll_two hA
  obtain ⟨rfl, rfl⟩ := trodVars_none hV
  have lt0 : ∀ x ∈ p0, x.block < W.heap.size := by obtain ⟨m, hm⟩ := h0; exact DataW.trod_lt m _ _ _ hm
  have hw0 : (d0.weights Tryd.prog 29).all (· ≤ reachBytes) = true := List.all_eq_true.2 fun n hn => List.all_eq_true.1 hwt n (DataW.weights_mem_each (j := 0) (by rw [Tryd.params6]; rfl) rfl n hn)
  obtain ⟨P0, e0, r0, l0, c0⟩ := open_prg_w (hval 0 29 v0 rfl rfl) h0 hw0
  obtain ⟨s1, rfl, rfl, rfl, hs1⟩ := open_string Tryd.underlying9 (hval 1 9 v1 rfl rfl) h1
  have e1 : Value.string s1 = Value.string ⟨s1.data.toList.toArray⟩ := by rw [Array.toArray_toList]
  clear hA0 hval0
  have hw : Calls Tryd.prog 6 #[v0, .string s1] W fun e w' => e = .returned (.bool true) ∧ W.grownBy w' none := by
    rw [e0, e1]
    exact law_encoding_any P0 s1.data.toList W r0 l0 c0 (by have h : s1.data.toList.length = s1.size := Array.length_toList; rw [h]; unfold maxLen at hs1; omega)
  refine hw.mono fun e W' ⟨he, gr⟩ => ?_
  have bel := below_of gr
  subst he
  exact ⟨_, rfl, _, _, _, [], _, [], hW', trodAll_mk1 (shut_bool Tryd.underlying4 _), trodAll_mk2 (Below.trod laidOut (by kernel_rfl) (of_decide_eq_true (by kernel_rfl)) h0 bel lt0) (shut_string Tryd.underlying9 hs1), rfl, bel.frame _, fun h => by cases h⟩

theorem encoding_holds_row : Rows.LinkEncodingSaid :=
  OpenClaim.holds_of_wide 6 Tryd.f6 rfl rfl rfl rfl rfl rfl rfl ⟨rfl, rfl, rfl, rfl, rfl⟩ rfl rfl rfl rfl rfl (by kernel_rfl) Tryd.func6 (by kernel_rfl)
    (of_decide_eq_true (by kernel_rfl)) (by unfold Func.isWrapper; first | (rw [if_pos (by decide +kernel)]; kernel_rfl) | (rw [if_neg (by decide +kernel)]; exact ⟨rfl, rfl⟩))
    (fun os started H enc _ => encoding_holds_lifted os started H enc)
theorem encoding_holds : Rows.LinkEncodingCardSaid :=
  Claim7.holds_tied_plain_at .later [] [.data, .pinned] true (true, "ae70739856eb622701cc1d50a601ba67c1047da8b177681e256f974ec26d8ea9") false encoding_holds_row (fun _ h => by cases h) (by kernel_rfl) (fun _ h => by cases h) linkEncoding_row_tie rfl ⟨rfl, rfl⟩ (by kernel_rfl) rfl
    (fun f fn hf hfn => by
      obtain rfl : f = 6 := Option.some.inj ((show Tryd.prog.funcNamed "cordwood/cordwoodlaw30.LinkEncoding" = some 6 by kernel_rfl).symm.trans hf) |>.symm
      obtain rfl : fn = Tryd.f6 := (Option.some.inj (Tryd.func6.symm.trans hfn)).symm
      exact ⟨by kernel_rfl, fun j t ht => by
        rw [Tryd.params6] at ht
        have hm : t ∈ [29, 9] := by simpa using Array.mem_of_getElem? ht
        have hall : ([29, 9].all fun u => !Tryd.prog.wantsStandIn u) = true := by kernel_rfl
        exact (show Tryd.prog.wantsStandIn t = false by simpa using List.all_eq_true.1 hall t hm)⟩)
    (by kernel_rfl)
end Go.Proofs.YtgboboljgcfggaaDoor

/- The law AsmLabels holds of every input; the listed variables are tied to the program's text. -/
import Derived.Test.YtifciocionlciaaDoorPart6
set_option linter.unusedSimpArgs false
set_option linter.unusedVariables false
namespace Go.Proofs.YtifciocionlciaaDoor
open Go Go.Am Go.ChangeShapes Go.WideShapes Go.ChangeAt Go.RowKit

set_option maxRecDepth 100000 in
theorem asmLabels_lifted (os : Os) (started : os.Started) (H : Type) (enc : TypeId × Value → H) :
    ReturnsInHanded {} Tryd.checked os 8 .any (fun w args => (Rows.asmLabelsSpec.pre enc Tryd.prog Tryd.f8 Rows.asmLabelsRow.domain false w args ∧ laidMetH Tryd.prog laidV w) ∧ sizedMet enc Tryd.prog Tryd.f8 (OpenSpec.ofChange Rows.asmLabelsSpec) false w args) (Rows.asmLabelsSpec.post enc Tryd.prog Tryd.f8 false true false false) := by
  refine returns_of_law_laidX (C := Tryd.checked) own started (by kernel_rfl) Tryd.func8
    (ChangeSpec.witness_shaped (enc := enc) (C := Tryd.checked) (os := os) (X := fun w _ => laidMetH Tryd.prog laidV w) false (World.laidAll Tryd.prog os laidV) #[.int .u8 0, .int .u8 0, .string .empty] 8 (World.laidAll_os _ _ _)
      (World.shaped_of_ZipB (by kernel_rfl) (by kernel_rfl)) (by kernel_rfl) (by kernel_rfl) (by kernel_rfl)
      (by rw [MakeChecks.laidMetH_plain _ _ _ (by kernel_rfl)]; exact laidMet_laidAll _ (by kernel_rfl) (by kernel_rfl)))
    rfl laidOut (by kernel_rfl) rfl u4 (fun ds h => by match ds, h with | [d0, d1, d2], _ => rfl) ?_
  intro W base args ds ps hX hval hA hz
  obtain ⟨o, hG, ho⟩ := small_held hX
  obtain ⟨v0, v1, v2, d0, d1, d2, p0, p1, p2, rfl, rfl, rfl, ⟨fuel0, g0⟩, ⟨fuel1, g1⟩, ⟨fuel2, g2⟩⟩ := trodAll_three (t := 5) (t' := 5) (t'' := 9) hA
  have hz : (d0.weights Tryd.prog 5 ++ (d1.weights Tryd.prog 5 ++ (d2.weights Tryd.prog 9 ++ []))).all (· ≤ reachBytes) = true := hz
  rw [List.all_append, List.all_append, List.all_append, Bool.and_eq_true, Bool.and_eq_true, Bool.and_eq_true] at hz
  have z0 : (d0.weights Tryd.prog 5).all (· ≤ reachBytes) = true := hz.1
  have z1 : (d1.weights Tryd.prog 5).all (· ≤ reachBytes) = true := hz.2.1
  have z2 : (d2.weights Tryd.prog 9).all (· ≤ reachBytes) = true := hz.2.2.1
  obtain ⟨m0, rfl⟩ := okWide_int u5 (hval 0 5 v0 rfl rfl)
  obtain ⟨x0, hx0, ht0⟩ := arg_data (n := 3) (by kernel_rfl) rfl g0 z0
  obtain ⟨s0, rfl, b0⟩ := hasT_u8 ht0
  obtain ⟨m1, rfl⟩ := okWide_int u5 (hval 1 5 v1 rfl rfl)
  obtain ⟨x1, hx1, ht1⟩ := arg_data (n := 3) (by kernel_rfl) rfl g1 z1
  obtain ⟨s1, rfl, b1⟩ := hasT_u8 ht1
  obtain ⟨a2, rfl⟩ := okWide_string u9 (hval 2 9 v2 rfl rfl)
  obtain ⟨x2, hx2, ht2⟩ := arg_data (n := 3) (by kernel_rfl) rfl g2 z2
  obtain ⟨s2, rfl, b2⟩ := hasT_str ht2
  exact says_of_pureG hG (AsmLabels_G ho s0 s1 s2 (by omega) (by omega) (by omega)) (by simp only [RVs, RV]; exact ⟨_, _, rfl, ⟨_, rfl, hx0⟩, ⟨_, _, rfl, ⟨_, rfl, hx1⟩, ⟨_, _, rfl, ⟨_, rfl, hx2⟩, rfl⟩⟩⟩)

theorem asmLabels_row : Rows.AsmLabelsSaid :=
  OpenClaim.holds_of_wide 8 Tryd.f8 rfl rfl rfl rfl rfl rfl rfl ⟨rfl, rfl, rfl, rfl, rfl⟩ rfl rfl rfl rfl rfl (by kernel_rfl) Tryd.func8 (by kernel_rfl)
    (of_decide_eq_true (by kernel_rfl)) (by unfold Func.isWrapper; first | (rw [if_pos (by decide +kernel)]; kernel_rfl) | (rw [if_neg (by decide +kernel)]; exact ⟨rfl, rfl⟩))
    (fun os started H enc _ => asmLabels_lifted os started H enc)

theorem asmLabels_holds : Rows.AsmLabelsCardSaid :=
  Claim7.holds_tied_plain_at .later [] [.data, .data, .pinned] true (true, "5db5528ca732187e98990547439a31bb3e2f0da3f6e1bdc039f6e3eb5e953aba") false asmLabels_row (fun _ h => by cases h) (by kernel_rfl) (fun _ h => by cases h) asmLabels_row_tie rfl ⟨rfl, rfl⟩ (by kernel_rfl) rfl
    (fun f fn hf hfn => by
      obtain rfl : f = 8 := Option.some.inj ((show Tryd.prog.funcNamed "seedcorn/seedcornlaw12.AsmLabels" = some 8 by kernel_rfl).symm.trans hf) |>.symm
      obtain rfl : fn = Tryd.f8 := (Option.some.inj (Tryd.func8.symm.trans hfn)).symm
      exact ⟨by kernel_rfl, fun j t ht => by
        have hm : t ∈ Tryd.f8.params.toList := by simpa using Array.mem_of_getElem? ht
        have hall : (Tryd.f8.params.toList.all fun u => !Tryd.prog.wantsStandIn u) = true := by kernel_rfl
        exact (show Tryd.prog.wantsStandIn t = false by simpa using List.all_eq_true.1 hall t hm)⟩)
    (by kernel_rfl)

#print axioms asmLabels_holds

end Go.Proofs.YtifciocionlciaaDoor

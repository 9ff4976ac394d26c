/- The law ToolAsms holds of every input; the listed variables are tied to the program's text. -/
import Derived.Test.YthclfagbojkbjabGreatDoorPart7
set_option linter.unusedSimpArgs false
set_option linter.unusedVariables false
namespace Go.Proofs.YthclfagbojkbjabGreatDoor
open Go Go.Am Go.ChangeShapes Go.WideShapes Go.ChangeAt Go.RowKit

set_option maxRecDepth 100000 in
theorem toolAsms_lifted (os : Os) (started : os.Started) (H : Type) (enc : TypeId × Value → H) :
    ReturnsInHanded {} Tryz.checked os 3 .any (fun w args => (Rows.toolAsmsSpec.pre enc Tryz.prog Tryz.f3 Rows.toolAsmsRow.domain false w args ∧ laidMetH Tryz.prog laidV w) ∧ sizedMet enc Tryz.prog Tryz.f3 (OpenSpec.ofChange Rows.toolAsmsSpec) false w args) (Rows.toolAsmsSpec.post enc Tryz.prog Tryz.f3 false true false false) := by
  refine returns_of_law_laidX (C := Tryz.checked) own started (by kernel_rfl) Tryz.func3
    (ChangeSpec.witness_shaped (enc := enc) (C := Tryz.checked) (os := os) (X := fun w _ => laidMetH Tryz.prog laidV w) false (World.laidAll Tryz.prog os laidV) #[.string .empty] 8 (World.laidAll_os _ _ _)
      (World.shaped_of_ZipB (by kernel_rfl) (by kernel_rfl)) (by kernel_rfl) (by kernel_rfl) (by kernel_rfl)
      (by rw [MakeChecks.laidMetH_plain _ _ _ (by kernel_rfl)]; exact laidMet_laidAll _ (by kernel_rfl) (by kernel_rfl)))
    rfl laidOut (by kernel_rfl) rfl u4 (fun ds h => by match ds, h with | [d0], _ => rfl) ?_
  intro W base args ds ps hX hval hA hz
  obtain ⟨o, hG, ho⟩ := small_held hX
  obtain ⟨v0, d0, rfl, rfl, ⟨fuel0, g0⟩⟩ := trodAll_one (t := 9) hA
  have hz : (d0.weights Tryz.prog 9 ++ []).all (· ≤ reachBytes) = true := hz
  rw [List.all_append, Bool.and_eq_true] at hz
  have z0 : (d0.weights Tryz.prog 9).all (· ≤ reachBytes) = true := hz.1
  obtain ⟨a0, rfl⟩ := okWide_string u9 (hval 0 9 v0 rfl rfl)
  obtain ⟨x0, hx0, ht0⟩ := arg_data (n := 3) (by kernel_rfl) rfl g0 z0
  obtain ⟨s0, rfl, b0⟩ := hasT_str ht0
  exact says_of_pureG hG (ToolAsms_G ho s0) (by simp only [RVs, RV]; exact ⟨_, _, rfl, ⟨_, rfl, hx0⟩, rfl⟩)

theorem toolAsms_row : Rows.ToolAsmsSaid :=
  OpenClaim.holds_of_wide 3 Tryz.f3 rfl rfl rfl rfl rfl rfl rfl ⟨rfl, rfl, rfl, rfl, rfl⟩ rfl rfl rfl rfl rfl (by kernel_rfl) Tryz.func3 k_facts
    (of_decide_eq_true (by kernel_rfl)) (by unfold Func.isWrapper; first | (rw [if_pos (by decide +kernel)]; kernel_rfl) | (rw [if_neg (by decide +kernel)]; exact ⟨rfl, rfl⟩))
    (fun os started H enc _ => toolAsms_lifted os started H enc)

theorem toolAsms_holds : Rows.ToolAsmsCardSaid :=
  Claim7.holds_tied_plain_at .later [] [.data, .data, .data, .data, .pinned] true (true, "ce9980b9b03df01b19a23f6d972882ac825a0124820f664184d868d13836e832") true toolAsms_row (fun _ h => by cases h) (by kernel_rfl) (fun _ h => by cases h) toolAsms_row_tie rfl ⟨rfl, rfl⟩ (by kernel_rfl) rfl
    (fun f fn hf hfn => by
      obtain rfl : f = 3 := Option.some.inj ((show Tryz.prog.funcNamed "seedcorn/seedcornlaw39.ToolAsms" = some 3 by kernel_rfl).symm.trans hf) |>.symm
      obtain rfl : fn = Tryz.f3 := (Option.some.inj (Tryz.func3.symm.trans hfn)).symm
      exact ⟨by kernel_rfl, fun j t ht => by
        have hm : t ∈ Tryz.f3.params.toList := by simpa using Array.mem_of_getElem? ht
        have hall : (Tryz.f3.params.toList.all fun u => !Tryz.prog.wantsStandIn u) = true := by kernel_rfl
        exact (show Tryz.prog.wantsStandIn t = false by simpa using List.all_eq_true.1 hall t hm)⟩)
    k_goesBy

#print axioms toolAsms_holds

end Go.Proofs.YthclfagbojkbjabGreatDoor

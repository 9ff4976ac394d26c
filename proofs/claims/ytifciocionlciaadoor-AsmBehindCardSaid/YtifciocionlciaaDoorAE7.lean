/- The law AsmBehind holds of every input; the listed variables are tied to the program's text. -/
import Derived.Test.YtifciocionlciaaDoorPart6
set_option linter.unusedSimpArgs false
set_option linter.unusedVariables false
namespace Go.Proofs.YtifciocionlciaaDoor
open Go Go.Am Go.ChangeShapes Go.WideShapes Go.ChangeAt Go.RowKit

set_option maxRecDepth 100000 in
theorem asmBehind_lifted (os : Os) (started : os.Started) (H : Type) (enc : TypeId × Value → H) :
    ReturnsInHanded {} Tryd.checked os 7 .any (fun w args => (Rows.asmBehindSpec.pre enc Tryd.prog Tryd.f7 Rows.asmBehindRow.domain false w args ∧ laidMetH Tryd.prog laidV w) ∧ sizedMet enc Tryd.prog Tryd.f7 (OpenSpec.ofChange Rows.asmBehindSpec) false w args) (Rows.asmBehindSpec.post enc Tryd.prog Tryd.f7 false true false false) := by
  refine returns_of_law_laidX (C := Tryd.checked) own started (by kernel_rfl) Tryd.func7
    (ChangeSpec.witness_shaped (enc := enc) (C := Tryd.checked) (os := os) (X := fun w _ => laidMetH Tryd.prog laidV w) false (World.laidAll Tryd.prog os laidV) #[.string .empty, .string .empty] 8 (World.laidAll_os _ _ _)
      (World.shaped_of_ZipB (by kernel_rfl) (by kernel_rfl)) (by kernel_rfl) (by kernel_rfl) (by kernel_rfl)
      (by rw [MakeChecks.laidMetH_plain _ _ _ (by kernel_rfl)]; exact laidMet_laidAll _ (by kernel_rfl) (by kernel_rfl)))
    rfl laidOut (by kernel_rfl) rfl u4 (fun ds h => by match ds, h with | [d0, d1], _ => rfl) ?_
  intro W base args ds ps hX hval hA hz
  obtain ⟨o, hG, ho⟩ := small_held hX
  obtain ⟨v0, v1, d0, d1, p0, p1, rfl, rfl, rfl, ⟨fuel0, g0⟩, ⟨fuel1, g1⟩⟩ := trodAll_two (t := 9) (t' := 9) hA
  have hz : (d0.weights Tryd.prog 9 ++ (d1.weights Tryd.prog 9 ++ [])).all (· ≤ reachBytes) = true := hz
  rw [List.all_append, List.all_append, Bool.and_eq_true, Bool.and_eq_true] at hz
  have z0 : (d0.weights Tryd.prog 9).all (· ≤ reachBytes) = true := hz.1
  have z1 : (d1.weights Tryd.prog 9).all (· ≤ reachBytes) = true := hz.2.1
  obtain ⟨a0, rfl⟩ := okWide_string u9 (hval 0 9 v0 rfl rfl)
  obtain ⟨x0, hx0, ht0⟩ := arg_data (n := 3) (by kernel_rfl) rfl g0 z0
  obtain ⟨s0, rfl, b0⟩ := hasT_str ht0
  obtain ⟨a1, rfl⟩ := okWide_string u9 (hval 1 9 v1 rfl rfl)
  obtain ⟨x1, hx1, ht1⟩ := arg_data (n := 3) (by kernel_rfl) rfl g1 z1
  obtain ⟨s1, rfl, b1⟩ := hasT_str ht1
  exact says_of_pureG hG (AsmBehind_G ho s0 s1 ) (by simp only [RVs, RV]; exact ⟨_, _, rfl, ⟨_, rfl, hx0⟩, ⟨_, _, rfl, ⟨_, rfl, hx1⟩, rfl⟩⟩)

theorem asmBehind_row : Rows.AsmBehindSaid :=
  OpenClaim.holds_of_wide 7 Tryd.f7 rfl rfl rfl rfl rfl rfl rfl ⟨rfl, rfl, rfl, rfl, rfl⟩ rfl rfl rfl rfl rfl (by kernel_rfl) Tryd.func7 (by kernel_rfl)
    (of_decide_eq_true (by kernel_rfl)) (by unfold Func.isWrapper; first | (rw [if_pos (by decide +kernel)]; kernel_rfl) | (rw [if_neg (by decide +kernel)]; exact ⟨rfl, rfl⟩))
    (fun os started H enc _ => asmBehind_lifted os started H enc)

theorem asmBehind_holds : Rows.AsmBehindCardSaid :=
  Claim7.holds_tied_plain_at .later [] [.data, .data, .pinned] true (true, "5db5528ca732187e98990547439a31bb3e2f0da3f6e1bdc039f6e3eb5e953aba") false asmBehind_row (fun _ h => by cases h) (by kernel_rfl) (fun _ h => by cases h) asmBehind_row_tie rfl ⟨rfl, rfl⟩ (by kernel_rfl) rfl
    (fun f fn hf hfn => by
      obtain rfl : f = 7 := Option.some.inj ((show Tryd.prog.funcNamed "seedcorn/seedcornlaw12.AsmBehind" = some 7 by kernel_rfl).symm.trans hf) |>.symm
      obtain rfl : fn = Tryd.f7 := (Option.some.inj (Tryd.func7.symm.trans hfn)).symm
      exact ⟨by kernel_rfl, fun j t ht => by
        have hm : t ∈ Tryd.f7.params.toList := by simpa using Array.mem_of_getElem? ht
        have hall : (Tryd.f7.params.toList.all fun u => !Tryd.prog.wantsStandIn u) = true := by kernel_rfl
        exact (show Tryd.prog.wantsStandIn t = false by simpa using List.all_eq_true.1 hall t hm)⟩)
    (by kernel_rfl)

#print axioms asmBehind_holds

end Go.Proofs.YtifciocionlciaaDoor

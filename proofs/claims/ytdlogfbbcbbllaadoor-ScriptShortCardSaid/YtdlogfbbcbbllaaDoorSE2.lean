/- The law ScriptShort holds of every input; the listed variables are tied to the program's text. -/
import Derived.Test.YtdlogfbbcbbllaaDoorPart5
set_option linter.unusedSimpArgs false
set_option linter.unusedVariables false
namespace Go.Proofs.YtdlogfbbcbbllaaDoor
open Go Go.Am Go.ChangeShapes Go.WideShapes Go.ChangeAt Go.RowKit

set_option maxRecDepth 100000 in
theorem scriptShort_lifted (os : Os) (started : os.Started) (H : Type) (enc : TypeId × Value → H) :
    ReturnsInHanded {} Tryd.checked os 12 .any (fun w args => (Rows.scriptShortSpec.pre enc Tryd.prog Tryd.f12 Rows.scriptShortRow.domain false w args ∧ laidMetH Tryd.prog laidV w) ∧ sizedMet enc Tryd.prog Tryd.f12 (OpenSpec.ofChange Rows.scriptShortSpec) false w args) (Rows.scriptShortSpec.post enc Tryd.prog Tryd.f12 false true false false) := by
  refine returns_of_law_laid (C := Tryd.checked) own started (by kernel_rfl) Tryd.func12
    (ChangeSpec.witness_shaped (enc := enc) (C := Tryd.checked) (os := os) (X := fun w _ => laidMetH Tryd.prog laidV w) false (World.laidAll Tryd.prog os laidV) #[.string .empty] 8 (World.laidAll_os _ _ _)
      (World.shaped_of_ZipB (by kernel_rfl) (by kernel_rfl)) (by kernel_rfl) (by kernel_rfl) (by kernel_rfl)
      (by rw [MakeChecks.laidMetH_plain _ _ _ (by kernel_rfl)]; exact laidMet_laidAll _ (by kernel_rfl) (by kernel_rfl)))
    rfl laidOut (by kernel_rfl) rfl u4 (fun ds h => by match ds, h with | [d0], _ => rfl) ?_
  intro W base args ds ps hval hA hz
  obtain ⟨v0, d0, rfl, rfl, ⟨fuel0, g0⟩⟩ := trodAll_one (t := 9) hA
  have hz : (d0.weights Tryd.prog 9 ++ []).all (· ≤ reachBytes) = true := hz
  rw [List.all_append, Bool.and_eq_true] at hz
  have z0 : (d0.weights Tryd.prog 9).all (· ≤ reachBytes) = true := hz.1
  obtain ⟨a0, rfl⟩ := okWide_string u9 (hval 0 9 v0 rfl rfl)
  obtain ⟨x0, hx0, ht0⟩ := arg_data (n := 3) (by kernel_rfl) rfl g0 z0
  obtain ⟨s0, rfl, b0⟩ := hasT_str ht0
  exact says_of_pure (ScriptShort_A s0 (by omega)) (by simp only [RVs, RV]; exact ⟨_, _, rfl, ⟨_, rfl, hx0⟩, rfl⟩)

theorem scriptShort_row : Rows.ScriptShortSaid :=
  OpenClaim.holds_of_wide 12 Tryd.f12 rfl rfl rfl rfl rfl rfl rfl ⟨rfl, rfl, rfl, rfl, rfl⟩ rfl rfl rfl rfl rfl (by kernel_rfl) Tryd.func12 (by kernel_rfl)
    (of_decide_eq_true (by kernel_rfl)) (by unfold Func.isWrapper; first | (rw [if_pos (by decide +kernel)]; kernel_rfl) | (rw [if_neg (by decide +kernel)]; exact ⟨rfl, rfl⟩))
    (fun os started H enc _ => scriptShort_lifted os started H enc)

theorem scriptShort_holds : Rows.ScriptShortCardSaid :=
  Claim7.holds_tied_plain_at .later [] [.data, .pinned] true (true, "1bbfa543764bfd695cb13f14f5f16227954af9ab5c6dc3ea00124beeaf836d22") false scriptShort_row (fun _ h => by cases h) (by kernel_rfl) (fun _ h => by cases h) scriptShort_row_tie rfl ⟨rfl, rfl⟩ (by kernel_rfl) rfl
    (fun f fn hf hfn => by
      obtain rfl : f = 12 := Option.some.inj ((show Tryd.prog.funcNamed "seedcorn/seedcornlaw53.ScriptShort" = some 12 by kernel_rfl).symm.trans hf) |>.symm
      obtain rfl : fn = Tryd.f12 := (Option.some.inj (Tryd.func12.symm.trans hfn)).symm
      exact ⟨by kernel_rfl, fun j t ht => by
        have hm : t ∈ Tryd.f12.params.toList := by simpa using Array.mem_of_getElem? ht
        have hall : (Tryd.f12.params.toList.all fun u => !Tryd.prog.wantsStandIn u) = true := by kernel_rfl
        exact (show Tryd.prog.wantsStandIn t = false by simpa using List.all_eq_true.1 hall t hm)⟩)
    (by kernel_rfl)

#print axioms scriptShort_holds

end Go.Proofs.YtdlogfbbcbbllaaDoor

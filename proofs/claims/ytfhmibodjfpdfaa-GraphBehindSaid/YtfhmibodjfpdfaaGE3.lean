/- The law GraphBehind holds of every input. -/
import Derived.Test.YtfhmibodjfpdfaaG13
import Derived.Test.YtfhmibodjfpdfaaG16
set_option linter.unusedSimpArgs false
set_option linter.unusedVariables false
namespace Go.Proofs.Ytfhmibodjfpdfaa
open Go Go.Am Go.ChangeShapes Go.WideShapes Go.ChangeAt Go.RowKit

set_option maxRecDepth 100000 in
theorem graphBehind_lifted (os : Os) (started : os.Started) (H : Type) (enc : TypeId × Value → H) :
    ReturnsInHanded {} Try.checked os 8 .any (Rows.graphBehindSpec.pre6 enc Try.prog Try.f8 Rows.graphBehindRow.domain false) (Rows.graphBehindSpec.post enc Try.prog Try.f8 false true false false) := by
  refine returns_of_law (C := Try.checked) Try.own started (by kernel_rfl) Try.func8
    (ChangeSpec.witness6 (enc := enc) (C := Try.checked) false ⟨#[], #[.slice none 0 0, .int .i64 0], []⟩ 8 (by kernel_rfl) (by kernel_rfl) (by kernel_rfl) (by kernel_rfl))
    rfl Try.laidOut (by kernel_rfl) rfl Try.underlying4 (fun ds h => by match ds, h with | [d, d'], _ => rfl) ?_
  intro W base args ds ps hval hA hz
  obtain ⟨v0, v1, d0, d1, p0, p1, rfl, rfl, rfl, ⟨fuel, h0⟩, ⟨fuel', h1⟩⟩ := trodAll_two (t := 24) (t' := 3) hA
  obtain ⟨a, len, cap, rfl⟩ := okWide_slice Try.underlying24 (hval 0 24 v0 rfl rfl)
  obtain ⟨n, rfl⟩ := okWide_int Try.underlying3 (hval 1 3 v1 rfl rfl)
  have hz : (d0.weights Try.prog 24).all (· ≤ reachBytes) = true ∧ (d1.weights Try.prog 3).all (· ≤ reachBytes) = true := by
    have hz : (d0.weights Try.prog 24 ++ (d1.weights Try.prog 3 ++ [])).all (· ≤ reachBytes) = true := hz
    rw [List.all_append, List.all_append, Bool.and_eq_true, Bool.and_eq_true] at hz
    exact ⟨hz.1, hz.2.1⟩
  obtain ⟨x, hx, ht⟩ := arg_data (n := 3) (by kernel_rfl) rfl h0 hz.1
  obtain ⟨y, hy, hty⟩ := arg_data (n := 1) (by kernel_rfl) rfl h1 hz.2
  obtain ⟨xs, rfl, h1, h2⟩ := hasT_intss ht
  obtain rfl : y = .int .i64 n := by cases hy; rfl
  exact says_of_pure (GraphBehind_A xs h1 h2 n) (by simp only [RVs, RV]; exact ⟨_, _, rfl, ⟨_, rfl, hx⟩, _, _, rfl, ⟨_, rfl, hy⟩, rfl⟩)

theorem graphBehind_holds : Rows.GraphBehindSaid :=
  OpenClaim.holds_of_wide 8 Try.f8 rfl rfl rfl rfl rfl rfl rfl ⟨rfl, rfl, rfl, rfl, rfl⟩ rfl rfl rfl rfl rfl (by kernel_rfl) Try.func8 (by kernel_rfl)
    (of_decide_eq_true (by kernel_rfl)) (by unfold Func.isWrapper; first | (rw [if_pos (by decide +kernel)]; kernel_rfl) | (rw [if_neg (by decide +kernel)]; exact ⟨rfl, rfl⟩))
    (fun os started H enc _ => graphBehind_lifted os started H enc)

end Go.Proofs.Ytfhmibodjfpdfaa

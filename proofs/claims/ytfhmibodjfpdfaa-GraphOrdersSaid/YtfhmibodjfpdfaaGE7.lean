/- The law GraphOrders holds of every input. -/
import Derived.Test.YtfhmibodjfpdfaaG13
import Derived.Test.YtfhmibodjfpdfaaG22
set_option linter.unusedSimpArgs false
set_option linter.unusedVariables false
namespace Go.Proofs.Ytfhmibodjfpdfaa
open Go Go.Am Go.ChangeShapes Go.WideShapes Go.ChangeAt Go.RowKit

set_option maxRecDepth 100000 in
theorem graphOrders_lifted (os : Os) (started : os.Started) (H : Type) (enc : TypeId × Value → H) :
    ReturnsInHanded {} Try.checked os 6 .any (Rows.graphOrdersSpec.pre6 enc Try.prog Try.f6 Rows.graphOrdersRow.domain false) (Rows.graphOrdersSpec.post enc Try.prog Try.f6 false true false false) := by
  refine returns_of_law (C := Try.checked) Try.own started (by kernel_rfl) Try.func6
    (ChangeSpec.witness6 (enc := enc) (C := Try.checked) false ⟨#[], #[.slice none 0 0], []⟩ 8 (by kernel_rfl) (by kernel_rfl) (by kernel_rfl) (by kernel_rfl))
    rfl Try.laidOut (by kernel_rfl) rfl Try.underlying4 (fun ds h => by match ds, h with | [d], _ => rfl) ?_
  intro W base args ds ps hval hA hz
  obtain ⟨v0, d0, rfl, rfl, fuel, h0⟩ := trodAll_one (t := 24) hA
  obtain ⟨a, len, cap, rfl⟩ := okWide_slice Try.underlying24 (hval 0 24 v0 rfl rfl)
  obtain ⟨x, hx, ht⟩ := arg_data (n := 3) (by kernel_rfl) rfl h0 (by simpa [DataW.weightsEach] using hz)
  obtain ⟨xs, rfl, h1, h2⟩ := hasT_intss ht
  exact says_of_pure (GraphOrders_A xs h1 h2) (by simp only [RVs, RV]; exact ⟨_, _, rfl, ⟨_, rfl, hx⟩, rfl⟩)

theorem graphOrders_holds : Rows.GraphOrdersSaid :=
  OpenClaim.holds_of_wide 6 Try.f6 rfl rfl rfl rfl rfl rfl rfl ⟨rfl, rfl, rfl, rfl, rfl⟩ rfl rfl rfl rfl rfl (by kernel_rfl) Try.func6 (by kernel_rfl)
    (of_decide_eq_true (by kernel_rfl)) (by unfold Func.isWrapper; first | (rw [if_pos (by decide +kernel)]; kernel_rfl) | (rw [if_neg (by decide +kernel)]; exact ⟨rfl, rfl⟩))
    (fun os started H enc _ => graphOrders_lifted os started H enc)

end Go.Proofs.Ytfhmibodjfpdfaa

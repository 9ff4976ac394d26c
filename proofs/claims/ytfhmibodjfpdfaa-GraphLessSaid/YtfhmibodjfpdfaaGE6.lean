/- The law GraphLess holds of every input. -/
import Derived.Test.YtfhmibodjfpdfaaG13
import Derived.Test.YtfhmibodjfpdfaaG20
import Derived.Test.YtfhmibodjfpdfaaGE5
set_option linter.unusedSimpArgs false
set_option linter.unusedVariables false
namespace Go.Proofs.Ytfhmibodjfpdfaa
open Go Go.Am Go.ChangeShapes Go.WideShapes Go.ChangeAt Go.RowKit

set_option maxRecDepth 100000 in
theorem graphLess_lifted (os : Os) (started : os.Started) (H : Type) (enc : TypeId × Value → H) :
    ReturnsInHanded {} Try.checked os 4 .any (Rows.graphLessSpec.pre6 enc Try.prog Try.f4 Rows.graphLessRow.domain false) (Rows.graphLessSpec.post enc Try.prog Try.f4 false true false false) := by
  refine returns_of_law (C := Try.checked) Try.own started (by kernel_rfl) Try.func4
    (ChangeSpec.witness6 (enc := enc) (C := Try.checked) false ⟨#[], #[.slice none 0 0, .int .u8 0, .int .u8 0], []⟩ 8 (by kernel_rfl) (by kernel_rfl) (by kernel_rfl) (by kernel_rfl))
    rfl Try.laidOut (by kernel_rfl) rfl Try.underlying4 (fun ds h => by match ds, h with | [d, d', d''], _ => rfl) ?_
  intro W base args ds ps hval hA hz
  obtain ⟨v0, v1, v2, d0, d1, d2, p0, p1, p2, rfl, rfl, rfl, ⟨fuel, g0⟩, ⟨fuel', g1⟩, ⟨fuel'', g2⟩⟩ := trodAll_three (t := 24) (t' := 5) (t'' := 5) hA
  obtain ⟨a, len, cap, rfl⟩ := okWide_slice Try.underlying24 (hval 0 24 v0 rfl rfl)
  obtain ⟨n, rfl⟩ := okWide_int Try.underlying5 (hval 1 5 v1 rfl rfl)
  obtain ⟨n2, rfl⟩ := okWide_int Try.underlying5 (hval 2 5 v2 rfl rfl)
  have hz : (d0.weights Try.prog 24).all (· ≤ reachBytes) = true ∧ (d1.weights Try.prog 5).all (· ≤ reachBytes) = true ∧ (d2.weights Try.prog 5).all (· ≤ reachBytes) = true := by
    have hz : (d0.weights Try.prog 24 ++ (d1.weights Try.prog 5 ++ (d2.weights Try.prog 5 ++ []))).all (· ≤ reachBytes) = true := hz
    rw [List.all_append, List.all_append, List.all_append, Bool.and_eq_true, Bool.and_eq_true, Bool.and_eq_true] at hz
    exact ⟨hz.1, hz.2.1, hz.2.2.1⟩
  obtain ⟨x, hx, ht⟩ := arg_data (n := 3) (by kernel_rfl) rfl g0 hz.1
  obtain ⟨y, hy, hty⟩ := arg_data (n := 1) (by kernel_rfl) rfl g1 hz.2.1
  obtain ⟨z, hzz, htz⟩ := arg_data (n := 1) (by kernel_rfl) rfl g2 hz.2.2
  obtain ⟨xs, rfl, h1, h2⟩ := hasT_intss ht
  obtain rfl : y = .int .u8 n := by cases hy; rfl
  obtain rfl : z = .int .u8 n2 := by cases hzz; rfl
  have hty : HasT Try.prog 1 5 [.int .u8 n] := hty
  have htz : HasT Try.prog 1 5 [.int .u8 n2] := htz
  unfold HasT at hty htz
  rw [Try.underlying5] at hty htz
  obtain ⟨m, hm, hw⟩ := hty
  simp only [List.cons.injEq, and_true, D.int.injEq, true_and] at hm
  subst hm
  obtain ⟨m, hm, hw2⟩ := htz
  simp only [List.cons.injEq, and_true, D.int.injEq, true_and] at hm
  subst hm
  obtain ⟨k, rfl, hk⟩ := u8_of hw
  obtain ⟨k2, rfl, hk2⟩ := u8_of hw2
  exact says_of_pure (GraphLess_A xs h1 h2 k k2 hk hk2) (by simp only [RVs, RV]; exact ⟨_, _, rfl, ⟨_, rfl, hx⟩, _, _, rfl, ⟨_, rfl, hy⟩, _, _, rfl, ⟨_, rfl, hzz⟩, rfl⟩)

theorem graphLess_holds : Rows.GraphLessSaid :=
  OpenClaim.holds_of_wide 4 Try.f4 rfl rfl rfl rfl rfl rfl rfl ⟨rfl, rfl, rfl, rfl, rfl⟩ rfl rfl rfl rfl rfl (by kernel_rfl) Try.func4 (by kernel_rfl)
    (of_decide_eq_true (by kernel_rfl)) (by unfold Func.isWrapper; first | (rw [if_pos (by decide +kernel)]; kernel_rfl) | (rw [if_neg (by decide +kernel)]; exact ⟨rfl, rfl⟩))
    (fun os started H enc _ => graphLess_lifted os started H enc)

end Go.Proofs.Ytfhmibodjfpdfaa

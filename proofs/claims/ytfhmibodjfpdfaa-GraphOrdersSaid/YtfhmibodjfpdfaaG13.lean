/- From the readings of arguments to lists. -/
import Derived.Test.YtfhmibodjfpdfaaG12
import Derived.Test.YtfhmibodjfpdfaaAm11
import Derived.Test.YtfhmibodjfpdfaaRows
set_option linter.unusedSimpArgs false
set_option linter.unusedVariables false
namespace Go.Proofs.Ytfhmibodjfpdfaa
open Go Go.Am Go.ChangeShapes Go.WideShapes Go.ChangeAt Go.RowKit

theorem Try.own : ownKnob Try.prog.godebug = none := by kernel_rfl
theorem Try.laidOut : laidOutB Try.prog = true := by kernel_rfl

theorem hasT_ints {n : Nat} {x : D} (h : HasT Try.prog (n + 2) 25 [x]) : ∃ r : List Int, x = ints r ∧ r.length ≤ 140737488355328 := by
  unfold HasT at h
  rw [Try.underlying25] at h
  obtain ⟨es, h1, h2, h3⟩ := h
  simp only [List.cons.injEq, and_true] at h1
  subst h1
  obtain ⟨r, hr, hx⟩ := exists_list (p := fun i (m : Int) => es[i]? = some [.int .i64 m]) es.length (fun i hi => by
    have := h3 es[i] (List.getElem_mem hi)
    unfold HasT at this
    rw [Try.underlying3] at this
    obtain ⟨m, hm, _⟩ := this
    exact ⟨m, by rw [List.getElem?_eq_getElem hi, hm]⟩)
  have hby : Try.prog.bytesOf 3 = 8 := by kernel_rfl
  have hre : reachBytes = 140737488351232 := by kernel_rfl
  rw [hby, hre] at h2
  refine ⟨r, ?_, by omega⟩
  unfold ints
  congr 1
  apply List.ext_getElem?
  intro i
  rw [List.getElem?_map]
  cases hq : r[i]? with
  | none =>
    have : es.length ≤ i := by rw [← hr]; simpa using hq
    simpa using this
  | some m => rw [hx i m hq]; rfl

theorem hasT_intss {n : Nat} {x : D} (h : HasT Try.prog (n + 3) 24 [x]) : ∃ xs : List (List Int), x = intss xs ∧ xs.length ≤ 140737488355328 ∧ ∀ r ∈ xs, r.length ≤ 140737488355328 := by
  unfold HasT at h
  rw [Try.underlying24] at h
  obtain ⟨es, h1, h2, h3⟩ := h
  simp only [List.cons.injEq, and_true] at h1
  subst h1
  obtain ⟨r, hr, hx⟩ := exists_list (p := fun i (m : List Int) => es[i]? = some [ints m] ∧ m.length ≤ 140737488355328) es.length (fun i hi => by
    have := h3 es[i] (List.getElem_mem hi)
    have h4 := this
    unfold HasT at this
    rw [Try.underlying25] at this
    obtain ⟨m, hm, _⟩ := this
    rw [hm] at h4
    obtain ⟨r, hr, hl⟩ := hasT_ints h4
    exact ⟨r, by rw [List.getElem?_eq_getElem hi, hm, hr], hl⟩)
  have hby : Try.prog.bytesOf 25 = 24 := by kernel_rfl
  have hre : reachBytes = 140737488351232 := by kernel_rfl
  rw [hby, hre] at h2
  refine ⟨r, ?_, by omega, fun m hm => ?_⟩
  · unfold intss
    congr 1
    apply List.ext_getElem?
    intro i
    rw [List.getElem?_map]
    cases hq : r[i]? with
    | none =>
      have : es.length ≤ i := by rw [← hr]; simpa using hq
      simpa using this
    | some m => rw [(hx i m hq).1]; rfl
  · obtain ⟨i, hi⟩ := List.getElem?_of_mem hm
    exact (hx i m hi).2

end Go.Proofs.Ytfhmibodjfpdfaa

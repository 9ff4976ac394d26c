/- The law GraphTurned holds of every input. -/
import Derived.Test.YtfhmibodjfpdfaaG13
import Derived.Test.YtfhmibodjfpdfaaG18
set_option linter.unusedSimpArgs false
set_option linter.unusedVariables false
namespace Go.Proofs.Ytfhmibodjfpdfaa
open Go Go.Am Go.ChangeShapes Go.WideShapes Go.ChangeAt Go.RowKit

theorem u8_of {n : Int} (hw : (Lit.int .u8 n).wf = true) : ∃ k : Nat, n = (k : Int) ∧ k < 256 := by
  have : IntKind.u8.min ≤ n ∧ n ≤ IntKind.u8.max := by simpa [Lit.wf] using hw
  have e1 : IntKind.u8.min = 0 := by decide
  have e2 : IntKind.u8.max = 255 := by decide
  exact ⟨n.toNat, by omega, by omega⟩

theorem hasT_bytes {n : Nat} {x : D} (h : HasT Try.prog (n + 2) 26 [x]) : ∃ r : List Nat, x = bytesD r ∧ r.length ≤ 140737488355328 ∧ ∀ b ∈ r, b < 256 := by
  unfold HasT at h
  rw [Try.underlying26] at h
  obtain ⟨es, h1, h2, h3⟩ := h
  simp only [List.cons.injEq, and_true] at h1
  subst h1
  obtain ⟨r, hr, hx⟩ := exists_list (p := fun i (m : Nat) => es[i]? = some [.int .u8 m] ∧ m < 256) es.length (fun i hi => by
    have := h3 es[i] (List.getElem_mem hi)
    unfold HasT at this
    rw [Try.underlying5] at this
    obtain ⟨m, hm, hw⟩ := this
    obtain ⟨k, rfl, hk⟩ := u8_of hw
    exact ⟨k, by rw [List.getElem?_eq_getElem hi, hm], hk⟩)
  have hby : Try.prog.bytesOf 5 = 1 := by kernel_rfl
  have hre : reachBytes = 140737488351232 := by kernel_rfl
  rw [hby, hre] at h2
  refine ⟨r, ?_, by omega, fun b hb => ?_⟩
  · unfold bytesD
    congr 1
    apply List.ext_getElem?
    intro i
    rw [List.getElem?_map]
    cases hq : r[i]? with
    | none =>
      have : es.length ≤ i := by rw [← hr]; simpa using hq
      simpa using this
    | some m => rw [(hx i m hq).1]; rfl
  · obtain ⟨i, hi⟩ := List.getElem?_of_mem hb
    exact (hx i b hi).2

theorem hasT_bytess {n : Nat} {x : D} (h : HasT Try.prog (n + 3) 22 [x]) : ∃ xs : List (List Nat), x = bytess xs ∧ xs.length ≤ 140737488355328 ∧ (∀ r ∈ xs, r.length ≤ 140737488355328) ∧ ∀ r ∈ xs, ∀ b ∈ r, b < 256 := by
  unfold HasT at h
  rw [Try.underlying22] at h
  obtain ⟨es, h1, h2, h3⟩ := h
  simp only [List.cons.injEq, and_true] at h1
  subst h1
  obtain ⟨r, hr, hx⟩ := exists_list (p := fun i (m : List Nat) => es[i]? = some [bytesD m] ∧ m.length ≤ 140737488355328 ∧ ∀ b ∈ m, b < 256) es.length (fun i hi => by
    have := h3 es[i] (List.getElem_mem hi)
    have h4 := this
    unfold HasT at this
    rw [Try.underlying26] at this
    obtain ⟨m, hm, _⟩ := this
    rw [hm] at h4
    obtain ⟨r, hr, hl⟩ := hasT_bytes h4
    exact ⟨r, by rw [List.getElem?_eq_getElem hi, hm, hr], hl⟩)
  have hby : Try.prog.bytesOf 26 = 24 := by kernel_rfl
  have hre : reachBytes = 140737488351232 := by kernel_rfl
  rw [hby, hre] at h2
  refine ⟨r, ?_, by omega, fun m hm => ?_, fun m hm => ?_⟩
  · unfold bytess
    congr 1
    apply List.ext_getElem?
    intro i
    rw [List.getElem?_map]
    cases hq : r[i]? with
    | none =>
      have : es.length ≤ i := by rw [← hr]; simpa using hq
      simpa using this
    | some m => rw [(hx i m hq).1]; rfl
  · obtain ⟨i, hi⟩ := List.getElem?_of_mem hm
    exact (hx i m hi).2.1
  · obtain ⟨i, hi⟩ := List.getElem?_of_mem hm
    exact (hx i m hi).2.2

set_option maxRecDepth 100000 in
theorem graphTurned_lifted (os : Os) (started : os.Started) (H : Type) (enc : TypeId × Value → H) :
    ReturnsInHanded {} Try.checked os 3 .any (Rows.graphTurnedSpec.pre6 enc Try.prog Try.f3 Rows.graphTurnedRow.domain false) (Rows.graphTurnedSpec.post enc Try.prog Try.f3 false true false false) := by
  refine returns_of_law (C := Try.checked) Try.own started (by kernel_rfl) Try.func3
    (ChangeSpec.witness6 (enc := enc) (C := Try.checked) false ⟨#[], #[.slice none 0 0, .int .u8 0], []⟩ 8 (by kernel_rfl) (by kernel_rfl) (by kernel_rfl) (by kernel_rfl))
    rfl Try.laidOut (by kernel_rfl) rfl Try.underlying4 (fun ds h => by match ds, h with | [d, d'], _ => rfl) ?_
  intro W base args ds ps hval hA hz
  obtain ⟨v0, v1, d0, d1, p0, p1, rfl, rfl, rfl, ⟨fuel, g0⟩, ⟨fuel', g1⟩⟩ := trodAll_two (t := 22) (t' := 5) hA
  obtain ⟨a, len, cap, rfl⟩ := okWide_slice Try.underlying22 (hval 0 22 v0 rfl rfl)
  obtain ⟨n, rfl⟩ := okWide_int Try.underlying5 (hval 1 5 v1 rfl rfl)
  have hz : (d0.weights Try.prog 22).all (· ≤ reachBytes) = true ∧ (d1.weights Try.prog 5).all (· ≤ reachBytes) = true := by
    have hz : (d0.weights Try.prog 22 ++ (d1.weights Try.prog 5 ++ [])).all (· ≤ reachBytes) = true := hz
    rw [List.all_append, List.all_append, Bool.and_eq_true, Bool.and_eq_true] at hz
    exact ⟨hz.1, hz.2.1⟩
  obtain ⟨x, hx, ht⟩ := arg_data (n := 3) (by kernel_rfl) rfl g0 hz.1
  obtain ⟨y, hy, hty⟩ := arg_data (n := 1) (by kernel_rfl) rfl g1 hz.2
  obtain ⟨xs, rfl, h1, h2, h3⟩ := hasT_bytess ht
  obtain rfl : y = .int .u8 n := by cases hy; rfl
  have hty : HasT Try.prog 1 5 [.int .u8 n] := hty
  unfold HasT at hty
  rw [Try.underlying5] at hty
  obtain ⟨m, hm, hw⟩ := hty
  simp only [List.cons.injEq, and_true, D.int.injEq, true_and] at hm
  subst hm
  obtain ⟨k, rfl, hk⟩ := u8_of hw
  exact says_of_pure (GraphTurned_A xs h1 h2 h3 k hk) (by simp only [RVs, RV]; exact ⟨_, _, rfl, ⟨_, rfl, hx⟩, _, _, rfl, ⟨_, rfl, hy⟩, rfl⟩)

theorem graphTurned_holds : Rows.GraphTurnedSaid :=
  OpenClaim.holds_of_wide 3 Try.f3 rfl rfl rfl rfl rfl rfl rfl ⟨rfl, rfl, rfl, rfl, rfl⟩ rfl rfl rfl rfl rfl (by kernel_rfl) Try.func3 (by kernel_rfl)
    (of_decide_eq_true (by kernel_rfl)) (by unfold Func.isWrapper; first | (rw [if_pos (by decide +kernel)]; kernel_rfl) | (rw [if_neg (by decide +kernel)]; exact ⟨rfl, rfl⟩))
    (fun os started H enc _ => graphTurned_lifted os started H enc)

end Go.Proofs.Ytfhmibodjfpdfaa

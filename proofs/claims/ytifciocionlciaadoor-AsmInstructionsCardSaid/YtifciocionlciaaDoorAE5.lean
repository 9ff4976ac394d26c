/- The law AsmInstructions holds of every input; the listed variables are tied to the program's text. -/
import Derived.Test.YtifciocionlciaaDoorPart6
set_option linter.unusedSimpArgs false
set_option linter.unusedVariables false
namespace Go.Proofs.YtifciocionlciaaDoor
open Go Go.Am Go.ChangeShapes Go.WideShapes Go.ChangeAt Go.RowKit

theorem u37 : Tryd.prog.underlying 37 = some (.struct #[⟨"Op", 3, 0, false, "", "", 0⟩, ⟨"A", 3, 1, false, "", "", 8⟩, ⟨"B", 3, 2, false, "", "", 16⟩, ⟨"C", 3, 3, false, "", "", 24⟩]) := by kernel_rfl
theorem u3 : Tryd.prog.underlying 3 = some (.int .i64) := by kernel_rfl
theorem ins_closed : closedT Tryd.prog [37, 3] = true := by kernel_rfl
theorem hasS_i64 {ds : List D} (h : HasS Tryd.prog 3 ds) : ∃ m, ds = [.int .i64 m] := by
  cases h with
  | bool hu => rw [u3] at hu; cases hu
  | int hu m hw => rw [u3] at hu; cases hu; exact ⟨m, rfl⟩
  | str hu => rw [u3] at hu; cases hu
  | sl hu => rw [u3] at hu; cases hu
  | struct hu => rw [u3] at hu; cases hu
theorem hasS_ins {ds : List D} (h : HasS Tryd.prog 37 ds) : ∃ op a b c, ds = [.int .i64 op, .int .i64 a, .int .i64 b, .int .i64 c] := by
  cases h with
  | bool hu => rw [u37] at hu; cases hu
  | int hu => rw [u37] at hu; cases hu
  | str hu => rw [u37] at hu; cases hu
  | sl hu => rw [u37] at hu; cases hu
  | struct hu parts hl h =>
    rw [u37] at hu
    cases hu
    match parts, hl with
    | [p0, p1, p2, p3], _ =>
      obtain ⟨m0, rfl⟩ := hasS_i64 (h 0 _ _ rfl rfl)
      obtain ⟨m1, rfl⟩ := hasS_i64 (h 1 _ _ rfl rfl)
      obtain ⟨m2, rfl⟩ := hasS_i64 (h 2 _ _ rfl rfl)
      obtain ⟨m3, rfl⟩ := hasS_i64 (h 3 _ _ rfl rfl)
      exact ⟨m0, m1, m2, m3, rfl⟩

set_option maxRecDepth 100000 in
theorem asmInstructions_lifted (os : Os) (started : os.Started) (H : Type) (enc : TypeId × Value → H) :
    ReturnsInHanded {} Tryd.checked os 5 .any (fun w args => (Rows.asmInstructionsSpec.pre enc Tryd.prog Tryd.f5 Rows.asmInstructionsRow.domain false w args ∧ laidMetH Tryd.prog laidV w) ∧ sizedMet enc Tryd.prog Tryd.f5 (OpenSpec.ofChange Rows.asmInstructionsSpec) false w args) (Rows.asmInstructionsSpec.post enc Tryd.prog Tryd.f5 false true false false) := by
  refine returns_of_law_laidX (C := Tryd.checked) own started (by kernel_rfl) Tryd.func5
    (ChangeSpec.witness_shaped (enc := enc) (C := Tryd.checked) (os := os) (X := fun w _ => laidMetH Tryd.prog laidV w) false (World.laidAll Tryd.prog os laidV) #[.agg #[.int .i64 0, .int .i64 0, .int .i64 0, .int .i64 0]] 8 (World.laidAll_os _ _ _)
      (World.shaped_of_ZipB (by kernel_rfl) (by kernel_rfl)) (by kernel_rfl) (by kernel_rfl) (by kernel_rfl)
      (by rw [MakeChecks.laidMetH_plain _ _ _ (by kernel_rfl)]; exact laidMet_laidAll _ (by kernel_rfl) (by kernel_rfl)))
    rfl laidOut (by kernel_rfl) rfl u4 (fun ds h => by match ds, h with | [d0], _ => rfl) ?_
  intro W base args ds ps hX hval hA hz
  obtain ⟨o, hG, ho⟩ := small_held hX
  obtain ⟨v0, d0, rfl, rfl, ⟨fuel0, g0⟩⟩ := trodAll_one (t := 37) hA
  have hz : ((d0.weights Tryd.prog 37) ++ []).all (· ≤ reachBytes) = true := hz
  rw [List.all_append, Bool.and_eq_true] at hz
  obtain ⟨vs, rfl, _⟩ := okWide_struct u37 (hval 0 37 v0 rfl rfl)
  obtain ⟨ds, hv, hh, hb⟩ := arg_agg (ts := [37, 3]) ins_closed (t := 37) (by decide) g0 hz.1
  obtain ⟨op, a, b, c, rfl⟩ := hasS_ins hh
  exact says_of_pureG hG (AsmInstructions_G ho op a b c) (by simp only [RVs]; exact ⟨_, _, rfl, hv, rfl⟩)

theorem asmInstructions_row : Rows.AsmInstructionsSaid :=
  OpenClaim.holds_of_wide 5 Tryd.f5 rfl rfl rfl rfl rfl rfl rfl ⟨rfl, rfl, rfl, rfl, rfl⟩ rfl rfl rfl rfl rfl (by kernel_rfl) Tryd.func5 (by kernel_rfl)
    (of_decide_eq_true (by kernel_rfl)) (by unfold Func.isWrapper; first | (rw [if_pos (by decide +kernel)]; kernel_rfl) | (rw [if_neg (by decide +kernel)]; exact ⟨rfl, rfl⟩))
    (fun os started H enc _ => asmInstructions_lifted os started H enc)

theorem asmInstructions_holds : Rows.AsmInstructionsCardSaid :=
  Claim7.holds_tied_plain_at .later [] [.data, .data, .pinned] true (true, "5db5528ca732187e98990547439a31bb3e2f0da3f6e1bdc039f6e3eb5e953aba") false asmInstructions_row (fun _ h => by cases h) (by kernel_rfl) (fun _ h => by cases h) asmInstructions_row_tie rfl ⟨rfl, rfl⟩ (by kernel_rfl) rfl
    (fun f fn hf hfn => by
      obtain rfl : f = 5 := Option.some.inj ((show Tryd.prog.funcNamed "seedcorn/seedcornlaw12.AsmInstructions" = some 5 by kernel_rfl).symm.trans hf) |>.symm
      obtain rfl : fn = Tryd.f5 := (Option.some.inj (Tryd.func5.symm.trans hfn)).symm
      exact ⟨by kernel_rfl, fun j t ht => by
        have hm : t ∈ Tryd.f5.params.toList := by simpa using Array.mem_of_getElem? ht
        have hall : (Tryd.f5.params.toList.all fun u => !Tryd.prog.wantsStandIn u) = true := by kernel_rfl
        exact (show Tryd.prog.wantsStandIn t = false by simpa using List.all_eq_true.1 hall t hm)⟩)
    (by kernel_rfl)

#print axioms asmInstructions_holds

end Go.Proofs.YtifciocionlciaaDoor

/- The law ToolDigests holds of every input; the listed variables are tied to the program's text. -/
import Derived.Test.YthclfagbojkbjaaGreatDoorPart4
set_option linter.unusedSimpArgs false
set_option linter.unusedVariables false
namespace Go.Proofs.YthclfagbojkbjaaGreatDoor
open Go Go.Am Go.ChangeShapes Go.WideShapes Go.ChangeAt Go.RowKit

theorem agg_of {v : Value} {cs : List Value} {n : Nat} (h : v.cells.toList = cs) (hl : cs.length = n + 2) : v = .agg cs.toArray := by
  subst h
  cases v with
  | agg vs => simp [Value.cells]
  | _ => simp [Value.cells] at hl

def tys : List TypeId := [3, 9, 22, 24, 25, 26, 28, 29]
theorem closed_tys : closedT Tryz.prog tys = true := by kernel_rfl

set_option maxRecDepth 100000 in
theorem toolDigests_lifted (os : Os) (started : os.Started) (H : Type) (enc : TypeId × Value → H) :
    ReturnsInHanded {} Tryz.checked os 3 .any (fun w args => (Rows.toolDigestsSpec.pre enc Tryz.prog Tryz.f3 Rows.toolDigestsRow.domain false w args ∧ laidMetH Tryz.prog laidV w) ∧ sizedMet enc Tryz.prog Tryz.f3 (OpenSpec.ofChange Rows.toolDigestsSpec) false w args) (Rows.toolDigestsSpec.post enc Tryz.prog Tryz.f3 false true false false) := by
  refine returns_of_law_laidX (C := Tryz.checked) own started (by kernel_rfl) Tryz.func3
    (ChangeSpec.witness_shaped (enc := enc) (C := Tryz.checked) (os := os) (X := fun w _ => laidMetH Tryz.prog laidV w) false (World.laidAll Tryz.prog os laidV) #[.agg #[.int .i64 0, .int .u32 0, .int .u32 0, .int .u32 0, .int .u32 0, .slice none 0 0, .slice none 0 0, .int .i64 0], .slice none 0 0, .agg #[.int .u32 0, .int .u32 0, .int .u32 0, .int .u32 0]] 8 (World.laidAll_os _ _ _)
      (World.shaped_of_ZipB (by kernel_rfl) (by kernel_rfl)) (by kernel_rfl) (by kernel_rfl) (by kernel_rfl)
      (by rw [MakeChecks.laidMetH_plain _ _ _ (by kernel_rfl)]; exact laidMet_laidAll _ (by kernel_rfl) (by kernel_rfl)))
    rfl laidOut (by kernel_rfl) rfl u4 (fun ds h => by match ds, h with | [d0, d1, d2], _ => rfl) ?_
  intro W base args ds ps hX hval hA hz
  obtain ⟨o, hG, ho⟩ := small_held hX
  obtain ⟨v0, v1, v2, d0, d1, d2, p0, p1, p2, rfl, rfl, rfl, ⟨fuel0, g0⟩, ⟨fuel1, g1⟩, ⟨fuel2, g2⟩⟩ := trodAll_three (t := 28) (t' := 29) (t'' := 24) hA
  have hz : (d0.weights Tryz.prog 28 ++ (d1.weights Tryz.prog 29 ++ (d2.weights Tryz.prog 24 ++ []))).all (· ≤ reachBytes) = true := hz
  rw [List.all_append, Bool.and_eq_true, List.all_append, Bool.and_eq_true, List.all_append, Bool.and_eq_true] at hz
  obtain ⟨z0, z1, z2, _⟩ := hz
  have hc0 := (trod_has closed_tys fuel0 (t := 28) (by decide) g0 z0)
  obtain ⟨a0, rfl⟩ : ∃ a, v0 = .agg a := by
    obtain ⟨cs, hcs⟩ : ∃ cs, v0.cells.toList = cs := ⟨_, rfl⟩
    obtain ⟨ds, h1, _, h3, _⟩ := hc0
    exact ⟨_, agg_of (n := 6) hcs (by rw [← hcs, ← h1.1, h3]; kernel_rfl)⟩
  have hc2 := (trod_has closed_tys fuel2 (t := 24) (by decide) g2 z2)
  obtain ⟨a2, rfl⟩ : ∃ a, v2 = .agg a := by
    obtain ⟨cs, hcs⟩ : ∃ cs, v2.cells.toList = cs := ⟨_, rfl⟩
    obtain ⟨ds, h1, _, h3, _⟩ := hc2
    exact ⟨_, agg_of (n := 2) hcs (by rw [← hcs, ← h1.1, h3]; kernel_rfl)⟩
  obtain ⟨x0, hx0, ht0, _⟩ := arg_agg closed_tys (t := 28) (by decide) g0 z0
  obtain ⟨r, rfl⟩ := has_rec ht0
  obtain ⟨x2, hx2, ht2, _⟩ := arg_agg closed_tys (t := 24) (by decide) g2 z2
  obtain ⟨d, rfl⟩ := has_dig ht2
  obtain ⟨sa, sl, sc, rfl⟩ := okWide_slice u29 (hval 1 29 v1 rfl rfl)
  obtain ⟨x1, hx1, ht1, _⟩ := arg_one closed_tys (t := 29) (by decide) (by kernel_rfl) rfl g1 z1
  obtain ⟨l, rfl, hl⟩ := has_strs ht1
  refine says_of_pureG hG (ToolDigests_G ho r l d hl) ?_
  simp only [RVs]
  exact ⟨_, _, rfl, hx0, _, _, rfl, ⟨_, rfl, hx1⟩, _, _, rfl, hx2, rfl⟩

theorem toolDigests_row : Rows.ToolDigestsSaid :=
  OpenClaim.holds_of_wide 3 Tryz.f3 rfl rfl rfl rfl rfl rfl rfl ⟨rfl, rfl, rfl, rfl, rfl⟩ rfl rfl rfl rfl rfl (by kernel_rfl) Tryz.func3 k_facts
    (of_decide_eq_true (by kernel_rfl)) (by unfold Func.isWrapper; first | (rw [if_pos (by decide +kernel)]; kernel_rfl) | (rw [if_neg (by decide +kernel)]; exact ⟨rfl, rfl⟩))
    (fun os started H enc _ => toolDigests_lifted os started H enc)

theorem toolDigests_holds : Rows.ToolDigestsCardSaid :=
  Claim7.holds_tied_plain_at .later [] [.data, .data, .data, .data, .pinned] true (true, "76105dba74e5227797dfaa9392afa1c393365a1676a9126dfe60b66be248bdca") true toolDigests_row (fun _ h => by cases h) (by kernel_rfl) (fun _ h => by cases h) toolDigests_row_tie rfl ⟨rfl, rfl⟩ (by kernel_rfl) rfl
    (fun f fn hf hfn => by
      obtain rfl : f = 3 := Option.some.inj ((show Tryz.prog.funcNamed "seedcorn/seedcornlaw39.ToolDigests" = some 3 by kernel_rfl).symm.trans hf) |>.symm
      obtain rfl : fn = Tryz.f3 := (Option.some.inj (Tryz.func3.symm.trans hfn)).symm
      exact ⟨by kernel_rfl, fun j t ht => by
        have hm : t ∈ Tryz.f3.params.toList := by simpa using Array.mem_of_getElem? ht
        have hall : (Tryz.f3.params.toList.all fun u => !Tryz.prog.wantsStandIn u) = true := by kernel_rfl
        exact (show Tryz.prog.wantsStandIn t = false by simpa using List.all_eq_true.1 hall t hm)⟩)
    k_goesBy

#print axioms toolDigests_holds

end Go.Proofs.YthclfagbojkbjaaGreatDoor

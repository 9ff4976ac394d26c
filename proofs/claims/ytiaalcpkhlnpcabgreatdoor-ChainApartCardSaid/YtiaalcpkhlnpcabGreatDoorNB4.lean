/- The law ChainApart holds of every input; the listed variables are tied to the program's text. -/
import Derived.Test.YtiaalcpkhlnpcabGreatDoorPart18
set_option linter.unusedSimpArgs false
set_option linter.unusedVariables false
namespace Go.Proofs.YtiaalcpkhlnpcabGreatDoor
open Go Go.Am Go.ChangeShapes Go.WideShapes Go.ChangeAt Go.RowKit

set_option maxRecDepth 100000 in
theorem chainApart_lifted (os : Os) (started : os.Started) (H : Type) (enc : TypeId × Value → H) :
    ReturnsInHanded {} Tryz.checked os 3 .any (fun w args => (Rows.chainApartSpec.pre enc Tryz.prog Tryz.f3 Rows.chainApartRow.domain false w args ∧ laidMetH Tryz.prog laidV w) ∧ sizedMet enc Tryz.prog Tryz.f3 (OpenSpec.ofChange Rows.chainApartSpec) false w args) (Rows.chainApartSpec.post enc Tryz.prog Tryz.f3 false true false false) := by
  refine returns_of_law_laidX (C := Tryz.checked) own started (by kernel_rfl) Tryz.func3
    (ChangeSpec.witness_shaped (enc := enc) (C := Tryz.checked) (os := os) (X := fun w _ => laidMetH Tryz.prog laidV w) false (World.laidAll Tryz.prog os laidV) #[.agg #[.slice none 0 0, .int .i64 0], .agg #[.slice none 0 0, .int .i64 0]] 8 (World.laidAll_os _ _ _)
      (World.shaped_of_ZipB (by kernel_rfl) (by kernel_rfl)) (by kernel_rfl) (by kernel_rfl) (by kernel_rfl)
      (by rw [MakeChecks.laidMetH_plain _ _ _ (by kernel_rfl)]; exact laidMet_laidAll _ (by kernel_rfl) (by kernel_rfl)))
    rfl laidOut (by kernel_rfl) rfl u4 (fun ds h => by match ds, h with | [d0, d1], _ => rfl) ?_
  intro W base args ds ps hX hval hA hz
  obtain ⟨o, hG, hp, ht⟩ := tabs_held hX
  obtain ⟨v0, v1, d0, d1, p0, p1, rfl, rfl, rfl, ⟨fuel0, g0⟩, ⟨fuel1, g1⟩⟩ := trodAll_two (t := 24) (t' := 24) hA
  have hz : (d0.weights Tryz.prog 24 ++ (d1.weights Tryz.prog 24 ++ [])).all (· ≤ reachBytes) = true := hz
  rw [List.all_append, Bool.and_eq_true, List.all_append, Bool.and_eq_true] at hz
  obtain ⟨z0, z1, _⟩ := hz
  have hc0 := (trod_has closed_tys fuel0 (t := 24) (by decide) g0 z0)
  have hc1 := (trod_has closed_tys fuel1 (t := 24) (by decide) g1 z1)
  obtain ⟨a0, rfl⟩ : ∃ a, v0 = .agg a := by
    obtain ⟨cs, hcs⟩ : ∃ cs, v0.cells.toList = cs := ⟨_, rfl⟩
    obtain ⟨ds, h1, _, h3, _⟩ := hc0
    exact ⟨_, agg_of (n := 0) hcs (by rw [← hcs, ← h1.1, h3]; kernel_rfl)⟩
  obtain ⟨a1, rfl⟩ : ∃ a, v1 = .agg a := by
    obtain ⟨cs, hcs⟩ : ∃ cs, v1.cells.toList = cs := ⟨_, rfl⟩
    obtain ⟨ds, h1, _, h3, _⟩ := hc1
    exact ⟨_, agg_of (n := 0) hcs (by rw [← hcs, ← h1.1, h3]; kernel_rfl)⟩
  obtain ⟨x0, hx0, ht0, _⟩ := arg_agg closed_tys (t := 24) (by decide) g0 z0
  obtain ⟨x1, hx1, ht1, _⟩ := arg_agg closed_tys (t := 24) (by decide) g1 z1
  obtain ⟨ca, da, rfl, hca⟩ := has_img ht0
  obtain ⟨cb, db, rfl, hcb⟩ := has_img ht1
  refine says_of_pureG hG (ChainApart_G hp ht ca cb da db hca hcb) ?_
  simp only [RVs]
  exact ⟨_, _, rfl, hx0, _, _, rfl, hx1, rfl⟩

theorem chainApart_row : Rows.ChainApartSaid :=
  OpenClaim.holds_of_wide 3 Tryz.f3 rfl rfl rfl rfl rfl rfl rfl ⟨rfl, rfl, rfl, rfl, rfl⟩ rfl rfl rfl rfl rfl (by kernel_rfl) Tryz.func3 k_facts
    (of_decide_eq_true (by kernel_rfl)) (by unfold Func.isWrapper; first | (rw [if_pos (by decide +kernel)]; kernel_rfl) | (rw [if_neg (by decide +kernel)]; exact ⟨rfl, rfl⟩))
    (fun os started H enc _ => chainApart_lifted os started H enc)

theorem chainApart_holds : Rows.ChainApartCardSaid :=
  Claim7.holds_tied_plain_at .later [] [.data, .data, .data, .data, .data, .data] true (true, "dac7a866eb930713e7f117c62f451ba7e62c1e89769dd2b52c89bbd52c178edb") true chainApart_row (fun _ h => by cases h) (by kernel_rfl) (fun _ h => by cases h) chainApart_row_tie rfl ⟨rfl, rfl⟩ (by kernel_rfl) rfl
    (fun f fn hf hfn => by
      obtain rfl : f = 3 := Option.some.inj ((show Tryz.prog.funcNamed "seedcorn/seedcornlaw51.ChainApart" = some 3 by kernel_rfl).symm.trans hf) |>.symm
      obtain rfl : fn = Tryz.f3 := (Option.some.inj (Tryz.func3.symm.trans hfn)).symm
      exact ⟨by kernel_rfl, fun j t ht => by
        have hm : t ∈ Tryz.f3.params.toList := by simpa using Array.mem_of_getElem? ht
        have hall : (Tryz.f3.params.toList.all fun u => !Tryz.prog.wantsStandIn u) = true := by kernel_rfl
        exact (show Tryz.prog.wantsStandIn t = false by simpa using List.all_eq_true.1 hall t hm)⟩)
    k_goesBy

#print axioms chainApart_holds

end Go.Proofs.YtiaalcpkhlnpcabGreatDoor

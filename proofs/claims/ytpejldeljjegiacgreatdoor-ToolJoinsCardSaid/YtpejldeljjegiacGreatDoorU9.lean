/- The law ToolJoins holds of every input; the listed variables are tied to the program's text. -/
import Derived.Test.YtpejldeljjegiacGreatDoorPart4
set_option linter.unusedSimpArgs false
set_option linter.unusedVariables false
namespace Go.Proofs.YtpejldeljjegiacGreatDoor
open Go Go.Am Go.ChangeShapes Go.WideShapes Go.ChangeAt Go.RowKit

theorem int_u8 {n : Int} (h : (Lit.int .u8 n).wf = true) : ∃ c : UInt8, n = (c.toNat : Nat) := by
  have h0 : 0 ≤ n ∧ n ≤ 255 := by
    simp only [Lit.wf, Bool.and_eq_true, decide_eq_true_eq] at h
    have e1 : IntKind.u8.min = 0 := by decide
    have e2 : IntKind.u8.max = 255 := by decide
    omega
  refine ⟨UInt8.ofNat n.toNat, ?_⟩
  rw [UInt8.toNat_ofNat']
  omega

theorem agg_of {v : Value} {cs : List Value} (h : v.cells.toList = cs) (hl : cs.length = 3) : v = .agg cs.toArray := by
  subst h
  cases v with
  | agg vs => simp [Value.cells]
  | _ => simp [Value.cells] at hl

set_option maxRecDepth 100000 in
theorem toolJoins_lifted (os : Os) (started : os.Started) (H : Type) (enc : TypeId × Value → H) :
    ReturnsInHanded {} Tryz.checked os 3 .any (fun w args => (Rows.toolJoinsSpec.pre enc Tryz.prog Tryz.f3 Rows.toolJoinsRow.domain false w args ∧ laidMetH Tryz.prog laidV w) ∧ sizedMet enc Tryz.prog Tryz.f3 (OpenSpec.ofChange Rows.toolJoinsSpec) false w args) (Rows.toolJoinsSpec.post enc Tryz.prog Tryz.f3 false true false false) := by
  refine returns_of_law_laidX (C := Tryz.checked) own started (by kernel_rfl) Tryz.func3
    (ChangeSpec.witness_shaped (enc := enc) (C := Tryz.checked) (os := os) (X := fun w _ => laidMetH Tryz.prog laidV w) false (World.laidAll Tryz.prog os laidV) #[.string .empty, .agg #[.int .u8 0, .int .u8 0, .int .u8 0]] 8 (World.laidAll_os _ _ _)
      (World.shaped_of_ZipB (by kernel_rfl) (by kernel_rfl)) (by kernel_rfl) (by kernel_rfl) (by kernel_rfl)
      (by rw [MakeChecks.laidMetH_plain _ _ _ (by kernel_rfl)]; exact laidMet_laidAll _ (by kernel_rfl) (by kernel_rfl)))
    rfl laidOut (by kernel_rfl) rfl u4 (fun ds h => by match ds, h with | [d0, d1], _ => rfl) ?_
  intro W base args ds ps hX hval hA hz
  obtain ⟨o, hG, ho⟩ := small_held hX
  obtain ⟨v0, v1, d0, d1, p0, p1, rfl, rfl, rfl, ⟨fuel0, g0⟩, ⟨fuel1, g1⟩⟩ := trodAll_two (t := 9) (t' := 22) hA
  have hz : (d0.weights Tryz.prog 9 ++ (d1.weights Tryz.prog 22 ++ [])).all (· ≤ reachBytes) = true := hz
  rw [List.all_append, Bool.and_eq_true] at hz
  have z0 : (d0.weights Tryz.prog 9).all (· ≤ reachBytes) = true := hz.1
  obtain ⟨a0, rfl⟩ := okWide_string u9 (hval 0 9 v0 rfl rfl)
  obtain ⟨x0, hx0, ht0⟩ := arg_data (n := 3) (by kernel_rfl) rfl g0 z0
  obtain ⟨s0, rfl, b0⟩ := hasT_str ht0
  obtain ⟨xs, m, _, _, hl, _, _⟩ := DataW.trod_array u22 g1
  rw [show Tryz.prog.cellsOf 22 = 3 by kernel_rfl] at hl
  obtain ⟨cs, hcs⟩ : ∃ cs, v1.cells.toList = cs := ⟨_, rfl⟩
  rw [hcs] at hl g1
  obtain rfl := agg_of hcs hl
  match cs, hl with
  | [q0, q1, q2], _ =>
    obtain ⟨y0, y1, y2, n, _, t0, t1, t2⟩ := trod_array3 u22 c5 g1
    obtain ⟨n0, e0, _, w0⟩ := DataW.trod_int u5 t0
    obtain ⟨n1, e1, _, w1⟩ := DataW.trod_int u5 t1
    obtain ⟨n2, e2, _, w2⟩ := DataW.trod_int u5 t2
    cases e0
    cases e1
    cases e2
    obtain ⟨c0, rfl⟩ := int_u8 w0
    obtain ⟨c1, rfl⟩ := int_u8 w1
    obtain ⟨c2, rfl⟩ := int_u8 w2
    refine says_of_pureG hG (ToolJoins_G ho s0 c0 c1 c2) ?_
    simp only [RVs, RV]
    refine ⟨_, _, rfl, ⟨_, rfl, hx0⟩, _, _, rfl, ⟨_, rfl, rfl, fun i c hc => ?_⟩, rfl⟩
    match i, hc with
    | 0, hc => cases hc; exact ⟨_, rfl, _, rfl, .int _ _⟩
    | 1, hc => cases hc; exact ⟨_, rfl, _, rfl, .int _ _⟩
    | 2, hc => cases hc; exact ⟨_, rfl, _, rfl, .int _ _⟩

theorem toolJoins_row : Rows.ToolJoinsSaid :=
  OpenClaim.holds_of_wide 3 Tryz.f3 rfl rfl rfl rfl rfl rfl rfl ⟨rfl, rfl, rfl, rfl, rfl⟩ rfl rfl rfl rfl rfl (by kernel_rfl) Tryz.func3 k_facts
    (of_decide_eq_true (by kernel_rfl)) (by unfold Func.isWrapper; first | (rw [if_pos (by decide +kernel)]; kernel_rfl) | (rw [if_neg (by decide +kernel)]; exact ⟨rfl, rfl⟩))
    (fun os started H enc _ => toolJoins_lifted os started H enc)

theorem toolJoins_holds : Rows.ToolJoinsCardSaid :=
  Claim7.holds_tied_plain_at .later [] [.data, .data, .data, .data, .pinned] true (true, "dccfcd45b886050f47818563387850a06757500f955abfcec84ee06a272a8540") true toolJoins_row (fun _ h => by cases h) (by kernel_rfl) (fun _ h => by cases h) toolJoins_row_tie rfl ⟨rfl, rfl⟩ (by kernel_rfl) rfl
    (fun f fn hf hfn => by
      obtain rfl : f = 3 := Option.some.inj ((show Tryz.prog.funcNamed "seedcorn/seedcornlaw39.ToolJoins" = some 3 by kernel_rfl).symm.trans hf) |>.symm
      obtain rfl : fn = Tryz.f3 := (Option.some.inj (Tryz.func3.symm.trans hfn)).symm
      exact ⟨by kernel_rfl, fun j t ht => by
        have hm : t ∈ Tryz.f3.params.toList := by simpa using Array.mem_of_getElem? ht
        have hall : (Tryz.f3.params.toList.all fun u => !Tryz.prog.wantsStandIn u) = true := by kernel_rfl
        exact (show Tryz.prog.wantsStandIn t = false by simpa using List.all_eq_true.1 hall t hm)⟩)
    k_goesBy

#print axioms toolJoins_holds

end Go.Proofs.YtpejldeljjegiacGreatDoor

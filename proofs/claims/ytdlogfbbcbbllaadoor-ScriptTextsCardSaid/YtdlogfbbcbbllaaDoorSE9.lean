/- The law ScriptTexts holds of every input; the listed variables are tied to the program's text. -/
import Derived.Test.YtdlogfbbcbbllaaDoorPart5
set_option linter.unusedSimpArgs false
set_option linter.unusedVariables false
namespace Go.Proofs.YtdlogfbbcbbllaaDoor
open Go Go.Am Go.ChangeShapes Go.WideShapes Go.ChangeAt Go.RowKit

theorem u23 : Tryd.prog.underlying 23 = some (.slice 33) := by kernel_rfl
theorem u33 : Tryd.prog.underlying 33 = some (.struct #[⟨"Verb", 9, 0, false, "", "", 0⟩, ⟨"Words", 30, 1, false, "", "", 16⟩]) := by kernel_rfl
theorem closed_line : closedT Tryd.prog [9, 30, 33, 23] = true := by kernel_rfl

theorem has_str {ds : List D} (h : HasS Tryd.prog 9 ds) : ∃ s, ds = [.str s] ∧ s.length ≤ 140737488351232 := by
  cases h with
  | str hu s hl => rw [reach_eq] at hl; exact ⟨s, rfl, hl⟩
  | bool hu => rw [u9] at hu; cases hu
  | int hu => rw [u9] at hu; cases hu
  | sl hu => rw [u9] at hu; cases hu
  | struct hu => rw [u9] at hu; cases hu
theorem list_of {α : Type} {enc : α → List D} {p : α → Prop} : ∀ (es : List (List D)), (∀ x ∈ es, ∃ a, x = enc a ∧ p a) → ∃ l : List α, es = l.map enc ∧ ∀ a ∈ l, p a
  | [], _ => ⟨[], rfl, by simp⟩
  | e :: es, h => by
    obtain ⟨a, rfl, ha⟩ := h e (by simp)
    obtain ⟨l, rfl, hl⟩ := list_of es (fun x hx => h x (by simp [hx]))
    exact ⟨a :: l, rfl, by simpa using ⟨ha, hl⟩⟩
theorem has_strs {ds : List D} (h : HasS Tryd.prog 30 ds) : ∃ ws, ds = [strs ws] ∧ ∀ w ∈ ws, w.length ≤ 140737488351232 := by
  cases h with
  | sl hu es hl h =>
    rw [u30] at hu
    cases hu
    obtain ⟨l, rfl, hp⟩ := list_of (enc := fun w => [D.str w]) es (fun x hx => has_str (h x hx))
    exact ⟨l, rfl, hp⟩
  | bool hu => rw [u30] at hu; cases hu
  | int hu => rw [u30] at hu; cases hu
  | str hu => rw [u30] at hu; cases hu
  | struct hu => rw [u30] at hu; cases hu
theorem two_of {α : Type} {l : List α} (h : l.length = 2) : ∃ a b, l = [a, b] := by
  match l, h with
  | [a, b], _ => exact ⟨a, b, rfl⟩
theorem has_line {ds : List D} (h : HasS Tryd.prog 33 ds) : ∃ l : Line, ds = lineD l ∧ (l.1.length ≤ 140737488351232 ∧ ∀ w ∈ l.2, w.length ≤ 140737488351232) := by
  cases h with
  | struct hu parts hl h =>
    rw [u33] at hu
    cases hu
    obtain ⟨a, b, rfl⟩ := two_of hl
    obtain ⟨v, rfl, hv⟩ := has_str (h 0 _ a rfl rfl)
    obtain ⟨ws, rfl, hw⟩ := has_strs (h 1 _ b rfl rfl)
    exact ⟨(v, ws), rfl, hv, hw⟩
  | bool hu => rw [u33] at hu; cases hu
  | int hu => rw [u33] at hu; cases hu
  | str hu => rw [u33] at hu; cases hu
  | sl hu => rw [u33] at hu; cases hu
theorem has_lines {x : D} (h : HasS Tryd.prog 23 [x]) : ∃ ls : List Line, x = linesD ls ∧ ∀ l ∈ ls, l.1.length ≤ 140737488351232 ∧ ∀ w ∈ l.2, w.length ≤ 140737488351232 := by
  generalize hds : [x] = ds at h
  cases h with
  | sl hu es hl h =>
    rw [u23] at hu
    cases hu
    obtain ⟨l, rfl, hp⟩ := list_of (enc := lineD) es (fun x hx => has_line (h x hx))
    simp only [List.cons.injEq, and_true] at hds
    exact ⟨l, hds, hp⟩
  | bool hu => rw [u23] at hu; cases hu
  | int hu => rw [u23] at hu; cases hu
  | str hu => rw [u23] at hu; cases hu
  | struct hu => rw [u23] at hu; cases hu

set_option maxRecDepth 100000 in
theorem scriptTexts_lifted (os : Os) (started : os.Started) (H : Type) (enc : TypeId × Value → H) :
    ReturnsInHanded {} Tryd.checked os 10 .any (fun w args => (Rows.scriptTextsSpec.pre enc Tryd.prog Tryd.f10 Rows.scriptTextsRow.domain false w args ∧ laidMetH Tryd.prog laidV w) ∧ sizedMet enc Tryd.prog Tryd.f10 (OpenSpec.ofChange Rows.scriptTextsSpec) false w args) (Rows.scriptTextsSpec.post enc Tryd.prog Tryd.f10 false true false false) := by
  refine returns_of_law_laid (C := Tryd.checked) own started (by kernel_rfl) Tryd.func10
    (ChangeSpec.witness_shaped (enc := enc) (C := Tryd.checked) (os := os) (X := fun w _ => laidMetH Tryd.prog laidV w) false (World.laidAll Tryd.prog os laidV) #[.slice none 0 0] 8 (World.laidAll_os _ _ _)
      (World.shaped_of_ZipB (by kernel_rfl) (by kernel_rfl)) (by kernel_rfl) (by kernel_rfl) (by kernel_rfl)
      (by rw [MakeChecks.laidMetH_plain _ _ _ (by kernel_rfl)]; exact laidMet_laidAll _ (by kernel_rfl) (by kernel_rfl)))
    rfl laidOut (by kernel_rfl) rfl u4 (fun ds h => by match ds, h with | [d0], _ => rfl) ?_
  intro W base args ds ps hval hA hz
  obtain ⟨v0, d0, rfl, rfl, ⟨fuel0, g0⟩⟩ := trodAll_one (t := 23) hA
  have hz : (d0.weights Tryd.prog 23 ++ []).all (· ≤ reachBytes) = true := hz
  rw [List.append_nil] at hz
  obtain ⟨a0, l0, c0, rfl⟩ := okWide_slice u23 (hval 0 23 v0 rfl rfl)
  obtain ⟨x0, hx0, ht0, _⟩ := arg_one (ts := [9, 30, 33, 23]) closed_line (t := 23) (by decide) (by kernel_rfl) rfl g0 hz
  obtain ⟨ls, rfl, hls⟩ := has_lines ht0
  exact says_of_pure (ScriptTexts_A ls (fun l hl => by have := (hls l hl).1; omega) (fun l hl w hw => by have := (hls l hl).2 w hw; omega)) (by simp only [RVs, RV]; exact ⟨_, _, rfl, ⟨_, rfl, hx0⟩, rfl⟩)

theorem scriptTexts_row : Rows.ScriptTextsSaid :=
  OpenClaim.holds_of_wide 10 Tryd.f10 rfl rfl rfl rfl rfl rfl rfl ⟨rfl, rfl, rfl, rfl, rfl⟩ rfl rfl rfl rfl rfl (by kernel_rfl) Tryd.func10 (by kernel_rfl)
    (of_decide_eq_true (by kernel_rfl)) (by unfold Func.isWrapper; first | (rw [if_pos (by decide +kernel)]; kernel_rfl) | (rw [if_neg (by decide +kernel)]; exact ⟨rfl, rfl⟩))
    (fun os started H enc _ => scriptTexts_lifted os started H enc)

theorem scriptTexts_holds : Rows.ScriptTextsCardSaid :=
  Claim7.holds_tied_plain_at .later [] [.data, .pinned] true (true, "1bbfa543764bfd695cb13f14f5f16227954af9ab5c6dc3ea00124beeaf836d22") false scriptTexts_row (fun _ h => by cases h) (by kernel_rfl) (fun _ h => by cases h) scriptTexts_row_tie rfl ⟨rfl, rfl⟩ (by kernel_rfl) rfl
    (fun f fn hf hfn => by
      obtain rfl : f = 10 := Option.some.inj ((show Tryd.prog.funcNamed "seedcorn/seedcornlaw53.ScriptTexts" = some 10 by kernel_rfl).symm.trans hf) |>.symm
      obtain rfl : fn = Tryd.f10 := (Option.some.inj (Tryd.func10.symm.trans hfn)).symm
      exact ⟨by kernel_rfl, fun j t ht => by
        have hm : t ∈ Tryd.f10.params.toList := by simpa using Array.mem_of_getElem? ht
        have hall : (Tryd.f10.params.toList.all fun u => !Tryd.prog.wantsStandIn u) = true := by kernel_rfl
        exact (show Tryd.prog.wantsStandIn t = false by simpa using List.all_eq_true.1 hall t hm)⟩)
    (by kernel_rfl)

#print axioms scriptTexts_holds

end Go.Proofs.YtdlogfbbcbbllaaDoor

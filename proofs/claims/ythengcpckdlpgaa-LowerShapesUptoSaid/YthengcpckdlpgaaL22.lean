/- The law LowerShapes holds of every input of bulk at most 1048576. -/
import Derived.Test.YthengcpckdlpgaaL21
import Derived.Test.YthengcpckdlpgaaL5
import Derived.Test.YthengcpckdlpgaaAm24
import Derived.Test.YthengcpckdlpgaaRows
set_option linter.unusedSimpArgs false
set_option linter.unusedVariables false
namespace Go.Proofs.Ythengcpckdlpgaa
open Go Go.Am Go.Lower Go.ChangeShapes Go.WideShapes Go.ChangeAt Go.RowKit

mutual
theorem size_ex : ∀ e : Ex, sizeE e + 6 ≤ bulkDs (exD e)
  | .mk kind op num slot size kids => by
    have := size_exs kids
    simp only [exD, bulkDs, bulkD, sizeE]; omega
theorem size_exs : ∀ l : List Ex, sizeEs l ≤ bulkDss (exsD l)
  | [] => by simp [sizeEs, exsD, bulkDss]
  | e :: l => by
    have := size_ex e
    have := size_exs l
    simp only [exsD, bulkDss, sizeEs]; omega
end
mutual
theorem size_sm : ∀ e : Stm, sizeS e + 6 ≤ bulkDs (smD e)
  | .mk kind slot size e th el => by
    have := size_exs e
    have := size_sms th
    have := size_sms el
    simp only [smD, bulkDs, bulkD, sizeS]; omega
theorem size_sms : ∀ l : List Stm, sizeSs l ≤ bulkDss (smsD l)
  | [] => by simp [sizeSs, smsD, bulkDss]
  | e :: l => by
    have := size_sm e
    have := size_sms l
    simp only [smsD, bulkDss, sizeSs]; omega
end
theorem size_fns : ∀ fs : List Fn, sizeC fs + 5 * fs.length ≤ bulkDss (fs.map fnD)
  | [] => by simp [sizeC, bulkDss]
  | x :: fs => by
    have h1 := size_fns fs
    have h2 := size_sms x.body
    simp only [sizeC, List.map_cons, List.sum_cons, bulkDss, fnD, bulkDs, bulkD, List.length_cons] at *
    omega

mutual
theorem bulk_eq {H : Type} : ∀ d : DataW H, Rows.uptoBulk d = bulkW d
  | .lit l => by cases l <;> simp [Rows.uptoBulk, bulkW]
  | .nil => by simp [Rows.uptoBulk, bulkW]
  | .ptr d => by simp [Rows.uptoBulk, bulkW, bulk_eq d]
  | .slice elems spare => by simp [Rows.uptoBulk, bulkW, bulk_eqs elems, bulk_eqs spare]
  | .agg parts => by simp [Rows.uptoBulk, bulkW, bulk_eqs parts]
  | .iface _ d => by simp [Rows.uptoBulk, bulkW, bulk_eq d]
  | .map entries => by simp [Rows.uptoBulk, bulkW, bulk_eqe entries]
  | .held _ => by simp [Rows.uptoBulk, bulkW]
theorem bulk_eqs {H : Type} : ∀ l : List (DataW H), Rows.uptoBulkAll l = bulkWs l
  | [] => by simp [Rows.uptoBulkAll, bulkWs]
  | d :: r => by simp [Rows.uptoBulkAll, bulkWs, bulk_eq d, bulk_eqs r]
theorem bulk_eqe {H : Type} : ∀ l : List (Lit × DataW H), Rows.uptoBulkEntries l = bulkWe l
  | [] => by simp [Rows.uptoBulkEntries, bulkWe]
  | x :: r => by simp [Rows.uptoBulkEntries, bulkWe, bulk_eq1 x, bulk_eqe r]
theorem bulk_eq1 {H : Type} : ∀ x : Lit × DataW H, Rows.uptoBulkEntry x = bulkW1 x
  | (l, d) => by cases l <;> simp [Rows.uptoBulkEntry, bulkW1, bulk_eq d]
end

set_option maxRecDepth 100000 in
theorem lowerShapes_lifted (os : Os) (started : os.Started) (H : Type) (enc : TypeId × Value → H) (F : Stop.Interp) :
    ReturnsInHanded {} Try.checked os 3 .any ((Rows.OpenSpec.upto Rows.lowerShapesSpec).pre6 enc Try.prog Try.f3 Rows.lowerShapesUptoRow.domain false) (((Rows.OpenSpec.upto Rows.lowerShapesSpec).at F).post enc Try.prog Try.f3 false true false false) := by
  refine returns_of_law_cond (C := Try.checked) (s := Rows.lowerShapesSpec) (k := Rows.uptoSmall) (by kernel_rfl) started (by kernel_rfl) Try.func3
    (OpenSpec.witness (enc := enc) (C := Try.checked) (s := Rows.OpenSpec.upto Rows.lowerShapesSpec) (k := Rows.uptoSmall) rfl false ⟨#[], #[.agg #[.int .i64 0, .slice none 0 0]], []⟩ 8 (by kernel_rfl) (by kernel_rfl) (by kernel_rfl)
      (x := ([.agg [.lit (.int .i64 0), .nil]], [], [])) (by kernel_rfl) rfl (by kernel_rfl))
    rfl (by kernel_rfl) (by kernel_rfl) rfl Try.underlying4 (fun ds h => by match ds, h with | [d], _ => rfl) ?_
  intro W base args ds ps hval hA hz hk
  obtain ⟨v0, d0, rfl, rfl, fuel, h0⟩ := trodAll_one (t := 24) hA
  have hk : Rows.uptoBulkAll [d0] ≤ 1048576 := of_decide_eq_true hk
  rw [bulk_eqs] at hk
  simp only [bulkWs, Nat.add_zero] at hk
  obtain ⟨vs, rfl, _⟩ := okWide_struct u24 (hval 0 24 v0 rfl rfl)
  have hz : (d0.weights Try.prog 24 ++ []).all (· ≤ reachBytes) = true := hz
  rw [List.append_nil] at hz
  obtain ⟨ds, hv, hh, hb⟩ := arg_agg (ts := [3, 4, 48, 50, 44, 46, 32, 34, 22, 24]) core_closed (t := 24) (by decide) h0 hz
  obtain ⟨w, fs, hc⟩ := has_core hh
  have hds : ds = [.int .i64 w, .sl (fs.map fnD)] := by
    have h1 : ds.map C.d = [C.d (.int .i64 w), C.d (.sl (fs.map fnD))] := by
      simp only [coreC, AV.agg.injEq] at hc; exact hc
    match ds, h1 with
    | [a, b], h1 => simp only [List.map_cons, List.map_nil, List.cons.injEq, C.d.injEq, and_true] at h1; rw [h1.1, h1.2]
  have hsz := size_fns fs
  rw [hds] at hb
  simp only [bulkDs, bulkD, Nat.add_zero] at hb
  rw [hc] at hv
  exact says_of_pure (LowerShapes_A (w := w) (fs := fs) (by omega) (by omega)) (by simp only [RVs]; exact ⟨_, _, rfl, hv, rfl⟩)

theorem lowerShapes_holds : Rows.LowerShapesUptoSaid :=
  OpenClaim.holds_of_cond 3 Try.f3 rfl rfl rfl rfl rfl rfl rfl ⟨rfl, rfl, rfl, rfl, rfl⟩ rfl rfl rfl rfl rfl (by kernel_rfl) Try.func3 (by kernel_rfl)
    (of_decide_eq_true (by kernel_rfl)) (by unfold Func.isWrapper; first | (rw [if_pos (by decide +kernel)]; kernel_rfl) | (rw [if_neg (by decide +kernel)]; exact ⟨rfl, rfl⟩))
    (fun os started H enc _ F => lowerShapes_lifted os started H enc F)

#print axioms lowerShapes_holds

end Go.Proofs.Ythengcpckdlpgaa

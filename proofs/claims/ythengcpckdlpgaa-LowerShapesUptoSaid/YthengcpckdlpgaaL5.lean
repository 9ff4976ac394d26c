/- A statement's reading of expressions. -/
import Derived.Test.YthengcpckdlpgaaL2
import Derived.Test.YthengcpckdlpgaaAm20
set_option linter.unusedSimpArgs false
set_option linter.unusedVariables false
namespace Go.Proofs.Ythengcpckdlpgaa
open Go Go.Am Go.Lower

theorem list_of {α : Type} {enc : α → List D} : ∀ (es : List (List D)), (∀ x ∈ es, ∃ a, x = enc a) → ∃ l : List α, es = l.map enc
  | [], _ => ⟨[], rfl⟩
  | e :: es, h => by
    obtain ⟨a, rfl⟩ := h e (by simp)
    obtain ⟨l, rfl⟩ := list_of es (fun x hx => h x (by simp [hx]))
    exact ⟨a :: l, rfl⟩

theorem u3 : Try.prog.underlying 3 = some (.int .i64) := by kernel_rfl
theorem u48 : Try.prog.underlying 48 = some (.int .u32) := by kernel_rfl
theorem u44 : Try.prog.underlying 44 = some (.slice 50) := by kernel_rfl

theorem has_int {ds : List D} (h : HasS Try.prog 3 ds) : ∃ m, ds = [.int .i64 m] := by
  cases h with
  | int hu m hw => rw [u3] at hu; cases hu; exact ⟨m, rfl⟩
  | bool hu => rw [u3] at hu; cases hu
  | str hu => rw [u3] at hu; cases hu
  | sl hu => rw [u3] at hu; cases hu
  | struct hu => rw [u3] at hu; cases hu
theorem has_u32 {ds : List D} (h : HasS Try.prog 48 ds) : ∃ m, ds = [.int .u32 m] := by
  cases h with
  | int hu m hw => rw [u48] at hu; cases hu; exact ⟨m, rfl⟩
  | bool hu => rw [u48] at hu; cases hu
  | str hu => rw [u48] at hu; cases hu
  | sl hu => rw [u48] at hu; cases hu
  | struct hu => rw [u48] at hu; cases hu

theorem u50 : Try.prog.underlying 50 = some ti50.desc := by kernel_rfl

theorem six {α : Type} {l : List α} (h : l.length = 6) : ∃ a b c d e f, l = [a, b, c, d, e, f] := by
  match l, h with
  | [a, b, c, d, e, f], _ => exact ⟨a, b, c, d, e, f, rfl⟩

theorem has_ex {t : TypeId} {ds : List D} (h : HasS Try.prog t ds) : (t = 50 → ∃ e, ds = exD e) ∧ (t = 44 → ∃ l, ds = [.sl (exsD l)]) := by
  induction h with
  | bool hu b => exact ⟨fun e => (by subst e; rw [u50] at hu; cases hu), fun e => (by subst e; rw [u44] at hu; cases hu)⟩
  | int hu b hw => exact ⟨fun e => (by subst e; rw [u50] at hu; cases hu), fun e => (by subst e; rw [u44] at hu; cases hu)⟩
  | str hu b hw => exact ⟨fun e => (by subst e; rw [u50] at hu; cases hu), fun e => (by subst e; rw [u44] at hu; cases hu)⟩
  | sl hu es hl h ih =>
    refine ⟨fun e => (by subst e; rw [u50] at hu; cases hu), fun e => ?_⟩
    subst e
    rw [u44] at hu
    cases hu
    obtain ⟨l, rfl⟩ := list_of (enc := exD) es (fun x hx => (ih x hx).1 rfl)
    exact ⟨l, by rw [exsD_map]⟩
  | struct hu parts hl h ih =>
    refine ⟨fun e => ?_, fun e => (by subst e; rw [u44] at hu; cases hu)⟩
    subst e
    rw [u50] at hu
    cases hu
    obtain ⟨a, b, c, d, e, f, rfl⟩ := six hl
    obtain ⟨m1, rfl⟩ := has_int (h 0 _ a rfl rfl)
    obtain ⟨m2, rfl⟩ := has_int (h 1 _ b rfl rfl)
    obtain ⟨m3, rfl⟩ := has_u32 (h 2 _ c rfl rfl)
    obtain ⟨m4, rfl⟩ := has_int (h 3 _ d rfl rfl)
    obtain ⟨m5, rfl⟩ := has_int (h 4 _ e rfl rfl)
    obtain ⟨l, rfl⟩ := (ih 5 _ f rfl rfl).2 rfl
    exact ⟨.mk m1 m2 m3 m4 m5 l, rfl⟩

theorem u4 : Try.prog.underlying 4 = some .bool := by kernel_rfl
theorem u46 : Try.prog.underlying 46 = some ti46.desc := by kernel_rfl
theorem u32' : Try.prog.underlying 32 = some (.slice 46) := by kernel_rfl
theorem u34 : Try.prog.underlying 34 = some ti34.desc := by kernel_rfl
theorem u22 : Try.prog.underlying 22 = some (.slice 34) := by kernel_rfl
theorem u24 : Try.prog.underlying 24 = some ti24.desc := by kernel_rfl

theorem has_bool {ds : List D} (h : HasS Try.prog 4 ds) : ∃ b, ds = [.bool b] := by
  cases h with
  | bool hu b => exact ⟨b, rfl⟩
  | int hu => rw [u4] at hu; cases hu
  | str hu => rw [u4] at hu; cases hu
  | sl hu => rw [u4] at hu; cases hu
  | struct hu => rw [u4] at hu; cases hu

theorem has_sm {t : TypeId} {ds : List D} (h : HasS Try.prog t ds) : (t = 46 → ∃ e, ds = smD e) ∧ (t = 32 → ∃ l, ds = [.sl (smsD l)]) := by
  induction h with
  | bool hu b => exact ⟨fun e => (by subst e; rw [u46] at hu; cases hu), fun e => (by subst e; rw [u32'] at hu; cases hu)⟩
  | int hu b hw => exact ⟨fun e => (by subst e; rw [u46] at hu; cases hu), fun e => (by subst e; rw [u32'] at hu; cases hu)⟩
  | str hu b hw => exact ⟨fun e => (by subst e; rw [u46] at hu; cases hu), fun e => (by subst e; rw [u32'] at hu; cases hu)⟩
  | sl hu es hl h ih =>
    refine ⟨fun e => (by subst e; rw [u46] at hu; cases hu), fun e => ?_⟩
    subst e
    rw [u32'] at hu
    cases hu
    obtain ⟨l, rfl⟩ := list_of (enc := smD) es (fun x hx => (ih x hx).1 rfl)
    exact ⟨l, by rw [smsD_map]⟩
  | struct hu parts hl h ih =>
    refine ⟨fun e => ?_, fun e => (by subst e; rw [u32'] at hu; cases hu)⟩
    subst e
    rw [u46] at hu
    cases hu
    obtain ⟨a, b, c, d, e, f, rfl⟩ := six hl
    obtain ⟨m1, rfl⟩ := has_int (h 0 _ a rfl rfl)
    obtain ⟨m2, rfl⟩ := has_int (h 1 _ b rfl rfl)
    obtain ⟨m3, rfl⟩ := has_int (h 2 _ c rfl rfl)
    obtain ⟨l, rfl⟩ := (has_ex (h 3 _ d rfl rfl)).2 rfl
    obtain ⟨l1, rfl⟩ := (ih 4 _ e rfl rfl).2 rfl
    obtain ⟨l2, rfl⟩ := (ih 5 _ f rfl rfl).2 rfl
    exact ⟨.mk m1 m2 m3 l l1 l2, rfl⟩

theorem has_fn {ds : List D} (h : HasS Try.prog 34 ds) : ∃ x, ds = fnD x := by
  cases h with
  | bool hu b => rw [u34] at hu; cases hu
  | int hu => rw [u34] at hu; cases hu
  | str hu => rw [u34] at hu; cases hu
  | sl hu => rw [u34] at hu; cases hu
  | struct hu parts hl h =>
    rw [u34] at hu
    cases hu
    obtain ⟨a, b, c, d, e, rfl⟩ : ∃ a b c d e, parts = [a, b, c, d, e] := by
      match parts, hl with
      | [a, b, c, d, e], _ => exact ⟨a, b, c, d, e, rfl⟩
    obtain ⟨m1, rfl⟩ := has_int (h 0 _ a rfl rfl)
    obtain ⟨m2, rfl⟩ := has_int (h 1 _ b rfl rfl)
    obtain ⟨m3, rfl⟩ := has_int (h 2 _ c rfl rfl)
    obtain ⟨w, rfl⟩ := has_bool (h 3 _ d rfl rfl)
    obtain ⟨l, rfl⟩ := (has_sm (h 4 _ e rfl rfl)).2 rfl
    exact ⟨⟨m1, m2, m3, w, l⟩, rfl⟩

theorem has_core {ds : List D} (h : HasS Try.prog 24 ds) : ∃ w fs, AV.agg (ds.map .d) = coreC w fs := by
  cases h with
  | bool hu b => rw [u24] at hu; cases hu
  | int hu => rw [u24] at hu; cases hu
  | str hu => rw [u24] at hu; cases hu
  | sl hu => rw [u24] at hu; cases hu
  | struct hu parts hl h =>
    rw [u24] at hu
    cases hu
    obtain ⟨a, b, rfl⟩ : ∃ a b, parts = [a, b] := by
      match parts, hl with
      | [a, b], _ => exact ⟨a, b, rfl⟩
    obtain ⟨m1, rfl⟩ := has_int (h 0 _ a rfl rfl)
    have h1 : HasS Try.prog 22 b := h 1 _ b rfl rfl
    cases h1 with
    | bool hu b => rw [u22] at hu; cases hu
    | int hu => rw [u22] at hu; cases hu
    | str hu => rw [u22] at hu; cases hu
    | struct hu => rw [u22] at hu; cases hu
    | sl hu es hl h =>
      rw [u22] at hu
      cases hu
      obtain ⟨l, rfl⟩ := list_of (enc := fnD) es (fun x hx => has_fn (h x hx))
      exact ⟨m1, l, rfl⟩

theorem core_closed : closedT Try.prog [3, 4, 48, 50, 44, 46, 32, 34, 22, 24] = true := by kernel_rfl

end Go.Proofs.Ythengcpckdlpgaa

/- A part of the proof; no conditions. -/
import Derived.Test.YtiaalcpkhlnpcabGreatDoorPart13
import Derived.Handed
import Derived.Lay
import Derived.LaidMore
import Derived.SevenTiedAt
import Derived.Stop.Joined
import Derived.DefersIn
import Derived.RecoverIn
import Derived.WalkKit
import Derived.Lib.Builder
import Derived.Shelf.Strings.Repeat
import Derived.Test.YtiaalcpkhlnpcabGreatDoorProg
set_option linter.unusedSimpArgs false
set_option linter.unusedVariables false
namespace Go.Proofs.YtiaalcpkhlnpcabGreatDoor
open Go Go.Am Go.Asm

/-- What is thrown: a place. -/
def wrongV (k : Nat) : Value := .iface 133 (.agg #[.int .i64 (k : Nat)])
def WrongP (B k : Nat) (g : Nat → Nat) (ob : Obs) : Pan := fun ch g' ob' => ch = [{ v := wrongV k, recovered := false }] ∧ FrP B g ob g' ob'

set_option maxHeartbeats 8000000 in
theorem fail_P {gr n fin : Nat} {ts : List Src.Tok} {g : Nat → Nat} {ob : Obs} (h : RdP gr ts n fin g ob) :
    FunX Tryz.prog 66 [.one (.ptr 125 gr 0)] g ob (fun _ _ _ => False) (WrongP 9000 (failN ts fin n) g ob) := by
  refine fun_of_wpX 9000 Tt_ok mixed Tryz.func66 rfl (by rfl) [] rfl (by kernel_rfl) (by kernel_rfl) (by simp [Tryz.ntmps66]) fun b₀ β0 s0 w0 => ?_
  obtain ⟨hg, ho⟩ := h
  unfold RdC toksD at ho
  have hn0 : (0 : Int) ≤ (n : Int) := by omega
  simp (config := { maxSteps := 1000000 }) only [go_sem,↓reduceIte]
  refine draw_introF (by decide +kernel) ?_
  unfold failN
  by_cases hlt : n < ts.length
  · have hlti : (n : Int) < (ts.length : Int) := by omega
    obtain ⟨t, ht⟩ := getq hlt
    have htg := tok_get ht
    rw [ht]
    simp (config := { maxSteps := 1000000 }) only [go_sem,↓reduceIte,hg, ho, List.length_map, hlti]
    refine draw_introF (by decide +kernel) ?_
    simp (config := { maxSteps := 1000000 }) only [go_sem,↓reduceIte,hg, ho, hn0, htg]
    refine hook_iface (k := bx _) kept_phiT rfl (Tt_ok 133 rfl).desc (by simp (config := { maxSteps := 1000000 }) only [go_sem,↓reduceIte]; exact ⟨rfl, rfl⟩) ?_
    simp (config := { maxSteps := 1000000 }) only [go_sem,↓reduceIte]
    refine hook_throw (k := bx _) (t := 133) (u := .agg #[.int .i64 (t.place : Nat)]) rfl (by simp (config := { maxSteps := 1000000 }) only [go_sem,↓reduceIte]) ?_
    exact ⟨rfl, fun i hi => ⟨rfl, fun _ => rfl⟩⟩
  · have hlti : ¬ (n : Int) < (ts.length : Int) := by omega
    rw [List.getElem?_eq_none (by omega)]
    simp (config := { maxSteps := 1000000 }) only [go_sem,↓reduceIte,hg, ho, List.length_map, hlti]
    refine hook_iface (k := bx _) kept_phiT rfl (Tt_ok 133 rfl).desc (by simp (config := { maxSteps := 1000000 }) only [go_sem,↓reduceIte]; exact ⟨rfl, rfl⟩) ?_
    simp (config := { maxSteps := 1000000 }) only [go_sem,↓reduceIte]
    refine hook_throw (k := bx _) (t := 133) (u := .agg #[.int .i64 (fin : Nat)]) rfl (by simp (config := { maxSteps := 1000000 }) only [go_sem,↓reduceIte]) ?_
    exact ⟨rfl, fun i hi => ⟨rfl, fun _ => rfl⟩⟩

theorem WrongP.from {B B' k : Nat} {g g1 : Nat → Nat} {ob ob1 : Obs} {ch : List PanicEntry} {g' : Nat → Nat} {ob' : Obs} (h : WrongP B k g1 ob1 ch g' ob') (hf : FrP B' g ob g1 ob1) (hb : B' ≤ B) : WrongP B' k g ob ch g' ob' := ⟨h.1, hf.trans h.2 hb⟩

def TakeP (gr : Nat) (ts : List Src.Tok) (n fin kd : Nat) (g : Nat → Nat) (ob : Obs) (r : AV) (g' : Nat → Nat) (ob' : Obs) : Prop :=
  ∃ t, ts[n]? = some t ∧ t.kind = kd ∧ r = tokV t ∧ FrP 8900 g ob g' ob' ∧ RdP gr ts (n + 1) fin g' ob'

set_option maxHeartbeats 8000000 in
theorem take_P {gr n fin kd : Nat} {ts : List Src.Tok} {g : Nat → Nat} {ob : Obs} (h : RdP gr ts n fin g ob) (hn : n ≤ 1000000) (hk : 0 < kd) :
    FunX Tryz.prog 69 [.one (.ptr 125 gr 0), iv .i64 kd] g ob (TakeP gr ts n fin kd g ob) (fun ch g' ob' => kindN ts n ≠ kd ∧ WrongP 8900 (failN ts fin n) g ob ch g' ob') := by
  refine fun_of_wpX 8900 Tt_ok mixed Tryz.func69 rfl (by rfl) [.cell 4 139] rfl (by kernel_rfl) (by kernel_rfl) (by simp [Tryz.ntmps69]) fun b₀ β0 s0 w0 => ?_
  have hw := wrap_succ (k := n) (by omega)
  have hn0 : (0 : Int) ≤ (n : Int) := by omega
  have hK : ∀ x y, RdP gr ts n fin (upd g 8904 x) (upd ob 8904 y) := fun x y => h.of (by simp [upd]) (by simp [upd])
  simp (config := { maxSteps := 1000000 }) only [go_sem,↓reduceIte]
  refine hook_funF kept_phiT rfl (by simp (config := { maxSteps := 1000000 }) only [go_sem,↓reduceIte]; exact kind_P (hK _ _)) ?_
  rintro _ g1 ob1 ⟨rfl, rfl, rfl⟩
  by_cases hk1 : kindN ts n = kd
  case neg =>
    have hki : ¬ (kindN ts n : Int) = (kd : Int) := by omega
    simp (config := { maxSteps := 1000000 }) only [go_sem,↓reduceIte,hki]
    refine hook_funX kept_phiT rfl (by simp (config := { maxSteps := 1000000 }) only [go_sem,↓reduceIte]; exact (fail_P (hK _ _)).mono (R' := fun _ _ _ => False) (fun _ _ _ h => h.elim) (fun ch g' ob' h => ⟨hk1, h.from (B' := 8900) (fun i hi => ⟨by simp only [upd]; rw [if_neg (by omega)], fun _ => by simp only [upd]; rw [if_neg (by omega)]⟩) (by decide)⟩)) ?_
    exact fun _ _ _ h => h.elim
  have hki : (kindN ts n : Int) = (kd : Int) := by omega
  obtain ⟨t, ht⟩ : ∃ t, ts[n]? = some t := by
    unfold kindN at hk1
    cases hq : ts[n]? with
    | some t => exact ⟨t, rfl⟩
    | none => rw [hq] at hk1; simp only at hk1; omega
  have htg := tok_get ht
  have hkt : t.kind = kd := by unfold kindN at hk1; rw [ht] at hk1; exact hk1
  obtain ⟨hg, ho⟩ := h
  unfold RdC toksD at ho
  simp (config := { maxSteps := 1000000 }) only [go_sem,↓reduceIte,hki]
  refine draw_detF (B := 8900) Tt_ok mixed kept_phiT [8905] [([0], [0], [], false), ([12], [0], [], false), ([13], [0], [], false), ([14], [0], [], false), ([0], [0], [], false), ([16], [0], [], false), ([17], [0], [], false), ([18], [0], [], false), ([15, 19], [0], [], false), ([20], [0], [], false), ([], [], [0], false), ([5, 21], [], [], true)] 1 rfl (by decide +kernel) rfl (by decide) ?_
  simp (config := { maxSteps := 1000000 }) only [go_sem,↓reduceIte]
  iterate 10 (apply det_pure; · (intro fa ga oa K' hK; simp (config := { maxSteps := 1000000 }) only [go_sem,↓reduceIte,hg, ho, hn0, htg] at hK ⊢; exact hK))
  (apply det_new; · (intro fa ga oa K' hK; simp (config := { maxSteps := 1000000 }) only [go_sem,↓reduceIte] at hK ⊢; exact hK))
  apply det_last
  intro K' hK'
  simp (config := { maxSteps := 1000000 }) only [go_sem,↓reduceIte]
  refine hK' _ ?_
  clear hK' K'
  simp (config := { maxSteps := 1000000 }) only [go_sem,↓reduceIte,hg, ho, hw]
  refine ⟨_, SemVs.refl _, ?_⟩
  simp (config := { maxSteps := 1000000 }) only [go_sem,↓reduceIte]
  refine ⟨t, ht, hkt, rfl, fun i hi => ⟨?_, fun h5 => ?_⟩, ?_, ?_⟩
  · simp only [upd]; (repeat rw [if_neg (by omega)])
  · simp only [upd]; (repeat rw [if_neg (by omega)])
  · simp only [upd]; (repeat rw [if_neg (by omega)]); exact hg
  · simp [upd, RdC, toksD]

/-- A text that must come, and the next one. -/
theorem may_fr {B : Nat} {g g' : Nat → Nat} {ob ob' : Obs} (h : ∀ i, i < B → g' i = g i ∧ ob' i = ob i) : FrP B g ob g' ob' := fun i hi => ⟨(h i hi).1, fun _ => (h i hi).2⟩

set_option maxHeartbeats 8000000 in
theorem must_P {gr n fin j : Nat} {ts : List Src.Tok} {g : Nat → Nat} {ob : Obs} {s : Str} (h : RdP gr ts n fin g ob) (hn : n ≤ 1000000) (hj : j < 8900) (hj1 : j ≠ 125) (hjo : ob j = some [.d (.str s)]) :
    FunX Tryz.prog 70 [.one (.ptr 125 gr 0), .one (.osl j (g j) 1 0 1)] g ob (fun _ g' ob' => peekN ts n = s ∧ FrP 8900 g ob g' ob' ∧ RdP gr ts (n + 1) fin g' ob') (fun ch g' ob' => peekN ts n ≠ s ∧ WrongP 8900 (failN ts fin n) g ob ch g' ob') := by
  refine fun_of_wpX 8900 Tt_ok mixed Tryz.func70 rfl (by rfl) [] rfl (by kernel_rfl) (by kernel_rfl) (by simp [Tryz.ntmps70]) fun b₀ β0 s0 w0 => ?_
  have hw := wrap_succ (k := n) (by omega)
  simp (config := { maxSteps := 1000000 }) only [go_sem,↓reduceIte]
  refine ⟨by rw [hjo]; rfl, ?_⟩
  refine loop_introF (fun m st => st.f 0 = .one (.ptr 125 gr 0) ∧ st.f 6 = .one (.osl j (g j) 1 0 1) ∧ st.f 7 = iv .i64 1 ∧ FrP 8900 g ob st.gen st.obj ∧ ((m = 1 ∧ st.f 8 = iv .i64 0 ∧ RdP gr ts n fin st.gen st.obj) ∨ (m = 0 ∧ st.f 8 = iv .i64 1 ∧ peekN ts n = s ∧ RdP gr ts (n + 1) fin st.gen st.obj))) 1 ?_ ?_
  · simp (config := { maxSteps := 1000000 }) only [go_sem,↓reduceIte]
    exact ⟨fun i hi => ⟨rfl, fun _ => rfl⟩, .inl h⟩
  rintro m f g1 ob1 ⟨q0, q6, q7, f1, hm⟩
  simp only at q0 q6 q7 f1 hm
  rcases hm with ⟨rfl, q8, h1⟩ | ⟨rfl, q8, he, h1⟩
  case inr =>
    simp (config := { maxSteps := 1000000 }) only [go_sem,↓reduceIte,q7, q8]
    exact ⟨_, SemVs.refl _, he, f1, h1⟩
  have hj2 : ob1 j = some [.d (.str s)] := ((f1 j hj).2 hj1).trans hjo
  have hgj : g1 j = g j := (f1 j hj).1
  simp (config := { maxSteps := 1000000 }) only [go_sem,↓reduceIte,q0, q6, q7, q8, hj2]
  refine ⟨hgj, hgj, hook_funF kept_phiT rfl (by simp (config := { maxSteps := 1000000 }) only [go_sem,↓reduceIte]; exact peek_P h1) ?_⟩
  rintro _ g2 ob2 ⟨rfl, f2⟩
  have h2 : RdP gr ts n fin g2 ob2 := h1.of (f2 125 (by decide)).1 (f2 125 (by decide)).2
  have hF2 : FrP 8900 g ob g2 ob2 := f1.trans ((may_fr f2).down (by decide : 8900 ≤ 9000)) (Nat.le_refl _)
  by_cases he : peekN ts n = s
  case neg =>
    simp (config := { maxSteps := 1000000 }) only [go_sem,↓reduceIte,he, q0]
    refine hook_funX kept_phiT rfl (by simp (config := { maxSteps := 1000000 }) only [go_sem,↓reduceIte,q0]; exact (fail_P h2).mono (R' := fun _ _ _ => False) (fun _ _ _ h => h.elim) (fun ch g' ob' h => h.from hF2 (by decide))) ?_
    exact fun _ _ _ h => h.elim
  have hg2 := h2.gen
  have ho2 := h2.obj
  unfold RdC toksD at ho2
  simp (config := { maxSteps := 1000000 }) only [go_sem,↓reduceIte,he, q0, hg2, ho2, hw, q8]
  refine round_endF 0 (by omega) ?_
  simp (config := { maxSteps := 1000000 }) only [go_sem,↓reduceIte,q0, q6, q7]
  exact ⟨fun i hi => ⟨(hF2 i hi).1, fun h5 => by simp only [upd]; rw [if_neg h5]; exact (hF2 i hi).2 h5⟩, .inr ⟨rfl, hg2, by simp [upd, RdC, toksD]⟩⟩

end Go.Proofs.YtiaalcpkhlnpcabGreatDoor

namespace Go.Proofs.YtiaalcpkhlnpcabGreatDoor
open Go Go.Am Go.Asm

theorem FrP.put {B j : Nat} {g g1 : Nat → Nat} {ob ob1 : Obs} {y : Option (List C)} (h : FrP B g ob g1 ob1) (hj : B ≤ j) : FrP B g ob g1 (upd ob1 j y) := fun i hi => ⟨(h i hi).1, fun h5 => by simp only [upd]; rw [if_neg (by omega)]; exact (h i hi).2 h5⟩
theorem FrP.newG {B j x : Nat} {g g1 : Nat → Nat} {ob ob1 : Obs} (h : FrP B g ob g1 ob1) (hj : B ≤ j) : FrP B g ob (upd g1 j x) ob1 := fun i hi => ⟨by simp only [upd]; rw [if_neg (by omega)]; exact (h i hi).1, (h i hi).2⟩
theorem FrP.new {B j x : Nat} {g g1 : Nat → Nat} {ob ob1 : Obs} {y : Option (List C)} (h : FrP B g ob g1 ob1) (hj : B ≤ j) : FrP B g ob (upd g1 j x) (upd ob1 j y) := (h.put hj).newG hj
theorem FrP.rfl' {B : Nat} {g : Nat → Nat} {ob : Obs} : FrP B g ob g ob := fun _ _ => ⟨rfl, fun _ => rfl⟩
theorem RdP.put {gr n fin j : Nat} {ts : List Src.Tok} {g : Nat → Nat} {ob : Obs} {y : Option (List C)} (h : RdP gr ts n fin g ob) (hj : j ≠ 125) : RdP gr ts n fin g (upd ob j y) := h.of rfl (by simp only [upd]; rw [if_neg (Ne.symm hj)])
theorem RdP.newG {gr n fin j x : Nat} {ts : List Src.Tok} {g : Nat → Nat} {ob : Obs} (h : RdP gr ts n fin g ob) (hj : j ≠ 125) : RdP gr ts n fin (upd g j x) ob := h.of (by simp only [upd]; rw [if_neg (Ne.symm hj)]) rfl
theorem RdP.new {gr n fin j x : Nat} {ts : List Src.Tok} {g : Nat → Nat} {ob : Obs} {y : Option (List C)} (h : RdP gr ts n fin g ob) (hj : j ≠ 125) : RdP gr ts n fin (upd g j x) (upd ob j y) := (h.put hj).newG hj

set_option maxHeartbeats 4000000 in
theorem sign_P {g : Nat → Nat} {ob : Obs} :
    FunR Tryz.prog 190 [sv [41]] g ob (fun r g' ob' => r = .tup [.agg [.d (.int .i64 0), .d (.int .i64 0), .d (.int .u32 0), .d (.str []), .d .nsl], iv .i64 0] ∧ ∀ i, i < 8000 → g' i = g i ∧ ob' i = ob i) := by
  refine fun_of_wpR 8000 Tt_ok mixed Tryz.func190 rfl (by rfl) [.cell 2 225, .tmp 3] rfl (by kernel_rfl) (by simp [Tryz.ntmps190]) ?_
  obtain ⟨s, hs⟩ : ∃ s : Str, s = [41] := ⟨_, rfl⟩
  rw [← hs]
  have h0 : ¬ s = [124, 124] := by rw [hs]; decide
  have h1 : ¬ s = [38, 38] := by rw [hs]; decide
  have h2 : ¬ s = [61, 61] := by rw [hs]; decide
  have h3 : ¬ s = [60] := by rw [hs]; decide
  have h4 : ¬ s = [124] := by rw [hs]; decide
  have h5 : ¬ s = [94] := by rw [hs]; decide
  have h6 : ¬ s = [38] := by rw [hs]; decide
  have h7 : ¬ s = [60, 60] := by rw [hs]; decide
  have h8 : ¬ s = [62, 62] := by rw [hs]; decide
  have h9 : ¬ s = [43] := by rw [hs]; decide
  have h10 : ¬ s = [45] := by rw [hs]; decide
  have h11 : ¬ s = [42] := by rw [hs]; decide
  have h12 : ¬ s = [47] := by rw [hs]; decide
  have h13 : ¬ s = [37] := by rw [hs]; decide
  simp (config := { maxSteps := 1000000 }) only [go_sem,↓reduceIte,h0, h1, h2, h3, h4, h5, h6, h7, h8, h9, h10, h11, h12, h13]
  refine ⟨_, SemVs.refl _, ?_⟩
  simp (config := { maxSteps := 1000000 }) only [go_sem,↓reduceIte]
  exact ⟨by simp [pack], fun i hi => ⟨by (try simp only [upd]); (repeat rw [if_neg (by omega)]), by (try simp only [upd]); (repeat rw [if_neg (by omega)])⟩⟩

set_option maxHeartbeats 4000000 in
theorem atom_P {gr n fin : Nat} {ts : List Src.Tok} {t : Src.Tok} {g : Nat → Nat} {ob : Obs} (Ψ : Pan) (h : RdP gr ts n fin g ob) (hn : n ≤ 1000000) (ht : ts[n]? = some t) (hk : t.kind = 2) :
    FunX Tryz.prog 189 [.one (.ptr 125 gr 0)] g ob (fun r g' ob' => r = .agg [.d (.int .i64 1), .d (.int .i64 0), .d (.int .u32 (t.num : Nat)), .d (.str []), .d .nsl] ∧ FrP 8000 g ob g' ob' ∧ RdP gr ts (n + 1) fin g' ob') Ψ := by
  refine fun_of_wpX 8000 Tt_ok mixed Tryz.func189 rfl (by rfl) [.cell 2 225] rfl (by kernel_rfl) (by kernel_rfl) (by simp [Tryz.ntmps189]) fun b₀ β0 s0 w0 => ?_
  have hK : ∀ x y, RdP gr ts n fin (upd g 8002 x) (upd ob 8002 y) := fun x y => h.of (by simp [upd]) (by simp [upd])
  have hkn : kindN ts n = 2 := by unfold kindN; rw [ht]; exact hk
  simp (config := { maxSteps := 1000000 }) only [go_sem,↓reduceIte]
  refine hook_funF kept_phiT rfl (by simp (config := { maxSteps := 1000000 }) only [go_sem,↓reduceIte]; exact kind_P (hK _ _)) ?_
  rintro _ g1 ob1 ⟨rfl, rfl, rfl⟩
  simp (config := { maxSteps := 1000000 }) only [go_sem,↓reduceIte,hkn]
  refine hook_funX kept_phiT rfl (by simp (config := { maxSteps := 1000000 }) only [go_sem,↓reduceIte]; exact (take_P (kd := 2) (hK _ _) hn (by decide)).mono (fun _ _ _ h => h) (fun ch g' ob' h => absurd hkn h.1)) ?_
  rintro _ g1 ob1 ⟨t', ht', hk', rfl, f1, r1⟩
  obtain rfl : t = t' := by rw [ht] at ht'; cases ht'; rfl
  have hg := (f1 8002 (by decide)).1
  have ho := (f1 8002 (by decide)).2 (by decide)
  simp [upd] at hg ho
  unfold tokV tokC
  simp (config := { maxSteps := 1000000 }) only [go_sem,↓reduceIte,hg, ho]
  refine ⟨_, SemVs.refl _, ?_⟩
  simp (config := { maxSteps := 1000000 }) only [go_sem,↓reduceIte,hg]
  refine ⟨by simp [pack], fun i hi => ⟨?_, fun h5 => ?_⟩, r1.gen, ?_⟩
  · rw [(f1 i (by omega)).1]; simp only [upd]; (repeat rw [if_neg (by omega)])
  · simp only [upd]; rw [if_neg (by omega), (f1 i (by omega)).2 h5]; simp only [upd]; (repeat rw [if_neg (by omega)])
  · simp only [upd]; rw [if_neg (by decide)]; exact r1.obj

def zeroE : List C := [.d (.int .i64 0), .d (.int .i64 0), .d (.int .u32 0), .d (.str []), .d .nsl]
def numE (v : Nat) : List C := [.d (.int .i64 1), .d (.int .i64 0), .d (.int .u32 v), .d (.str []), .d .nsl]

set_option maxHeartbeats 4000000 in
theorem expr_P {gr n fin : Nat} {ts : List Src.Tok} {t : Src.Tok} {g : Nat → Nat} {ob : Obs} (Ψ : Pan) (h : RdP gr ts n fin g ob) (hn : n < 1000000) (ht : ts[n]? = some t) (hk : t.kind = 2) (hp : peekN ts (n + 1) = [41]) :
    FunX Tryz.prog 167 [.one (.ptr 125 gr 0), iv .i64 1] g ob (fun r g' ob' => r = .agg (numE t.num) ∧ FrP 7000 g ob g' ob' ∧ RdP gr ts (n + 1) fin g' ob') Ψ := by
  refine fun_of_wpX 7000 Tt_ok mixed Tryz.func167 rfl (by rfl) [.cell 4 225] rfl (by kernel_rfl) (by kernel_rfl) (by simp [Tryz.ntmps167]) fun b₀ β0 s0 w0 => ?_
  have hK : ∀ x y, RdP gr ts n fin (upd g 7004 x) (upd ob 7004 y) := fun x y => h.of (by simp [upd]) (by simp [upd])
  simp (config := { maxSteps := 1000000 }) only [go_sem,↓reduceIte]
  refine hook_funX kept_phiT rfl (by simp (config := { maxSteps := 1000000 }) only [go_sem,↓reduceIte]; exact atom_P _ (hK _ _) (by omega) ht hk) ?_
  rintro _ g1 ob1 ⟨rfl, f1, r1⟩
  simp (config := { maxSteps := 1000000 }) only [go_sem,↓reduceIte]
  refine loop_introF (fun m st => m = 0 ∧ st.f 0 = .one (.ptr 125 gr 0) ∧ st.f 1 = iv .i64 1 ∧ st.f 4 = .one (.ptr 7004 (nxC 226 (g 7004)) 0) ∧ st.f 5 = .one (.ptr 7005 (nxC 226 (g 7005)) 0) ∧ st.gen 7004 = nxC 226 (g 7004) ∧ st.gen 7005 = nxC 226 (g 7005) ∧ st.obj 7004 = some zeroE ∧ st.obj 7005 = some (numE t.num) ∧ FrP 7000 g ob st.gen st.obj ∧ RdP gr ts (n + 1) fin st.gen st.obj) 0 ?_ ?_
  · simp (config := { maxSteps := 1000000 }) only [go_sem,↓reduceIte]
    have e4 := (f1 7004 (by decide)).1
    have e5 := (f1 7005 (by decide)).1
    have o4 := (f1 7004 (by decide)).2 (by decide)
    simp [upd] at e4 e5 o4
    refine ⟨by rw [e5], e4, by rw [e5], o4, rfl, (((FrP.rfl'.new (by decide)).trans f1 (by decide)).new (by decide)).put (by decide), (r1.new (by decide)).put (by decide)⟩
  rintro m f g2 ob2 ⟨rfl, q0, q1, q4, q5, e4, e5, o4, o5, f2, r2⟩
  simp only at q0 q1 q4 q5 e4 e5 o4 o5 f2 r2
  simp (config := { maxSteps := 1000000 }) only [go_sem,↓reduceIte,q0]
  refine hook_funF kept_phiT rfl (by simp (config := { maxSteps := 1000000 }) only [go_sem,↓reduceIte]; exact peek_P r2) ?_
  rintro _ g3 ob3 ⟨rfl, f3⟩
  rw [hp]
  simp (config := { maxSteps := 1000000 }) only [go_sem,↓reduceIte]
  refine hook_funF kept_phiT rfl (by simp (config := { maxSteps := 1000000 }) only [go_sem,↓reduceIte]; exact sign_P) ?_
  rintro _ g4 ob4 ⟨rfl, f4⟩
  have F := ((may_fr f3).down (by decide : 8000 ≤ 9000)).trans (may_fr f4) (by decide)
  simp (config := { maxSteps := 1000000 }) only [go_sem,↓reduceIte,q0, q1, q4, q5]
  have e4' := ((F 7004 (by decide)).1).trans e4
  have e5' := ((F 7005 (by decide)).1).trans e5
  have o4' := ((F 7004 (by decide)).2 (by decide)).trans o4
  have o5' := ((F 7005 (by decide)).2 (by decide)).trans o5
  unfold numE at o5'
  unfold zeroE at o4'
  refine ⟨e5', ?_⟩
  simp (config := { maxSteps := 1000000 }) only [go_sem,↓reduceIte,q4, e4', e5', o4', o5']
  refine ⟨_, SemVs.refl _, ?_⟩
  simp (config := { maxSteps := 1000000 }) only [go_sem,↓reduceIte,q4, e4']
  exact ⟨by simp [pack, numE], (((f2.trans (F.down (by decide)) (Nat.le_refl _)).new (by decide)).put (by decide)).put (by decide), ((((r2.of (f3 125 (by decide)).1 (f3 125 (by decide)).2).of (f4 125 (by decide)).1 (f4 125 (by decide)).2).new (by decide)).put (by decide)).put (by decide)⟩

set_option maxHeartbeats 4000000 in
theorem round_P {gr n fin : Nat} {ts : List Src.Tok} {t : Src.Tok} {g : Nat → Nat} {ob : Obs} (Ψ : Pan) (h : RdP gr ts n fin g ob) (hn : n < 900000) (h1 : peekN ts n = [40]) (ht : ts[n + 1]? = some t) (hk : t.kind = 2) (hp : peekN ts (n + 2) = [41]) :
    FunX Tryz.prog 166 [.one (.ptr 125 gr 0)] g ob (fun r g' ob' => ∃ e, r = .one (.osl 6013 e 5 0 1) ∧ g' 6013 = e ∧ ob' 6013 = some (numE t.num) ∧ FrP 6000 g ob g' ob' ∧ RdP gr ts (n + 3) fin g' ob') Ψ := by
  refine fun_of_wpX 6000 Tt_ok mixed Tryz.func166 rfl (by rfl) [.tmp 2] rfl (by kernel_rfl) (by kernel_rfl) (by simp [Tryz.ntmps166]) fun b₀ β0 s0 w0 => ?_
  simp (config := { maxSteps := 1000000 }) only [go_sem,↓reduceIte]
  refine hook_funX kept_phiT rfl (by simp (config := { maxSteps := 1000000 }) only [go_sem,↓reduceIte]; exact (must_P (j := 6005) (s := [40]) (h.new (by decide)) (by omega) (by decide) (by decide) (by simp [upd])).mono (fun _ _ _ h => h) (fun ch g' ob' h => absurd h1 h.1)) ?_
  rintro _ g1 ob1 ⟨_, f1, r1⟩
  simp (config := { maxSteps := 1000000 }) only [go_sem,↓reduceIte]
  refine hook_funX kept_phiT rfl (by simp (config := { maxSteps := 1000000 }) only [go_sem,↓reduceIte]; exact expr_P _ r1 (by omega) ht hk hp) ?_
  rintro _ g2 ob2 ⟨rfl, f2, r2⟩
  have F2 := ((FrP.rfl'.new (by decide)).trans f1 (by decide : 6000 ≤ 8900)).trans f2 (by decide)
  unfold numE
  simp (config := { maxSteps := 1000000 }) only [go_sem,↓reduceIte]
  refine hook_funX kept_phiT rfl (by simp (config := { maxSteps := 1000000 }) only [go_sem,↓reduceIte]; exact (must_P (j := 6010) (s := [41]) (((r2.new (by decide)).put (by decide)).new (by decide)) (by omega) (by decide) (by decide) (by simp [upd])).mono (fun _ _ _ h => h) (fun ch g' ob' h => absurd hp h.1)) ?_
  rintro _ g3 ob3 ⟨_, f3, r3⟩
  have e3 := (f3 6003 (by decide)).1
  have o3 := (f3 6003 (by decide)).2 (by decide)
  simp [upd] at e3 o3
  simp (config := { maxSteps := 1000000 }) only [go_sem,↓reduceIte,e3, o3]
  refine ⟨_, SemVs.refl _, ?_⟩
  simp (config := { maxSteps := 1000000 }) only [go_sem,↓reduceIte]
  exact ⟨_, rfl, rfl, ((((F2.new (by decide)).put (by decide)).new (by decide)).trans f3 (by decide)).new (by decide), r3.new (by decide)⟩

set_option maxHeartbeats 4000000 in
/-- A statement that puts out, and is not ended. -/
theorem stmt_P {gr n fin : Nat} {ts : List Src.Tok} {t : Src.Tok} {g : Nat → Nat} {ob : Obs} (h : RdP gr ts n fin g ob) (hn : n < 800000) (h0 : peekN ts n = [112, 117, 116]) (h1 : peekN ts (n + 1) = [40]) (ht : ts[n + 2]? = some t) (hk : t.kind = 2) (hp : peekN ts (n + 3) = [41]) (hs : peekN ts (n + 4) ≠ [59]) :
    FunX Tryz.prog 126 [.one (.ptr 125 gr 0)] g ob (fun _ _ _ => False) (WrongP 5000 (failN ts fin (n + 4)) g ob) := by
  refine fun_of_wpX 5000 Tt_ok mixed Tryz.func126 rfl (by rfl) [.cell 2 198] rfl (by kernel_rfl) (by kernel_rfl) (by simp [Tryz.ntmps126]) fun b₀ β0 s0 w0 => ?_
  simp (config := { maxSteps := 1000000 }) only [go_sem,↓reduceIte]
  refine hook_funF kept_phiT rfl (by simp (config := { maxSteps := 1000000 }) only [go_sem,↓reduceIte]; exact may_P (h.new (by decide)) (by omega) [112, 117, 116]) ?_
  rintro _ g1 ob1 ⟨f1, ⟨_, rfl, r1⟩ | ⟨q, _⟩⟩
  case inr => exact absurd h0 q
  simp (config := { maxSteps := 1000000 }) only [go_sem,↓reduceIte]
  refine hook_funX kept_phiT rfl (by simp (config := { maxSteps := 1000000 }) only [go_sem,↓reduceIte]; exact round_P (n := n + 1) (t := t) _ r1 (by omega) h1 ht hk hp) ?_
  rintro _ g2 ob2 ⟨e, rfl, e2, o2, f2, r2⟩
  have F2 := ((FrP.rfl'.new (by decide)).trans f1 (by decide : 5000 ≤ 8900)).trans f2 (by decide)
  simp (config := { maxSteps := 1000000 }) only [go_sem,↓reduceIte]
  refine hook_funX kept_phiT rfl (by simp (config := { maxSteps := 1000000 }) only [go_sem,↓reduceIte]; exact (must_P (j := 5013) (s := [59]) (((r2.new (by decide)).put (by decide)).new (by decide)) (by omega) (by decide) (by decide) (by simp [upd])).mono (R' := fun _ _ _ => False) (fun _ _ _ h => hs h.1) (fun ch g' ob' h => h.2.from (((F2.new (by decide)).put (by decide)).new (by decide)) (by decide))) ?_
  exact fun _ _ _ h => h.elim

set_option maxHeartbeats 4000000 in
theorem stmts_P {gr n fin : Nat} {ts : List Src.Tok} {t : Src.Tok} {g : Nat → Nat} {ob : Obs} (h : RdP gr ts n fin g ob) (hn : n < 800000) (h0 : peekN ts n = [112, 117, 116]) (h1 : peekN ts (n + 1) = [40]) (ht : ts[n + 2]? = some t) (hk : t.kind = 2) (hp : peekN ts (n + 3) = [41]) (hs : peekN ts (n + 4) ≠ [59]) :
    FunX Tryz.prog 98 [.one (.ptr 125 gr 0)] g ob (fun _ _ _ => False) (WrongP 4000 (failN ts fin (n + 4)) g ob) := by
  refine fun_of_wpX 4000 Tt_ok mixed Tryz.func98 rfl (by rfl) [.tmp 2] rfl (by kernel_rfl) (by kernel_rfl) (by simp [Tryz.ntmps98]) fun b₀ β0 s0 w0 => ?_
  simp (config := { maxSteps := 1000000 }) only [go_sem,↓reduceIte]
  refine loop_introF (fun m st => m = 0 ∧ st.f 0 = .one (.ptr 125 gr 0) ∧ st.f 3 = .one (.d .nsl) ∧ st.gen = g ∧ st.obj = ob) 0 ?_ ?_
  · simp (config := { maxSteps := 1000000 }) only [go_sem,↓reduceIte]
  rintro m f g1 ob1 ⟨rfl, q0, q3, e, e'⟩
  simp only at q0 q3 e e'
  subst e e'
  simp (config := { maxSteps := 1000000 }) only [go_sem,↓reduceIte,q0]
  refine hook_funF kept_phiT rfl (by simp (config := { maxSteps := 1000000 }) only [go_sem,↓reduceIte]; exact may_P h (by omega) [125]) ?_
  rintro _ g2 ob2 ⟨f2, ⟨q, _⟩ | ⟨_, rfl, r2⟩⟩
  · rw [h0] at q; cases q
  simp (config := { maxSteps := 1000000 }) only [go_sem,↓reduceIte,q0, q3]
  refine hook_funX kept_phiT rfl (by simp (config := { maxSteps := 1000000 }) only [go_sem,↓reduceIte]; exact (stmt_P r2 hn h0 h1 ht hk hp hs).mono (fun _ _ _ h => h) (fun ch g' ob' h => h.from (f2.down (by decide)) (by decide))) ?_
  exact fun _ _ _ h => h.elim

end Go.Proofs.YtiaalcpkhlnpcabGreatDoor

namespace Go.Am
open Go.ChangeShapes Go.WideShapes Go.ChangeAt Go.RowKit
variable {H : Type} {enc : TypeId × Value → H}

theorem returns_of_law_laidX {C : Checked} {os : Os} {f : FuncId} {fn : Func} {s : ChangeSpec} {conds : List PathCond} {laid : List (String × DataW Unit)} (own : ownKnob C.prog.godebug = none) (started : os.Started) (noInit : C.prog.inits.idxOf? f = none) (hfn : C.prog.funcs[f]? = some fn)
    (witness : ∃ (w : World) (tape : Tape) (i : Input), w.os = os ∧ (w.forCall tape i).Shaped C.prog ∧ i.vars = [] ∧ Input.okWide C.prog (w.forCall tape i) .any w.heap.size f i ∧
      ((s.pre enc C.prog fn conds false (w.forCall tape i).memory i.args ∧ laidMetH C.prog laid (w.forCall tape i).memory) ∧ sizedMet enc C.prog fn (OpenSpec.ofChange s) false (w.forCall tape i).memory i.args) ∧ Assume.holds {} C.prog (lone (Frame.enter C.prog f i.args .normal) [] (w.forCall tape i)))
    (hvars : s.vars = []) (hl : laidOutB C.prog = true) (hts : fn.params.toList.all (fun t => C.prog.readableRec t && decide (t < C.prog.types.size)) = true) {tb : TypeId} (hres : fn.resultTypes = #[tb]) (htb : C.prog.underlying tb = some .bool)
    (hspec : ∀ ds : List (DataW H), ds.length = fn.params.toList.length → s.fn H ds = { results := [.lit (.bool true)], args := ds })
    (hcall : ∀ (W : World) (base : Nat) (args : Array Value) (ds : List (DataW H)) (ps : List MemPlace), laidMetH C.prog laid W → (∀ (j : Nat) t v, fn.params[j]? = some t → args[j]? = some v → Value.okWide C.prog W .any base t v) → DataW.TrodAll enc C.prog W 0 (fun _ => true) true fn.params.toList args.toList ds ps → (DataW.weightsEach C.prog fn.params.toList ds).all (· ≤ reachBytes) = true → SaysTrue C.prog f args W) :
    ReturnsInHanded {} C os f .any (fun w args => (s.pre enc C.prog fn conds false w args ∧ laidMetH C.prog laid w) ∧ sizedMet enc C.prog fn (OpenSpec.ofChange s) false w args) (s.post enc C.prog fn false true false false) := by
  refine returnsInHanded_of_change_and (X := fun w _ => laidMetH C.prog laid w) (fun _ _ _ hh h => h.of_heap hh) own started noInit hfn witness ?_
  intro W base args ds gs before hval hW hcnd hsz hX _
  have hW' := hW
  obtain ⟨p, q, hA, hV, rfl, hfz, hnd⟩ := hW
  rw [hvars] at hV
  obtain ⟨rfl, rfl⟩ := trodVars_none hV
  have hvt : s.plain.varTypes C.prog = [] := by simp [ChangeSpec.plain, DataSpec.varTypes, hvars]
  rw [hvt, List.append_nil, List.append_nil] at hsz
  refine (hcall W base args ds p hX hval hA hsz).mono fun e W' ⟨he, hs, hb, ho⟩ => ⟨_, he, ?_⟩
  have hlt : ∀ x ∈ p, x.block < W.heap.size := fun x hx => hW'.lt x (by simp [hx])
  have hsp : s.fn H (ds ++ []) = { results := [.lit (.bool true)], args := ds } := by rw [List.append_nil]; exact hspec ds (trodAll_len _ _ _ _ hA)
  refine ⟨ds, [], p ++ [], [], p, [], hW', ?_, ?_, ?_, kept_of hb ho _, fun h => by cases h⟩
  · rw [hsp, hres]
    exact trodAll_mk1 ⟨1, by simp [DataW.trod, htb, Value.cells]⟩
  · rw [hsp]
    exact trodAll_stays hl hb _ _ _ _ hts hlt hA
  · rw [hsp, hvars]
    exact rfl

theorem says_of_pureG {P : Program} {w : World} {gb : Nat} {o : Hold} (hG : Held gb o w) {f : FuncId} {args : List AV} (h : PureG P gb o f args (· = bv true)) {vs : List Value} (hv : RVs (fun b => b < w.heap.size) w args vs) : SaysTrue P f vs.toArray w := by
  refine (h.2 _ w vs hG (fun _ h => h) hv).mono fun e w' ⟨v, r, h1, h2, h3, h4, h5, h6⟩ => ⟨?_, h3, h4, h5⟩
  subst h2
  simp only [RV] at h6
  obtain ⟨x, hx, hr⟩ := h6
  cases hx
  cases hr
  exact h1

end Go.Am

namespace Go.Am

/-- A guard that holds. -/
def GuardOk (ops : Array Oper) (o : Oper) (s : St) : Prop := match o.guard with | none => True | some (j, w) => ∃ d, ((ops[j]?).bind (·.dst)) = some d ∧ s.f d = bv w
def GdE (ops : Array Oper) (e : Ent) (s : St) : Prop := match e.o.guard with | none => True | some (j, w) => ∃ d, ((ops[j]?).bind (·.dst)) = some d ∧ d ∈ e.rd ∧ s.f d = bv w
theorem GdE.ok {ops : Array Oper} {e : Ent} {s s' : St} (h : GdE ops e s) (hr : ∀ r ∈ e.rd, s'.f r = s.f r) : GuardOk ops e.o s' := by
  unfold GdE at h
  unfold GuardOk
  cases hg : e.o.guard with
  | none => trivial
  | some p =>
    obtain ⟨j, w⟩ := p
    rw [hg] at h
    obtain ⟨d, h1, h2, h3⟩ := h
    exact ⟨d, h1, by rw [hr d h2]; exact h3⟩
def StepG (S : Sp) (T : Nat → TI) (ops : Array Oper) (ids : List Nat) (e : Ent) (s : St) (v : AV) (m : List (Nat × Option (List C))) : Prop := StepE S T ids e s v m ∧ GdE ops e s
def LastG (S : Sp) (T : Nat → TI) (ops : Array Oper) (e : Ent) (s : St) (K : St → Prop) : Prop := LastE S T e.o s K ∧ GdE ops e s

def wpDetG (S : Sp) (T : Nat → TI) (ops : Array Oper) (ids : List Nat) : List Ent → St → {K : St → Prop} → Box K → Prop
  | [], s, K, _ => K s
  | e :: r, s, K, k => match e.full with
    | true => LastG S T ops e s K
    | false => ∃ v m, (m.length = e.ef.length ∧ StepG S T ops ids e s v m) ∧ wpDetG S T ops ids r (effS ids e v m s) k

theorem det_traceG {S : Sp} {T : Nat → TI} {ops : Array Oper} {ids : List Nat} {K : St → Prop} {k : Box K} : ∀ (l : List Ent) (s : St), wpDetG S T ops ids l s k → (∀ i e, l[i]? = some e → e.full = true → i + 1 = l.length) →
    ∃ t : Nat → St, t 0 = s ∧ (∀ i e, l[i]? = some e → e.full = false → ∃ v m, (m.length = e.ef.length ∧ StepG S T ops ids e (t i) v m) ∧ t (i + 1) = effS ids e v m (t i)) ∧ (∀ i e, l[i]? = some e → e.full = true → LastG S T ops e (t i) K) ∧
      ((∀ (i : Nat) (e : Ent), l[i]? = some e → e.full = false) → K (t l.length))
  | [], s, h, _ => ⟨fun _ => s, rfl, fun i e hi => (by simp at hi), fun i e hi => (by simp at hi), fun _ => h⟩
  | e :: r, s, h, hl => by
    unfold wpDetG at h
    cases hf : e.full with
    | true =>
      rw [hf] at h
      have h0 := hl 0 e rfl hf
      have : r = [] := List.eq_nil_of_length_eq_zero (by simpa using h0)
      subst this
      refine ⟨fun _ => s, rfl, fun i e' hi hf' => ?_, fun i e' hi _ => ?_, fun ha => ?_⟩
      · cases i with
        | zero => simp at hi; subst hi; rw [hf] at hf'; cases hf'
        | succ i => simp at hi
      · cases i with
        | zero => simp at hi; subst hi; exact h
        | succ i => simp at hi
      · have := ha 0 e rfl; rw [hf] at this; cases this
    | false =>
      rw [hf] at h
      obtain ⟨v, m, hs, hr⟩ := h
      obtain ⟨t, t0, t1, t2, t3⟩ := det_traceG r _ hr (fun i e' hi hf' => by have := hl (i + 1) e' (by simpa using hi) hf'; simpa using this)
      refine ⟨fun i => match i with | 0 => s | i + 1 => t i, rfl, fun i e' hi hf' => ?_, fun i e' hi hf' => ?_, fun ha => ?_⟩
      · cases i with
        | zero => simp at hi; subst hi; exact ⟨v, m, hs, t0⟩
        | succ i => exact t1 i e' (by simpa using hi) hf'
      · cases i with
        | zero => simp at hi; subst hi; rw [hf] at hf'; cases hf'
        | succ i => exact t2 i e' (by simpa using hi) hf'
      · exact t3 (fun i e' hi => ha (i + 1) e' (by rw [List.getElem?_cons_succ]; exact hi))


def okDetTG (ops : Array Oper) (tb : List (List Nat × List Nat × List Nat × Bool)) (nid : Nat) (tab : List (List Nat)) : Bool :=
  backB ops && clOk ops tab && (tb.length == ops.size) &&
  (List.range ops.size).all fun i => (((ops[i]?).bind fun o => (tb[i]?).map fun t =>
    (t.1.all fun r => (List.range ops.size).all fun j => inCl tab i j || ((ops[j]?).map fun o' => decide (o'.dst ≠ some r)).getD false) &&
    ((List.range ops.size).all fun j => i == j || ((ops[j]?).map fun o' => o'.dst.isNone || decide (o'.dst ≠ o.dst)).getD false) &&
    ((List.range nid).all fun a => t.2.1.contains a || (List.range ops.size).all fun j => inCl tab i j || inCl tab j i || i == j || ((tb[j]?).map fun t' => !t'.2.2.1.contains a).getD false) &&
    (t.2.1.all fun a => decide (a < nid)) && (t.2.2.1.all fun a => decide (a < nid)) && (t.2.2.1.all fun a => (List.range ops.size).all fun j => inCl tab i j || inCl tab j i || i == j || ((tb[j]?).map fun t' => !t'.2.2.1.contains a).getD false) &&
    (!t.2.2.2 || (i + 1 == ops.size && (List.range i).all fun j => inCl tab i j))).getD false)

def okDetG (ops : Array Oper) (tb : List (List Nat × List Nat × List Nat × Bool)) (nid : Nat) : Bool := okDetTG ops tb nid (clTab ops)

section
variable {P : Program} {T : Nat → TI} {b₀ : Bs} {β : Loc} {w : World}
theorem det_invG {S : Sp} {ops : Array Oper} {s : St} {Q : Exit → St → Prop} (ids : List Nat) (tb : List (List Nat × List Nat × List Nat × Bool)) (nid : Nat) (hok : okDetG ops tb nid = true) (hnid : ids.length = nid) (hnd : ids.Nodup)
    (h : wpDetG S T ops ids (zipE ops.toList tb) s (bx fun s' => Q .normal s')) : backB ops = true ∧ ∃ I : (Nat → Bool) → St → Prop, I (fun _ => false) s ∧
      (∀ (L : Nat → Bool) (s : St) (i : Nat) (o : Oper), I L s → ops[i]? = some o → L i = false → (∀ e ∈ o.after.toList, Region.binds .any e = true → L e.on = true) →
        (∀ j o', L j = true → ops[j]? = some o' → ∀ e ∈ o'.after.toList, Region.binds .any e = true → L e.on = true) → GuardOk ops o s ∧ opA S T o s (bx fun s' => I (upd L i true) s')) ∧
      (∀ L s', I L s' → (∀ i, i < ops.size → L i = true) → Q .normal s') := by
  subst hnid
  unfold okDetG okDetTG at hok
  generalize clTab ops = tab at hok
  simp only [Bool.and_eq_true, beq_iff_eq] at hok
  obtain ⟨⟨⟨hbk, hcl⟩, htl⟩, hall⟩ := hok
  have hzl : (zipE ops.toList tb).length = ops.size := by rw [zipE_len (by simpa using htl)]; simp
  have hent : ∀ i, i < ops.size → ∃ e, (zipE ops.toList tb)[i]? = some e ∧ ops[i]? = some e.o ∧ tb[i]? = some (e.rd, e.hd, e.ef, e.full) := fun i hi => by
    have h1 : i < (zipE ops.toList tb).length := by omega
    refine ⟨_, List.getElem?_eq_getElem h1, ?_⟩
    have := zipE_get (List.getElem?_eq_getElem h1)
    simpa using this
  have hinj : ∀ a b, a < ids.length → b < ids.length → ids.getD a 0 = ids.getD b 0 → a = b := fun a b ha hb e => by
    rw [List.getD_eq_getElem?_getD, List.getD_eq_getElem?_getD, List.getElem?_eq_getElem ha, List.getElem?_eq_getElem hb] at e
    simp only [Option.getD_some] at e
    exact (List.getElem_inj hnd).1 e
  -- the checks, by operation
  have hchk : ∀ (i : Nat) (e : Ent), i < ops.size → ops[i]? = some e.o → tb[i]? = some (e.rd, e.hd, e.ef, e.full) →
      (∀ r ∈ e.rd, ∀ (j : Nat) (e' : Oper), j < ops.size → ops[j]? = some e' → e'.dst = some r → inCl tab i j = true) ∧
      (∀ (j : Nat) (o' : Oper), j < ops.size → j ≠ i → ops[j]? = some o' → o'.dst = none ∨ o'.dst ≠ e.o.dst) ∧
      (∀ a, a < ids.length → a ∉ e.hd → ∀ j t', j < ops.size → tb[j]? = some t' → a ∈ t'.2.2.1 → inCl tab i j = true ∨ inCl tab j i = true ∨ i = j) ∧
      (∀ a ∈ e.hd, a < ids.length) ∧ (∀ a ∈ e.ef, a < ids.length) ∧
      (∀ a ∈ e.ef, ∀ j t', j < ops.size → tb[j]? = some t' → a ∈ t'.2.2.1 → inCl tab i j = true ∨ inCl tab j i = true ∨ i = j) ∧
      (e.full = true → i + 1 = ops.size ∧ ∀ j, j < i → inCl tab i j = true) := by
    intro i e hi ho ht
    have h1 := List.all_eq_true.1 hall i (List.mem_range.2 hi)
    rw [ho, ht] at h1
    simp only [Option.bind_some, Option.map_some, Option.getD_some, Bool.and_eq_true] at h1
    obtain ⟨⟨⟨⟨⟨⟨c1, c2⟩, c3⟩, c4⟩, c5⟩, c6⟩, c7⟩ := h1
    refine ⟨fun r hr j o' hj hoj hd => ?_, fun j o' hj hne hoj => ?_, fun a ha hna j t' hj htj hat => ?_, fun a ha => ?_, fun a ha => ?_, fun a ha j t' hj htj hat => ?_, fun hf => ?_⟩
    · have := List.all_eq_true.1 (List.all_eq_true.1 c1 r hr) j (List.mem_range.2 hj)
      rw [hoj] at this
      simp only [Option.map_some, Option.getD_some, Bool.or_eq_true, decide_eq_true_eq] at this
      rcases this with h | h
      · exact h
      · exact absurd hd h
    · have := List.all_eq_true.1 c2 j (List.mem_range.2 hj)
      rw [hoj] at this
      simp only [Option.map_some, Option.getD_some, Bool.or_eq_true, decide_eq_true_eq, beq_iff_eq, Option.isNone_iff_eq_none] at this
      rcases this with h | h | h
      · exact absurd h.symm hne
      · exact .inl h
      · exact .inr h
    · have := List.all_eq_true.1 c3 a (List.mem_range.2 ha)
      simp only [Bool.or_eq_true, List.contains_iff_mem, List.all_eq_true, List.mem_range] at this
      rcases this with h | h
      · exact absurd h hna
      · have := h j hj
        rw [htj] at this
        simp only [Option.map_some, Option.getD_some, beq_iff_eq, Bool.not_eq_true'] at this
        rcases this with ((h | h) | h) | h
        · exact .inl h
        · exact .inr (.inl h)
        · exact .inr (.inr h)
        · rw [List.contains_iff_mem.2 hat] at h; cases h
    · exact of_decide_eq_true (List.all_eq_true.1 c4 a ha)
    · exact of_decide_eq_true (List.all_eq_true.1 c5 a ha)
    · have := List.all_eq_true.1 (List.all_eq_true.1 c6 a ha) j (List.mem_range.2 hj)
      rw [htj] at this
      simp only [Option.map_some, Option.getD_some, Bool.or_eq_true, beq_iff_eq, Bool.not_eq_true'] at this
      rcases this with ((h | h) | h) | h
      · exact .inl h
      · exact .inr (.inl h)
      · exact .inr (.inr h)
      · rw [List.contains_iff_mem.2 hat] at h; cases h
    · rw [hf] at c7
      simp only [Bool.not_true, Bool.false_or, Bool.and_eq_true, beq_iff_eq, List.all_eq_true, List.mem_range] at c7
      exact c7
  have hfull : ∀ (i : Nat) (e : Ent), (zipE ops.toList tb)[i]? = some e → e.full = true → i + 1 = (zipE ops.toList tb).length := fun i e hi hf => by
    have hlt : i < ops.size := by rw [← hzl]; exact (List.getElem?_eq_some_iff.1 hi).1
    have h2 := zipE_get hi
    rw [hzl]
    exact ((hchk i e hlt (by simpa using h2.1) h2.2).2.2.2.2.2.2 hf).1
  obtain ⟨t, t0, t1, t2, t3⟩ := det_traceG _ _ h hfull
  let dst : Nat → Option Nat := fun i => (ops[i]?).bind (·.dst)
  let ef : Nat → List Nat := fun i => ((tb[i]?).map (·.2.2.1)).getD []
  -- how the trace goes
  have tf : ∀ (i : Nat) (e : Ent), i < ops.size → (zipE ops.toList tb)[i]? = some e → e.full = false → ∀ d, dst i ≠ some d → (t (i + 1)).f d = (t i).f d := fun i e hi he hf d hd => by
    obtain ⟨v, m, _, h2⟩ := t1 i e he hf
    rw [h2]
    have h3 : ops[i]? = some e.o := by simpa using (zipE_get he).1
    simp only [dst, h3, Option.bind_some] at hd
    simp only [effS]
    cases hq : e.o.dst with
    | none => rfl
    | some d' => simp only [putF, upd]; rw [if_neg (fun e' => hd (by rw [hq, e']))]
  have tm : ∀ (i : Nat) (e : Ent), i < ops.size → (zipE ops.toList tb)[i]? = some e → e.full = false → ∀ id, (∀ a ∈ ef i, ids.getD a 0 ≠ id) → (t (i + 1)).gen id = (t i).gen id ∧ (t (i + 1)).obj id = (t i).obj id := fun i e hi he hf id hd => by
    obtain ⟨v, m, _, h2⟩ := t1 i e he hf
    rw [h2]
    have h3 := (zipE_get he).2
    simp only [ef, h3, Option.map_some, Option.getD_some] at hd
    simp only [effS]
    exact ⟨setm_other hd, setm_other hd⟩
  -- how many are walked by themselves
  obtain ⟨N, hN, hNf, hNl⟩ : ∃ N, N ≤ ops.size ∧ (∀ (i : Nat) (e : Ent), i < N → (zipE ops.toList tb)[i]? = some e → e.full = false) ∧ (N = ops.size ∨ (N + 1 = ops.size ∧ ∃ e, (zipE ops.toList tb)[N]? = some e ∧ e.full = true)) := by
    by_cases hlast : ∃ (i : Nat) (e : Ent), (zipE ops.toList tb)[i]? = some e ∧ e.full = true
    · obtain ⟨i, e, he, hf⟩ := hlast
      have h1 := hfull i e he hf
      rw [hzl] at h1
      refine ⟨i, by omega, fun j e' hj hj' => ?_, .inr ⟨h1, e, he, hf⟩⟩
      cases hq : e'.full with
      | false => rfl
      | true => have := hfull j e' hj' hq; rw [hzl] at this; omega
    · refine ⟨ops.size, Nat.le_refl _, fun j e' hj hj' => ?_, .inl rfl⟩
      cases hq : e'.full with
      | false => rfl
      | true => exact absurd ⟨j, e', hj', hq⟩ hlast
  have tfs : ∀ (d k i : Nat), i ≤ k → k ≤ N → (∀ j, i ≤ j → j < k → dst j ≠ some d) → (t k).f d = (t i).f d := by
    intro d k
    induction k with
    | zero => intro i hi _ _; rw [show i = 0 by omega]
    | succ k ih =>
      intro i hi hk hd
      by_cases hik : i = k + 1
      · subst hik; rfl
      · obtain ⟨e, he, _, _⟩ := hent k (by omega)
        rw [tf k e (by omega) he (hNf k e (by omega) he) d (hd k (by omega) (by omega))]
        exact ih i (by omega) (by omega) (fun j h1 h2 => hd j h1 (by omega))
  have tms : ∀ (id k i : Nat), i ≤ k → k ≤ N → (∀ j, i ≤ j → j < k → ∀ a ∈ ef j, ids.getD a 0 ≠ id) → (t k).gen id = (t i).gen id ∧ (t k).obj id = (t i).obj id := by
    intro id k
    induction k with
    | zero => intro i hi _ _; rw [show i = 0 by omega]; exact ⟨rfl, rfl⟩
    | succ k ih =>
      intro i hi hk hd
      by_cases hik : i = k + 1
      · subst hik; exact ⟨rfl, rfl⟩
      · obtain ⟨e, he, _, _⟩ := hent k (by omega)
        obtain ⟨m1, m2⟩ := tm k e (by omega) he (hNf k e (by omega) he) id (hd k (by omega) (by omega))
        rw [m1, m2]
        exact ih i (by omega) (by omega) (fun j h1 h2 => hd j h1 (by omega))
  have hdist : ∀ (i j d : Nat), i < ops.size → j < ops.size → dst i = some d → dst j = some d → i = j := fun i j d hi hj h1 h2 => by
    rcases Nat.lt_or_ge i j with hij | hij
    · exfalso
      obtain ⟨e, he, ho, htb⟩ := hent i hi
      obtain ⟨e', he', ho', htb'⟩ := hent j hj
      simp only [dst, ho, ho', Option.bind_some] at h1 h2
      rcases (hchk i e hi ho htb).2.1 j e'.o hj (by omega) ho' with h | h
      · rw [h] at h2; cases h2
      · exact h (by rw [h1, h2])
    · rcases Nat.lt_or_ge j i with hji | hji
      · exfalso
        obtain ⟨e, he, ho, htb⟩ := hent i hi
        obtain ⟨e', he', ho', htb'⟩ := hent j hj
        simp only [dst, ho, ho', Option.bind_some] at h1 h2
        rcases (hchk i e hi ho htb).2.1 j e'.o hj (by omega) ho' with h | h
        · rw [h] at h2; cases h2
        · exact h (by rw [h1, h2])
      · omega
  -- where all have come up, it is the text's state
  have hsame : ∀ (k : Nat) (L : Nat → Bool) (s' : St), k = N → (∀ i, i < k → L i = true) → DetI N dst ef ids t L s' → s' = t k := by
    rintro k L ⟨f', g', o'⟩ rfl hL hI
    have h1 : f' = (t k).f := by
      funext d
      by_cases hd : ∃ i, i < k ∧ dst i = some d
      · obtain ⟨i, hi, hd⟩ := hd
        rw [show f' d = _ from hI.f i d hi hd (hL i hi)]
        exact (tfs d k (i + 1) (by omega) (Nat.le_refl _) (fun j h1 h2 h3 => by have := hdist i j d (by omega) (by omega) hd h3; omega)).symm
      · have h0 : ∀ i, i < k → dst i ≠ some d := fun i hi h => hd ⟨i, hi, h⟩
        rw [show f' d = _ from hI.f0 d h0]
        exact (tfs d k 0 (by omega) (Nat.le_refl _) (fun j _ h2 => h0 j h2)).symm
    have h2 : g' = (t k).gen := funext fun id => (hI.m id k (Nat.le_refl _) (fun j a hj _ _ => ⟨fun _ => hj, fun _ => hL j hj⟩)).1
    have h3 : o' = (t k).obj := funext fun id => (hI.m id k (Nat.le_refl _) (fun j a hj _ _ => ⟨fun _ => hj, fun _ => hL j hj⟩)).2
    rw [h1, h2, h3]
  refine ⟨hbk, fun L s' => (N < ops.size → L N = true → Q .normal s') ∧ ((N < ops.size → L N = false) → DetI N dst ef ids t L s'), ?_, ?_, ?_⟩
  · refine ⟨fun _ h => (by cases h), fun _ => ⟨fun i d _ _ h => (by cases h), fun d _ => by rw [t0], fun id k hk hc => ?_⟩⟩
    have := tms id k 0 (by omega) hk (fun j _ hj a ha e => by have := (hc j a (by omega) ha e).2 hj; cases this)
    rw [this.1, this.2, t0]
    exact ⟨rfl, rfl⟩
  · intro L s' i o hI ho hL hdep hid
    have hi := (Array.getElem?_eq_some_iff.1 ho).1
    obtain ⟨e, he, ho', htb⟩ := hent i hi
    obtain rfl : o = e.o := by rw [ho] at ho'; cases ho'; rfl
    have hcls := cl_listed hcl hid i e.o ho hdep
    have hck := hchk i e hi ho htb
    by_cases hiN : i < N
    · have hLN : N < ops.size → L N = false := fun hlt => by
        cases hq : L N with
        | false => rfl
        | true =>
          exfalso
          rcases hNl with h | ⟨h, e2, he2, hf2⟩
          · omega
          · have hz := zipE_get he2
            have ho2 : ops[N]? = some e2.o := by simpa using hz.1
            have := (hchk N e2 hlt ho2 hz.2).2.2.2.2.2.2 hf2
            have h3 := cl_listed hcl hid N e2.o ho2 (fun e' he' hb' => hid N _ hq ho2 e' he' hb') i (this.2 i hiN)
            rw [hL] at h3
            exact absurd h3.1 (by simp)
      have hD := hI.2 hLN
      obtain ⟨v, m, ⟨hml, hst, hgd⟩, hn⟩ := t1 i e he (hNf i e hiN he)
      have hr1 : ∀ r ∈ e.rd, s'.f r = (t i).f r := fun r hr => by
        by_cases hd : ∃ j, j < N ∧ dst j = some r
        · obtain ⟨j, hj, hd⟩ := hd
          obtain ⟨e2, he2, ho2, _⟩ := hent j (by omega)
          have hd2 : e2.o.dst = some r := by simpa [dst, ho2] using hd
          obtain ⟨hLj, hji⟩ := hcls j (hck.1 r hr j e2.o (by omega) ho2 hd2)
          rw [hD.f j r hj hd hLj]
          exact (tfs r i (j + 1) (by omega) (by omega) (fun k h1 h2 h3 => by have := hdist j k r (by omega) (by omega) hd h3; omega)).symm
        · have h0 : ∀ j, j < N → dst j ≠ some r := fun j hj h => hd ⟨j, hj, h⟩
          rw [hD.f0 r h0]
          exact (tfs r i 0 (by omega) (by omega) (fun j _ h2 => h0 j (by omega))).symm
      have r1 : maskf e.rd (t i).f s'.f = s'.f := maskf_same hr1
      have hvis : ∀ id, (∀ a ∈ e.hd, ids.getD a 0 ≠ id) → s'.gen id = (t i).gen id ∧ s'.obj id = (t i).obj id := fun id hv => by
        refine hD.m id i (by omega) (fun j a hj ha hai => ?_)
        obtain ⟨e2, he2, ho2, htb2⟩ := hent j (by omega)
        have ha2 : a ∈ e2.ef := by simpa [ef, htb2] using ha
        have halt : a < ids.length := (hchk j e2 (by omega) ho2 htb2).2.2.2.2.1 a ha2
        rcases hck.2.2.1 a halt (fun h => hv a h hai) j _ (by omega) htb2 ha2 with h | h | h
        · have := hcls j h
          exact ⟨fun _ => this.2, fun _ => this.1⟩
        · constructor
          · intro hLj
            have := cl_listed hcl hid j e2.o ho2 (fun e' he' hb' => hid j _ hLj ho2 e' he' hb') i h
            rw [hL] at this
            exact absurd this.1 (by simp)
          · intro hji
            exfalso
            have h1 := List.all_eq_true.1 hcl j (List.mem_range.2 (by omega))
            have h2 := List.all_eq_true.1 h1 i (by simpa [inCl] using h)
            simp only [Bool.and_eq_true, decide_eq_true_eq] at h2
            omega
        · subst h
          rw [hL]
          exact ⟨fun h => (by cases h), fun h => (by omega)⟩
      have r2 : maskm ids e.hd (t i).gen s'.gen = s'.gen := maskm_same fun id hv => (hvis id hv).1
      have r3 : maskm ids e.hd (t i).obj s'.obj = s'.obj := maskm_same fun id hv => (hvis id hv).2
      have h1 := hst s'.f s'.gen s'.obj
      rw [r1, r2, r3] at h1
      refine ⟨hgd.ok hr1, h1 _ ?_⟩
      refine ⟨fun hlt h => ?_, fun _ => ⟨fun j d hj hd hLj => ?_, fun d hd => ?_, fun id k hk hc => ?_⟩⟩
      · simp only [upd] at h
        rw [if_neg (by omega), hLN hlt] at h
        cases h
      · simp only [upd] at hLj
        by_cases hji : j = i
        · subst hji
          have hd2 : e.o.dst = some d := by simpa [dst, ho] using hd
          rw [hn]
          simp only [effS, hd2, putF, upd, if_true]
        · rw [if_neg hji] at hLj
          have hne : e.o.dst ≠ some d := fun h => hji (hdist j i d (by omega) hi hd (by simpa [dst, ho] using h))
          rw [← hD.f j d hj hd hLj]
          simp only [effS]
          cases hq : e.o.dst with
          | none => rfl
          | some d' => simp only [putF, upd]; rw [if_neg (fun e' => hne (by rw [hq, e']))]
      · rw [← hD.f0 d hd]
        have hne : e.o.dst ≠ some d := fun h => hd i hiN (by simpa [dst, ho] using h)
        simp only [effS]
        cases hq : e.o.dst with
        | none => rfl
        | some d' => simp only [putF, upd]; rw [if_neg (fun e' => hne (by rw [hq, e']))]
      · have hef : ef i = e.ef := by simp [ef, htb]
        by_cases hmine : ∃ a ∈ e.ef, ids.getD a 0 = id
        · obtain ⟨a, ha, hai⟩ := hmine
          have hik : i < k := (hc i a hiN (by rw [hef]; exact ha) hai).1 (by simp [upd])
          have halt := hck.2.2.2.2.1 a ha
          have := tms id k (i + 1) (by omega) hk (fun j h1 h2 b hb hbi => by
            obtain ⟨e2, he2, ho2, htb2⟩ := hent j (by omega)
            have hb2 : b ∈ e2.ef := by simpa [ef, htb2] using hb
            have hblt := (hchk j e2 (by omega) ho2 htb2).2.2.2.2.1 b hb2
            obtain rfl : a = b := hinj a b halt hblt (by rw [hai, hbi])
            have hLj : L j = true := by
              have := (hc j a (by omega) hb hbi).2 h2
              simp only [upd] at this
              rwa [if_neg (by omega)] at this
            rcases hck.2.2.2.2.2.1 a ha j _ (by omega) htb2 hb2 with h | h | h
            · have := (hcls j h).2; omega
            · have := cl_listed hcl hid j e2.o ho2 (fun e' he' hb' => hid j _ hLj ho2 e' he' hb') i h
              rw [hL] at this
              exact absurd this.1 (by simp)
            · omega)
          rw [this.1, this.2, hn]
          simp only [effS]
          exact ⟨setm_mine (by simpa using hml) ⟨a, ha, hai⟩, setm_mine (by simpa using hml) ⟨a, ha, hai⟩⟩
        · have hno : ∀ a ∈ e.ef, ids.getD a 0 ≠ id := fun a ha h => hmine ⟨a, ha, h⟩
          simp only [effS]
          rw [setm_other hno, setm_other hno]
          refine hD.m id k hk (fun j a hj ha hai => ?_)
          have hji : j ≠ i := fun h => by subst h; rw [hef] at ha; exact hno a ha hai
          have := hc j a hj ha hai
          simp only [upd] at this
          rwa [if_neg hji] at this
    · have hiN' : i = N := by
        rcases hNl with h | ⟨h, _⟩ <;> omega
      subst hiN'
      rcases hNl with h | ⟨h, e2, he2, hf2⟩
      · omega
      · obtain rfl : e = e2 := by rw [he] at he2; cases he2; rfl
        have hD := hI.2 (fun _ => hL)
        have hall2 : ∀ j, j < i → L j = true := fun j hj => (hcls j ((hck.2.2.2.2.2.2 hf2).2 j hj)).1
        rw [hsame i L s' rfl hall2 hD]
        obtain ⟨hla, hgd⟩ := t2 i e he hf2
        refine ⟨hgd.ok fun _ _ => rfl, hla _ (fun s'' hs => ?_)⟩
        exact ⟨fun _ _ => hs, fun hh => by have := hh hi; simp [upd] at this⟩
  · intro L s' hI hL
    rcases hNl with h | ⟨h, _⟩
    · subst h
      have hD := hI.2 (fun h => absurd h (by omega))
      have h1 := t3 (fun i e he => hNf i e (by rw [← hzl]; exact (List.getElem?_eq_some_iff.1 he).1) he)
      rw [hzl] at h1
      rw [hsame _ L s' rfl hL hD]
      exact h1
    · exact hI.1 (by omega) (hL N (by omega))


end

section
variable {P : Program} {T : Nat → TI} {b₀ : Bs} {w : World} {rd : Option Nat} {Φ : St → Loc → List Deferred → World → Prop} {Ψ : PanF}
theorem wpAny_ofG {hT : TabOk P T} (hΦ : KeptTr b₀ Φ) {B N : Nat} {ops : Array Oper} {ds : List Deferred} {Q : Exit → Act → World → Prop} (hnd : ops.toList.all noDefer = true) (hds : dstsOk N ops.toList = true) (I : (Nat → Bool) → St → Prop)
    (hstep : ∀ (L : Nat → Bool) (s : St) (i : Nat) (o : Oper), I L s → ops[i]? = some o → L i = false → (∀ e ∈ o.after.toList, Region.binds .any e = true → L e.on = true) →
      (∀ j o', L j = true → ops[j]? = some o' → ∀ e ∈ o'.after.toList, Region.binds .any e = true → L e.on = true) → GuardOk ops o s ∧ opA (spF P rd b₀ Φ B Ψ) T o s (bx fun s' => I (upd L i true) s')) :
    ∀ (fuel : Nat) (listed : Array Bool) {s : St} {β : Loc} {a : Act} {w : World}, listed.size = ops.size → listed.toList.count false ≤ fuel → Rel b₀ N s β a w → Φ s β ds w → I (fun i => listed.getD i false) s →
      (∀ j o', listed.getD j false = true → ops[j]? = some o' → ∀ e ∈ o'.after.toList, Region.binds .any e = true → listed.getD e.on false = true) →
      (∀ L s' β' a' w', I L s' → Rel b₀ N s' β' a' w' → Φ s' β' ds w' → (∃ listed', L = (fun i => listed'.getD i false) ∧ listed'.size = ops.size ∧ Region.ready .any ops listed' = []) → Q .normal { a' with defers := ds } w') →
      (∀ ch s' β' a' w', Ψ ch s' → Rel b₀ N s' β' a' w' → Φ s' β' ds w' → Q (.panic ch) { a' with defers := ds } w') →
      wpAnyIn (fen rd) 0 P .any ops Q fuel listed { a with defers := ds } w
  | 0, listed, s, β, a, w, hsz, hc, hr, hφ, hI, hid, hQ, hX => by
    have hall : ∀ i, i < ops.size → listed.getD i true = true := fun i hi => by
      have hnf : false ∉ listed.toList := fun h => by
        have := List.count_pos_iff.2 h; omega
      rw [Array.getD_eq_getD_getElem?, Array.getElem?_eq_getElem (by omega)]
      simp only [Option.getD_some]
      cases hq : listed[i]'(by omega) with
      | true => rfl
      | false => exact absurd (hq ▸ Array.mem_toList_iff.2 (Array.getElem_mem (by omega))) hnf
    have hrd : Region.ready .any ops listed = [] := by
      unfold Region.ready
      rw [List.filter_eq_nil_iff]
      intro i hi
      simp [hall i (List.mem_range.1 hi)]
    exact ⟨hrd, hQ _ s β a w hI hr hφ ⟨listed, rfl, hsz, hrd⟩⟩
  | fuel + 1, listed, s, β, a, w, hsz, hc, hr, hφ, hI, hid, hQ, hX => by
    refine ⟨fun hrd => hQ _ s β a w hI hr hφ ⟨listed, rfl, hsz, hrd⟩, fun i hi => ?_⟩
    unfold Region.ready at hi
    simp only [List.mem_filter, List.mem_range, Bool.and_eq_true, Bool.not_eq_true'] at hi
    obtain ⟨hi1, hi2, hi3⟩ := hi
    have ho : ops[i]? = some ops[i] := Array.getElem?_eq_getElem hi1
    rw [ho] at hi3
    simp only [Option.map_some, Option.getD_some, Array.all_eq_true', Bool.or_eq_true, Bool.not_eq_true'] at hi3
    have hli : listed[i]? = some false := by
      rw [Array.getD_eq_getD_getElem?, Array.getElem?_eq_getElem (by omega)] at hi2
      rw [Array.getElem?_eq_getElem (by omega)]
      simpa using hi2
    have hL : listed.getD i false = false := by rw [Array.getD_eq_getD_getElem?, hli]; rfl
    have hedge : ∀ e ∈ ops[i].after.toList, Region.binds .any e = true → listed.getD e.on false = true := fun e he hb => by
      rcases hi3 e (by simpa using he) with h | h
      · rw [hb] at h; cases h
      · exact h
    obtain ⟨hgd, hst⟩ := hstep _ s i ops[i] hI ho hL hedge hid
    have hgi : Region.wanted ops[i] (yielded ops a.tmps) = true := by
      unfold GuardOk at hgd
      cases hg : (ops[i]).guard with
      | none => simp [Region.wanted, hg]
      | some p =>
        obtain ⟨j, want⟩ := p
        rw [hg] at hgd
        obtain ⟨d, hj, hb⟩ := hgd
        have hy := hr.yielded hj hb
        simp [Region.wanted, hg, hy]
    have hdi : ∀ d, (ops[i]).dst = some d → d < N := fun d hd => by
      have := List.all_eq_true.1 hds ops[i] (Array.getElem_mem_toList hi1)
      rw [hd] at this
      simpa using this
    have hni : noDefer ops[i] = true := List.all_eq_true.1 hnd ops[i] (Array.getElem_mem_toList hi1)
    unfold wpOpIn
    rw [ho]
    simp only
    rw [if_pos hgi]
    have hset : (fun j => (listed.setIfInBounds i true).getD j false) = upd (fun j => listed.getD j false) i true := by
      funext j
      simp only [upd, Array.getD_eq_getD_getElem?, Array.getElem?_setIfInBounds]
      by_cases hj : i = j
      · subst hj; simp [hsz, hi1]
      · have : ¬ j = i := fun e => hj e.symm
        simp [hj, this]
    refine opA_soundF hT hΦ hr hφ hni hdi hst (fun s' β' a' w' hI' hr' hφ' => ?_) hX
    refine wpAny_ofG (hT := hT) hΦ hnd hds I hstep fuel (listed.setIfInBounds i true) (by simpa using hsz) (by have := count_set hli; omega) hr' hφ' (by rw [hset]; exact hI') (fun j o' hj hoj e he hb => ?_) hQ hX
    have e1 := congrFun hset
    simp only [upd] at e1
    rw [e1] at hj ⊢
    by_cases hej : e.on = i
    · rw [if_pos hej]
    · rw [if_neg hej]
      by_cases hji : j = i
      · subst hji
        rw [ho] at hoj
        cases hoj
        exact hedge e he hb
      · rw [if_neg hji] at hj
        exact hid j o' hj hoj e he hb

theorem draw_anyG (hT : TabOk P T) (hm : P.follows .mixedOrders = true) (hΦ : KeptTr b₀ Φ) {B id : Nat} {ops : Array Oper} {s : St} {Q : Exit → St → Prop} {q : Box Q} (hnd : ops.toList.all noDefer = true) (hbk : backB ops = true) (I : (Nat → Bool) → St → Prop) (h0 : I (fun _ => false) s)
    (hstep : ∀ (L : Nat → Bool) (s : St) (i : Nat) (o : Oper), I L s → ops[i]? = some o → L i = false → (∀ e ∈ o.after.toList, Region.binds .any e = true → L e.on = true) →
      (∀ j o', L j = true → ops[j]? = some o' → ∀ e ∈ o'.after.toList, Region.binds .any e = true → L e.on = true) → GuardOk ops o s ∧ opA (spF P rd b₀ Φ B Ψ) T o s (bx fun s' => I (upd L i true) s'))
    (hend : ∀ L s', I L s' → (∀ i, i < ops.size → L i = true) → Q .normal s') : DrawA (spF P rd b₀ Φ B Ψ) T id ops s q := by
  refine .inr ⟨fun e s' => e = .normal ∧ Q .normal s', fun N β a ds w hc hr hφ => ?_, fun e s' ⟨h1, h2⟩ => h1 ▸ h2⟩
  have hr1 : Rel b₀ N s β a { w with drawn := w.drawn + 1 } := hr.of_heap rfl
  have hφ1 : Φ s β ds { w with drawn := w.drawn + 1 } := hΦ _ _ _ _ _ _ _ hφ (Tr.same rfl rfl rfl)
  refine wpIn_region_any hm (wpAny_ofG (hT := hT) hΦ hnd hc I hstep ops.size (Array.replicate ops.size false) (by simp) (by simp) hr1 hφ1 ?_ (fun j o' hj => ?_) (fun L s' β' a' w' h2 h4 h5 h6 => ⟨s', β', a', ds, rfl, .inl ⟨rfl, hend L s' h2 (by obtain ⟨listed, rfl, e1, e2⟩ := h6; exact ready_all hbk e1 e2)⟩, h4, h5⟩) (fun ch s' β' a' w' h1 h2 h3 => ⟨s', β', a', ds, rfl, .inr ⟨ch, rfl, h1⟩, h2, h3⟩))
  · have : (fun i => (Array.replicate ops.size false).getD i false) = fun _ => false := by
      funext i
      rw [Array.getD_eq_getD_getElem?, Array.getElem?_replicate]
      split <;> rfl
    rw [this]; exact h0
  · rw [Array.getD_eq_getD_getElem?, Array.getElem?_replicate] at hj
    split at hj <;> simp at hj

theorem draw_detG (hT : TabOk P T) (hm : P.follows .mixedOrders = true) (hΦ : KeptTr b₀ Φ) {B id : Nat} {ops : Array Oper} {s : St} {Q : Exit → St → Prop} {q : Box Q} (ids : List Nat) (tb : List (List Nat × List Nat × List Nat × Bool)) (nid : Nat) (hnd0 : ops.toList.all noDefer = true) (hok : okDetG ops tb nid = true) (hnid : ids.length = nid) (hnd : ids.Nodup)
    (h : wpDetG (spF P rd b₀ Φ B Ψ) T ops ids (zipE ops.toList tb) s (bx fun s' => Q .normal s')) : DrawA (spF P rd b₀ Φ B Ψ) T id ops s q := by
  obtain ⟨h1, I, h2, h3, h4⟩ := det_invG (Q := Q) ids tb nid hok hnid hnd h
  exact draw_anyG hT hm hΦ hnd0 h1 I h2 h3 h4

end

section steps
variable {S : Sp} {T : Nat → TI} {ops : Array Oper} {ids : List Nat} {f : Nat → AV} {g : Nat → Nat} {ob : Nat → Option (List C)} {K : St → Prop} {k : Box K} {op : Op} {ty : TypeId} {ps : String} {af : Array Edge} {gd : Option (Nat × Bool)} {rd hd : List Nat} {r : List Ent} {d : Nat}

theorem detG_pure {v : AV} (hg : GdE ops ⟨⟨some d, op, ty, ps, af, gd⟩, rd, hd, [], false⟩ ⟨f, g, ob⟩) (h1 : ∀ (fa : Nat → AV) (ga : Nat → Nat) (oa : Nat → Option (List C)) (K' : St → Prop), K' ⟨upd (maskf rd f fa) d v, maskm ids hd g ga, maskm ids hd ob oa⟩ → opA S T ⟨some d, op, ty, ps, af, gd⟩ ⟨maskf rd f fa, maskm ids hd g ga, maskm ids hd ob oa⟩ (bx K'))
    (h2 : wpDetG S T ops ids r ⟨upd f d v, g, ob⟩ k) : wpDetG S T ops ids (⟨⟨some d, op, ty, ps, af, gd⟩, rd, hd, [], false⟩ :: r) ⟨f, g, ob⟩ k := by
  unfold wpDetG
  exact ⟨v, [], ⟨rfl, fun fa ga oa K' hK => h1 fa ga oa K' hK, hg⟩, h2⟩
theorem detG_new {v : AV} {a x : Nat} {y : Option (List C)} (hg : GdE ops ⟨⟨some d, op, ty, ps, af, gd⟩, rd, hd, [a], false⟩ ⟨f, g, ob⟩) (h1 : ∀ (fa : Nat → AV) (ga : Nat → Nat) (oa : Nat → Option (List C)) (K' : St → Prop), K' ⟨upd (maskf rd f fa) d v, upd (maskm ids hd g ga) (ids.getD a 0) x, upd (maskm ids hd ob oa) (ids.getD a 0) y⟩ → opA S T ⟨some d, op, ty, ps, af, gd⟩ ⟨maskf rd f fa, maskm ids hd g ga, maskm ids hd ob oa⟩ (bx K'))
    (h2 : wpDetG S T ops ids r ⟨upd f d v, upd g (ids.getD a 0) x, upd ob (ids.getD a 0) y⟩ k) : wpDetG S T ops ids (⟨⟨some d, op, ty, ps, af, gd⟩, rd, hd, [a], false⟩ :: r) ⟨f, g, ob⟩ k := by
  unfold wpDetG
  exact ⟨v, [(x, y)], ⟨rfl, fun fa ga oa K' hK => h1 fa ga oa K' hK, hg⟩, h2⟩
theorem detG_nil (h : K ⟨f, g, ob⟩) : wpDetG S T ops ids [] ⟨f, g, ob⟩ k := by unfold wpDetG; exact h
end steps

end Go.Am

namespace Go.Proofs.YtiaalcpkhlnpcabGreatDoor
open Go Go.Am Go.Asm

/-- The tokens of 'func main() { put(65) }' as they are asked for. -/
structure TsP (ts : List Src.Tok) (fin : Nat) : Prop where
  p0 : peekN ts 0 = [102, 117, 110, 99]
  t1 : ∃ t, ts[1]? = some t ∧ t.kind = 1
  p2 : peekN ts 2 = [40]
  p3 : peekN ts 3 = [41]
  k3 : kindN ts 3 ≠ 1
  p4 : peekN ts 4 = [123]
  p5 : peekN ts 5 = [112, 117, 116]
  p6 : peekN ts 6 = [40]
  t7 : ∃ t, ts[7]? = some t ∧ t.kind = 2
  p8 : peekN ts 8 = [41]
  p9 : peekN ts 9 ≠ [59]

set_option maxHeartbeats 8000000 in
theorem fun_P {gr fin : Nat} {ts : List Src.Tok} {g : Nat → Nat} {ob : Obs} (h : RdP gr ts 0 fin g ob) (ht : TsP ts fin) :
    FunX Tryz.prog 71 [.one (.ptr 125 gr 0)] g ob (fun _ _ _ => False) (WrongP 3000 (failN ts fin 9) g ob) := by
  refine fun_of_wpX 3000 Tt_ok mixed Tryz.func71 rfl (by rfl) [.cell 2 146] rfl (by kernel_rfl) (by kernel_rfl) (by simp [Tryz.ntmps71]) fun b₀ β0 s0 w0 => ?_
  simp (config := { maxSteps := 1000000 }) only [go_sem,↓reduceIte]
  refine hook_funX kept_phiT rfl (by simp (config := { maxSteps := 1000000 }) only [go_sem,↓reduceIte]; exact (must_P (j := 3005) (s := [102, 117, 110, 99]) (((h.new (by decide)).new (by decide)).new (by decide)) (by omega) (by decide) (by decide) (by simp [upd])).mono (fun _ _ _ h => h) (fun ch g' ob' h => absurd ht.p0 h.1)) ?_
  rintro _ g1 ob1 ⟨_, f1, r1⟩
  have F1 := (((FrP.rfl'.new (by decide)).new (by decide)).new (by decide)).trans f1 (by decide : 3000 ≤ 8900)
  obtain ⟨t1, ht1, hk1⟩ := ht.t1
  have hkn : kindN ts 1 = 1 := by unfold kindN; rw [ht1]; exact hk1
  simp (config := { maxSteps := 1000000 }) only [go_sem,↓reduceIte]
  refine hook_funX kept_phiT rfl (by simp (config := { maxSteps := 1000000 }) only [go_sem,↓reduceIte]; exact (take_P (kd := 1) r1 (by omega) (by decide)).mono (fun _ _ _ h => h) (fun ch g' ob' h => absurd hkn h.1)) ?_
  rintro _ g2 ob2 ⟨t', ht', hk', rfl, f2, r2⟩
  have F2 := F1.trans f2 (by decide : 3000 ≤ 8900)
  have e3 := ((f1.trans f2 (by decide : 8900 ≤ 8900)) 3003 (by decide)).1
  have o3 := ((f1.trans f2 (by decide : 8900 ≤ 8900)) 3003 (by decide)).2 (by decide)
  simp [upd] at e3 o3
  unfold tokV tokC
  simp (config := { maxSteps := 1000000 }) only [go_sem,↓reduceIte,e3, o3]
  refine hook_funX kept_phiT rfl (by simp (config := { maxSteps := 1000000 }) only [go_sem,↓reduceIte]; exact (must_P (j := 3012) (s := [40]) ((r2.put (by decide)).new (by decide)) (by omega) (by decide) (by decide) (by simp [upd])).mono (fun _ _ _ h => h) (fun ch g' ob' h => absurd ht.p2 h.1)) ?_
  rintro _ g3 ob3 ⟨_, f3, r3⟩
  have F3 := ((F2.put (by decide : 3000 ≤ 3003)).new (by decide : 3000 ≤ 3012)).trans f3 (by decide : 3000 ≤ 8900)
  simp (config := { maxSteps := 1000000 }) only [go_sem,↓reduceIte]
  refine hook_funF kept_phiT rfl (by simp (config := { maxSteps := 1000000 }) only [go_sem,↓reduceIte]; exact kind_P r3) ?_
  rintro _ g3' ob3' ⟨rfl, rfl, rfl⟩
  have hk3 : ¬ (kindN ts 3 : Int) = 1 := by have := ht.k3; omega
  simp (config := { maxSteps := 1000000 }) only [go_sem,↓reduceIte,hk3]
  refine hook_funX kept_phiT rfl (by simp (config := { maxSteps := 1000000 }) only [go_sem,↓reduceIte]; exact (must_P (j := 3021) (s := [41]) (r3.new (by decide)) (by omega) (by decide) (by decide) (by simp [upd])).mono (fun _ _ _ h => h) (fun ch g' ob' h => absurd ht.p3 h.1)) ?_
  rintro _ g4 ob4 ⟨_, f4, r4⟩
  have F4 := (F3.new (by decide : 3000 ≤ 3021)).trans f4 (by decide : 3000 ≤ 8900)
  simp (config := { maxSteps := 1000000 }) only [go_sem,↓reduceIte]
  refine hook_funF kept_phiT rfl (by simp (config := { maxSteps := 1000000 }) only [go_sem,↓reduceIte]; exact may_P r4 (by omega) [119, 111, 114, 100]) ?_
  rintro _ g5 ob5 ⟨f5, ⟨q, _⟩ | ⟨_, rfl, r5⟩⟩
  · rw [ht.p4] at q; cases q
  have F5 := F4.trans f5 (by decide : 3000 ≤ 8900)
  have e5 := (f3 3003 (by decide)).1
  have e5' := ((f4.trans f5 (by decide : 8900 ≤ 8900)) 3003 (by decide)).1
  have o5 := (f3 3003 (by decide)).2 (by decide)
  have o5' := ((f4.trans f5 (by decide : 8900 ≤ 8900)) 3003 (by decide)).2 (by decide)
  simp [upd] at e5 e5' o5 o5'
  rw [e5, e3] at e5'
  rw [o5] at o5'
  simp (config := { maxSteps := 1000000 }) only [go_sem,↓reduceIte,e5', o5']
  refine hook_funX kept_phiT rfl (by simp (config := { maxSteps := 1000000 }) only [go_sem,↓reduceIte]; exact (must_P (j := 3027) (s := [123]) ((r5.put (by decide)).new (by decide)) (by omega) (by decide) (by decide) (by simp [upd])).mono (fun _ _ _ h => h) (fun ch g' ob' h => absurd ht.p4 h.1)) ?_
  rintro _ g6 ob6 ⟨_, f6, r6⟩
  have F6 := ((F5.put (by decide : 3000 ≤ 3003)).new (by decide : 3000 ≤ 3027)).trans f6 (by decide : 3000 ≤ 8900)
  simp (config := { maxSteps := 1000000 }) only [go_sem,↓reduceIte]
  refine loop_introF (fun m st => m = 0 ∧ st.f 0 = .one (.ptr 125 gr 0) ∧ FrP 3000 g ob st.gen st.obj ∧ RdP gr ts 5 fin st.gen st.obj) 0 ?_ ?_
  · simp (config := { maxSteps := 1000000 }) only [go_sem,↓reduceIte]
    exact ⟨F6, r6⟩
  rintro m f g7 ob7 ⟨rfl, q0, F7, r7⟩
  simp only at q0 F7 r7
  simp (config := { maxSteps := 1000000 }) only [go_sem,↓reduceIte,q0]
  refine hook_funF kept_phiT rfl (by simp (config := { maxSteps := 1000000 }) only [go_sem,↓reduceIte]; exact may_P r7 (by omega) [118, 97, 114]) ?_
  rintro _ g8 ob8 ⟨f8, ⟨q, _⟩ | ⟨_, rfl, r8⟩⟩
  · rw [ht.p5] at q; cases q
  obtain ⟨t7, h7, hk7⟩ := ht.t7
  simp (config := { maxSteps := 1000000 }) only [go_sem,↓reduceIte,q0]
  refine hook_funX kept_phiT rfl (by simp (config := { maxSteps := 1000000 }) only [go_sem,↓reduceIte]; exact (stmts_P (n := 5) r8 (by omega) ht.p5 ht.p6 h7 hk7 ht.p8 ht.p9).mono (fun _ _ _ h => h) (fun ch g' ob' h => h.from (F7.trans f8 (by decide)) (by decide))) ?_
  exact fun _ _ _ h => h.elim

theorem of_not {p : Prop} (h : p → False) : ¬ p := h

set_option maxHeartbeats 8000000 in
theorem prog_P {gr fin : Nat} {ts : List Src.Tok} {g : Nat → Nat} {ob : Obs} (h : RdP gr ts 0 fin g ob) (ht : TsP ts fin) :
    FunX Tryz.prog 44 [.one (.ptr 125 gr 0)] g ob (fun _ _ _ => False) (WrongP 2000 (failN ts fin 9) g ob) := by
  refine fun_of_wpX 2000 Tt_ok mixed Tryz.func44 rfl (by rfl) [.cell 2 69] rfl (by kernel_rfl) (by kernel_rfl) (by simp [Tryz.ntmps44]) fun b₀ β0 s0 w0 => ?_
  simp (config := { maxSteps := 1000000 }) only [go_sem,↓reduceIte]
  refine loop_introF (fun m st => m = 0 ∧ st.f 0 = .one (.ptr 125 gr 0) ∧ st.f 3 = .one (.ptr 2003 (st.gen 2003) 0) ∧ st.obj 2003 = some [.d .nsl, .d .nsl, .d .nsl] ∧ FrP 2000 g ob st.gen st.obj ∧ RdP gr ts 0 fin st.gen st.obj) 0 ?_ ?_
  · simp (config := { maxSteps := 1000000 }) only [go_sem,↓reduceIte]
    exact ⟨((FrP.rfl'.new (by decide)).new (by decide)), ((h.new (by decide)).new (by decide))⟩
  rintro m f g1 ob1 ⟨rfl, q0, q3, o3, F1, r1⟩
  simp only at q0 q3 o3 F1 r1
  simp (config := { maxSteps := 1000000 }) only [go_sem,↓reduceIte,q0]
  refine hook_funF kept_phiT rfl (by simp (config := { maxSteps := 1000000 }) only [go_sem,↓reduceIte]; exact may_P r1 (by omega) [118, 97, 114]) ?_
  rintro _ g2 ob2 ⟨f2, ⟨q, _⟩ | ⟨_, rfl, r2⟩⟩
  · rw [ht.p0] at q; cases q
  simp (config := { maxSteps := 1000000 }) only [go_sem,↓reduceIte,q0]
  refine hook_funF kept_phiT rfl (by simp (config := { maxSteps := 1000000 }) only [go_sem,↓reduceIte]; exact may_P r2 (by omega) [97, 114, 114, 97, 121]) ?_
  rintro _ g3 ob3 ⟨f3, ⟨q, _⟩ | ⟨_, rfl, r3⟩⟩
  · rw [ht.p0] at q; cases q
  have F := f2.trans f3 (by decide : 8900 ≤ 8900)
  have F3 := F1.trans F (by decide : 2000 ≤ 8900)
  have e3' := (F 2003 (by decide)).1
  have o3' := ((F 2003 (by decide)).2 (by decide)).trans o3
  rw [← e3'] at q3
  simp (config := { maxSteps := 1000000 }) only [go_sem,↓reduceIte]
  refine draw_anyG Tt_ok mixed kept_phiT (by decide +kernel) (by decide +kernel) (fun L s => L 3 = false ∧ s.f 0 = .one (.ptr 125 gr 0) ∧ s.f 3 = .one (.ptr 2003 (g3 2003) 0) ∧ (L 0 = true → s.f 40 = .one (.ptr 2003 (g3 2003) 2)) ∧ (L 2 = true → s.f 42 = .one (.ptr 125 gr 0)) ∧ s.gen = g3 ∧ s.obj = ob3) ?_ ?_ ?_
  · refine ⟨rfl, ?_⟩
    simp (config := { maxSteps := 1000000 }) only [go_sem,↓reduceIte,q0, q3]
  · rintro L ⟨fs, gs, obs⟩ i o ⟨n3, z0, z3, z40, z42, rfl, rfl⟩ ho hL hdep hid
    simp only at z0 z3 z40 z42 o3' r3 F3
    have hh : (obs 2003).isSome = true := by rw [o3']; rfl
    match i, ho with
    | 0, ho =>
      simp only [List.getElem?_toArray, List.getElem?_cons_zero, List.getElem?_cons_succ, Option.some.injEq] at ho; subst ho
      refine ⟨trivial, ?_⟩
      simp (config := { maxSteps := 1000000 }) only [go_sem,↓reduceIte,z0, z3, n3]
      exact ⟨hh, z42⟩
    | 1, ho =>
      simp only [List.getElem?_toArray, List.getElem?_cons_zero, List.getElem?_cons_succ, Option.some.injEq] at ho; subst ho
      have d0 : L 0 = true := hdep ⟨0, .data⟩ (by simp) rfl
      refine ⟨trivial, ?_⟩
      simp (config := { maxSteps := 1000000 }) only [go_sem,↓reduceIte,z0, z3, n3, z40 d0, o3']
      exact z42
    | 2, ho =>
      simp only [List.getElem?_toArray, List.getElem?_cons_zero, List.getElem?_cons_succ, Option.some.injEq] at ho; subst ho
      refine ⟨trivial, ?_⟩
      simp (config := { maxSteps := 1000000 }) only [go_sem,↓reduceIte,z0, z3, n3]
      exact z40
    | 3, ho =>
      simp only [List.getElem?_toArray, List.getElem?_cons_zero, List.getElem?_cons_succ, Option.some.injEq] at ho; subst ho
      have d2 : L 2 = true := hdep ⟨2, .data⟩ (by simp) rfl
      refine ⟨trivial, ?_⟩
      simp (config := { maxSteps := 1000000 }) only [go_sem,↓reduceIte,z0, z3, n3, z42 d2]
      refine hook_funX kept_phiT rfl (by simp (config := { maxSteps := 1000000 }) only [go_sem,↓reduceIte,z42 d2]; exact (fun_P r3 ht).mono (R' := fun _ _ _ => False) (fun _ _ _ h => h) (fun ch g' ob' h => h.from F3 (by decide))) ?_
      exact fun _ _ _ h => h.elim
    | 4, ho =>
      simp only [List.getElem?_toArray, List.getElem?_cons_zero, List.getElem?_cons_succ, Option.some.injEq] at ho; subst ho
      have d3 : L 3 = true := hdep ⟨3, .data⟩ (by simp) rfl
      rw [n3] at d3; cases d3
    | 5, ho =>
      simp only [List.getElem?_toArray, List.getElem?_cons_zero, List.getElem?_cons_succ, Option.some.injEq] at ho; subst ho
      have d4 : L 4 = true := hdep ⟨4, .data⟩ (by simp) rfl
      have d3 : L 3 = true := hid 4 _ d4 rfl ⟨3, .data⟩ (by simp) rfl
      rw [n3] at d3; cases d3
    | 6, ho =>
      simp only [List.getElem?_toArray, List.getElem?_cons_zero, List.getElem?_cons_succ, Option.some.injEq] at ho; subst ho
      refine ⟨trivial, ?_⟩
      simp (config := { maxSteps := 1000000 }) only [go_sem,↓reduceIte,z0, z3, n3]
      exact ⟨hh, z40, z42⟩
    | 7, ho =>
      simp only [List.getElem?_toArray, List.getElem?_cons_zero, List.getElem?_cons_succ, Option.some.injEq] at ho; subst ho
      have d5 : L 5 = true := hdep ⟨5, .data⟩ (by simp) rfl
      have d4 : L 4 = true := hid 5 _ d5 rfl ⟨4, .data⟩ (by simp) rfl
      have d3 : L 3 = true := hid 4 _ d4 rfl ⟨3, .data⟩ (by simp) rfl
      rw [n3] at d3; cases d3
    | j + 8, ho => exact absurd ho (by simp)
  · rintro L s' ⟨n3, _⟩ hall
    have := hall 3 (by decide)
    rw [n3] at this; cases this

end Go.Proofs.YtiaalcpkhlnpcabGreatDoor

namespace Go.Am
section
variable {P : Program} {T : Nat → TI} {b₀ : Bs} {rd : Option Nat} {Φ : St → Loc → List Deferred → World → Prop} {B : Nat} {Ψ : PanF} {Ψ0 : Pan}

/-- A call that may panic: what holds then may name the caller's slots. -/
theorem hook_funXP (hΦ : KeptTr b₀ Φ) {o : Oper} {s : St} {K : St → Prop} {k : Box K} {f : FuncId} {args : Array Operand} {tys : Array TypeId} (ho : o.op = .call ⟨.value (.func f), args, tys⟩) {R : AV → (Nat → Nat) → Obs → Prop}
    (hp : FunX P f (args.toList.map s.ev) s.gen s.obj R Ψ0) (hx : ∀ ch g' ob', Ψ0 ch g' ob' → Ψ ch ⟨s.f, g', ob'⟩) (hk : ∀ r g' ob', R r g' ob' → K (St.put ⟨s.f, g', ob'⟩ o.dst r)) : hookA (spF P rd b₀ Φ B Ψ) o s k := by
  refine ⟨fun s' => ∃ r g' ob', R r g' ob' ∧ s' = St.put ⟨s.f, g', ob'⟩ o.dst r, fun N β a ds w hr hφ hdst next Q hn hx' => ?_, fun _ ⟨r, g', ob', hr, e⟩ => e ▸ hk r g' ob' hr⟩
  have hnd : noDefer o = true := by simp [noDefer, ho]
  refine wp_fen hnd ?_
  unfold Oper.wp
  rw [run_call ho hp.1 w]
  simp only [Oper.upon]
  have := hp.2 b₀ N β a s.f w (args.toList.map a.eval) hr (args_rep hr _)
  rw [show (args.toList.map a.eval).toArray = args.map a.eval from Array.ext' (by simp)] at this
  refine this.mono fun e w' hE => ?_
  rcases hE with ⟨v, r, g', ob', β', he, hR, hv, h1, h2, h3⟩ | ⟨ch, g', ob', β', he, hΨ, h1, h2, h3⟩
  · subst he
    obtain ⟨k1, k2⟩ := call_back hr hdst hv h1 h2 h3
    exact ⟨k1.defers, hn _ β' _ w' ⟨r, g', ob', hR, rfl⟩ k1 (hΦ _ _ _ _ _ _ _ hφ k2)⟩
  · subst he
    have hk : Keep b₀ β s.gen s.obj w β' g' ob' w' := h3.keep
    have ht : Tr b₀ β s w β' ⟨s.f, g', ob'⟩ w' := ⟨h3.size, h3.old, hk, h3.os⟩
    exact hx' ch ⟨s.f, g', ob'⟩ β' a w' (hx _ _ _ hΨ) ⟨hr.defers, hr.size, fun i => RepV.keep hk _ (hr.f i), h1, h2, Nat.le_trans hr.base h3.size⟩ (hΦ _ _ _ _ _ _ _ hφ ht)

/-- A closure's call that may panic. -/
theorem hook_cloXP (hΦ : KeptTr b₀ Φ) {o : Oper} {s : St} {K : St → Prop} {k : Box K} {t : Nat} {args : Array Operand} {tys : Array TypeId} (ho : o.op = .call ⟨.value (.tmp t), args, tys⟩) {f : FuncId} {caps : List PC} (hf : s.f t = .one (.clo f caps)) {R : AV → (Nat → Nat) → Obs → Prop}
    (hp : FunX P f (args.toList.map s.ev ++ caps.map pcAV) s.gen s.obj R Ψ0) (hx : ∀ ch g' ob', Ψ0 ch g' ob' → Ψ ch ⟨s.f, g', ob'⟩) (hk : ∀ r g' ob', R r g' ob' → K (St.put ⟨s.f, g', ob'⟩ o.dst r)) (hf1 : f < 1000000 := by decide) : hookA (spF P rd b₀ Φ B Ψ) o s k := by
  refine ⟨fun s' => ∃ r g' ob', R r g' ob' ∧ s' = St.put ⟨s.f, g', ob'⟩ o.dst r, fun N β a ds w hr hφ hdst next Q hn hx' => ?_, fun _ ⟨r, g', ob', hr, e⟩ => e ▸ hk r g' ob' hr⟩
  have hnd : noDefer o = true := by simp [noDefer, ho]
  refine wp_fen hnd ?_
  have hv := hr.f t
  rw [hf] at hv
  simp only [RepV, RepC] at hv
  obtain ⟨vs, hv1, hv2, hv3⟩ := hv
  rw [cloV_fn hf1] at hv1
  have hrun : (execOp a.eval o).run P w = .ok (.enter f (args.map a.eval ++ vs)) w := by
    obtain ⟨fn, h1, h2, h3⟩ := hp.1
    have h2 : ¬ fn.body = none := by intro h; rw [h] at h2; simp at h2
    have h3 : ¬ fn.name = "runtime.NumGoroutine" := by simpa using h3
    simp [execOp, ho, resolve, Act.eval, hv1, Deferred.ofValue, invoke, callFunc, h1, h2, h3]
  unfold Oper.wp
  rw [hrun]
  simp only [Oper.upon]
  have hc : RepVs b₀ β s.gen s.obj w (caps.map pcAV) vs.toList := caps_rep (by simpa using hv2) (fun i pc hi => let ⟨u, h1, h2⟩ := hv3 i pc hi; ⟨u, by simpa using h1, h2⟩)
  have := hp.2 b₀ N β a s.f w (args.toList.map a.eval ++ vs.toList) hr ((args_rep hr _).append hc)
  rw [show (args.toList.map a.eval ++ vs.toList).toArray = args.map a.eval ++ vs from Array.ext' (by simp)] at this
  refine this.mono fun e w' hE => ?_
  rcases hE with ⟨v, r, g', ob', β', he, hR, hv, h1, h2, h3⟩ | ⟨ch, g', ob', β', he, hΨ, h1, h2, h3⟩
  · subst he
    obtain ⟨k1, k2⟩ := call_back hr hdst hv h1 h2 h3
    exact ⟨k1.defers, hn _ β' _ w' ⟨r, g', ob', hR, rfl⟩ k1 (hΦ _ _ _ _ _ _ _ hφ k2)⟩
  · subst he
    have hk : Keep b₀ β s.gen s.obj w β' g' ob' w' := h3.keep
    have ht : Tr b₀ β s w β' ⟨s.f, g', ob'⟩ w' := ⟨h3.size, h3.old, hk, h3.os⟩
    exact hx' ch ⟨s.f, g', ob'⟩ β' a w' (hx _ _ _ hΨ) ⟨hr.defers, hr.size, fun i => RepV.keep hk _ (hr.f i), h1, h2, Nat.le_trans hr.base h3.size⟩ (hΦ _ _ _ _ _ _ _ hφ ht)

@[go_sem] theorem opA_typeAssert {S : Sp} {dst : Option Tmp} {ty : TypeId} {ps : String} {af : Array Edge} {gd : Option (Nat × Bool)} {s : St} {K : St → Prop} {k : Box K} {t u : TypeId} {x : Operand} {ok : Bool} : opA S T ⟨dst, .typeAssert x t u ok, ty, ps, af, gd⟩ s k = hookA S ⟨dst, .typeAssert x t u ok, ty, ps, af, gd⟩ s k := Eq.trans rfl rfl

/-- An interface's value is asserted to be of its type. -/
theorem hook_tassert (hΦ : KeptTr b₀ Φ) {o : Oper} {s : St} {K : St → Prop} {k : Box K} {t t0 : TypeId} {x : Operand} (ho : o.op = .typeAssert x t0 t true) {fs : Array Field} (hu : P.underlying t = some (.struct fs)) {kd : IntKind} {n : Int}
    (hx : s.ev x = .exact (.iface t (.agg #[.int kd n]))) (hk : K (s.put o.dst (.tup [.agg [.d (.int kd n)], bv true]))) : hookA (spF P rd b₀ Φ B Ψ) o s k := by
  refine ⟨fun s' => s' = s.put o.dst (.tup [.agg [.d (.int kd n)], bv true]), fun N β a ds w hr hφ hd next Q hn _ => ?_, fun _ e => e ▸ hk⟩
  refine wp_fen (by simp [noDefer, ho]) ?_
  have hv := hr.ev x
  rw [hx] at hv
  simp only [RepV] at hv
  have hex : (execOp a.eval o).run P w = .ok (.value (.tuple #[.agg #[.int kd n], .bool true])) w := by
    simp [execOp, ho, hv, Instr.typeAssert, run_underlying hu]
  have hr' := hr.put hd (x := .tup [.agg [.d (.int kd n)], bv true]) (v := .tuple #[.agg #[.int kd n], .bool true]) (by
    simp only [RepV, RepVs]
    refine ⟨[.agg #[.int kd n], .bool true], rfl, _, _, rfl, ⟨#[.int kd n], rfl, rfl, fun i c hi => ?_⟩, _, _, rfl, ?_, rfl⟩
    · match i, hi with
      | 0, hi => cases hi; exact ⟨_, rfl, by simp only [RepC]; exact .int _ _⟩
    · simp only [RepC]; exact .bool _)
  exact wp_value hex ⟨hr'.defers, hn _ β _ w rfl hr' (hΦ _ _ _ _ _ _ _ hφ (Tr.same (St.put_gen _ _ _) (St.put_obj _ _ _) rfl))⟩

/-- What is true of an activation with deferred calls, and what it came from. -/
def PhiD (d : List Deferred) (b₀ : Bs) (β0 : Loc) (s0 : St) (w0 : World) : St → Loc → List Deferred → World → Prop := fun s β ds w => ds = d ∧ Tr b₀ β0 s0 w0 β s w
theorem kept_phiD {d : List Deferred} {β0 : Loc} {s0 : St} {w0 : World} : KeptTr b₀ (PhiD d b₀ β0 s0 w0) := fun _ _ _ _ _ _ _ h ht => ⟨h.1, h.2.trans ht⟩

/-- A piece of a body that comes to its end, and what follows. -/
theorem seq_front (hT : TabOk P T) (hm : P.follows .mixedOrders = true) (hΦ : KeptTr b₀ Φ) {N : Nat} {x y : Code} {s : St} {β : Loc} {a : Act} {ds : List Deferred} {w : World} {Q : Exit → Act → World → Prop} (hcm : calm2 x = true) (hc : codeOk N x = true) (hr : Rel b₀ N s β a w) (hφ : Φ s β ds w)
    {K : St → Prop} (h : wpC (spF P rd b₀ Φ B noPan) T x (bx fun e s' => e = .normal ∧ K s') s) (hy : ∀ s' β' a' ds' w', K s' → Rel b₀ N s' β' a' w' → Φ s' β' ds' w' → y.wpIn (fen rd) 0 P Q { a' with defers := ds' } w') : (Code.seq x y).wpIn (fen rd) 0 P Q { a with defers := ds } w := by
  refine wpIn_seq (wpIn_mono (wpC_soundF2 hT hm hΦ x hcm hc hr hφ h) (fun e a' w' hp => ?_))
  obtain ⟨s', β', a0, ds', rfl, h1, h2, h3⟩ := hp
  rcases h1 with ⟨rfl, h1⟩ | ⟨_, _, h⟩
  · exact hy _ _ _ _ _ h1 h2 h3
  · exact h.elim

/-- A body's rest. -/
theorem wpIn_rest (hT : TabOk P T) (hm : P.follows .mixedOrders = true) (hΦ : KeptTr b₀ Φ) {N : Nat} {x : Code} {s : St} {β : Loc} {a : Act} {ds : List Deferred} {w : World} {Q : Exit → Act → World → Prop} (Ψ : PanF) (K : Exit → St → Prop) (hcm : calm2 x = true) (hc : codeOk N x = true) (hr : Rel b₀ N s β a w) (hφ : Φ s β ds w)
    (h : wpC (spF P rd b₀ Φ B Ψ) T x (bx K) s) (hq : ∀ e s' β' a' ds' w', (K e s' ∨ ∃ ch, e = .panic ch ∧ Ψ ch s') → Rel b₀ N s' β' a' w' → Φ s' β' ds' w' → Q e { a' with defers := ds' } w') : x.wpIn (fen rd) 0 P Q { a with defers := ds } w := by
  refine wpIn_mono (wpC_soundF2 hT hm hΦ x hcm hc hr hφ h) (fun e a' w' hp => ?_)
  obtain ⟨s', β', a0, ds', rfl, h1, h2, h3⟩ := hp
  exact hq _ _ _ _ _ _ h1 h2 h3

/-- A closure is made, and deferred. -/
theorem seq_defer (hT : TabOk P T) (hΦ : KeptTr b₀ Φ) {N id t : Nat} {o1 o2 : Oper} {y : Code} {s : St} {β : Loc} {a : Act} {ds : List Deferred} {w : World} {Q : Exit → Act → World → Prop} {tys : Array TypeId} (hn1 : noDefer o1 = true) (g1 : o1.guard = none) (g2 : o2.guard = none) (hd1 : ∀ d, o1.dst = some d → d < N) (hd2 : o2.dst = none)
    (ho2 : o2.op = .defer ⟨.value (.tmp t), #[], tys⟩) (hr : Rel b₀ N s β a w) (hφ : Φ s β ds w) {K : St → Prop} {f : FuncId} {caps : List PC} (h : opA (spF P none b₀ Φ B noPan) T o1 s (bx fun s' => s'.f t = .one (.clo f caps) ∧ K s'))
    (hy : ∀ s' β' a' w' vs, K s' → Rel b₀ N s' β' a' w' → Φ s' β' ds w' → RepVs b₀ β' s'.gen s'.obj w' (caps.map pcAV) vs → y.wpIn (fen none) 0 P Q { a' with defers := ⟨.fn (.func f) vs.toArray, #[]⟩ :: ds } w') (hf1 : f < 1000000 := by decide) : (Code.seq (.region id #[o1, o2] false) y).wpIn (fen none) 0 P Q { a with defers := ds } w := by
  refine wpIn_seq (wpIn_region ?_)
  show wpOpsIn (fen none) 0 P #[o1, o2] _ [0, 1] _ _
  simp only [wpOpsIn, List.getElem?_toArray, List.getElem?_cons_zero, List.getElem?_cons_succ]
  rw [if_pos (by simp [Region.wanted, g1])]
  refine opA_soundF hT hΦ hr hφ hn1 hd1 h (fun s' β' a' w' h1 h2 h3 => ?_) (fun ch s' β' a' w' h => h.elim)
  obtain ⟨hc, hK⟩ := h1
  rw [if_pos (by simp [Region.wanted, g2])]
  have hv := h2.f t
  rw [hc] at hv
  simp only [RepV, RepC] at hv
  obtain ⟨vs, hv1, hv2, hv3⟩ := hv
  rw [cloV_fn hf1] at hv1
  refine ⟨fun _ _ => trivial, ?_⟩
  have hrun : ((o2.semAt (fen none).round ({ a' with defers := ds } : Act).eval).run P w') = .ok (.defer ⟨.fn (.func f) vs, #[]⟩) w' := by
    rw [show (fen none).round = none from rfl, Oper.semAt_none]
    simp [execOp, ho2, resolve, Act.eval, hv1, Deferred.ofValue]
  rw [hrun, Oper.uponIn_defer]
  simp only [hd2, Act.put]
  exact hy s' β' a' w' vs.toList hK h2 h3 (caps_rep (by simpa using hv2) (fun i pc hi => let ⟨u, h1, h2⟩ := hv3 i pc hi; ⟨u, by simpa using h1, h2⟩))

theorem equal_iface_nil {tI t : TypeId} {u : Value} {w : World} {ms : Array (String × TypeId)} (hu : P.underlying tI = some (.interface ms)) : (Op.equal tI (.iface t u) .nilIface).run P w = .ok false w := by
  obtain ⟨n, hn⟩ : ∃ n, Op.maxDepth = n + 1 := ⟨_, rfl⟩
  unfold Op.equal
  rw [hn, Op.equalIn]
  simp [run_underlying hu]

theorem run_iface_nil {o : Oper} {tI t tI2 : TypeId} {u : Value} {d : Nat} {a : Act} {w : World} {ms : Array (String × TypeId)} (ho : o.op = .binOp .eql tI (.tmp d) (.const .nilIface) tI2) (hu : P.underlying tI = some (.interface ms)) (h : a.tmps.getD d undef = .iface t u) :
    (execOp a.eval o).run P w = .ok (.value (.bool false)) w := by
  have e1 : binOp .eql tI (.iface t u) .nilIface = (do pure (.bool (← Op.equal tI (.iface t u) .nilIface))) := rfl
  have e2 : eqGuard .eql tI (.tmp d) (.const .nilIface) (.iface t u) .nilIface = pure () := rfl
  have e3 : a.eval (.tmp d) = .iface t u := h
  have e4 : a.eval (.const .nilIface) = .nilIface := rfl
  unfold execOp
  simp only [ho, e3, e4, e1, e2, Sem.run_bind, Sem.run_pure, Result.andThen_ok, equal_iface_nil hu]

/-- A frame goes that panics with one deferred closure: 'switch recover().(type)', whose first case is nil. -/
theorem leaves_rec (hT : TabOk P T) (hm : P.follows .mixedOrders = true) {fn fnD : Func} {f : FuncId} {N id id2 bl d e : Nat} {oR oE : Oper} {tI : TypeId} {x y : Code}
    (hf : P.funcs[f]? = some fnD) (hb : fnD.body = some (.seq (.region id #[oR] false) (.block bl (.seq (.region id2 #[oE] false) (.cond (.tmp e) x y))))) (hnn : (fnD.name == "runtime.NumGoroutine") = false)
    (hoR : oR.op = .call ⟨.builtin .recover, #[], #[]⟩) (hdR : oR.dst = some d) (gR : oR.guard = none) (hoE : oE.op = .binOp .eql tI (.tmp d) (.const .nilIface) tI) (hdE : oE.dst = some e) (gE : oE.guard = none) (hdn : d < fnD.ntmps) (hen : e < fnD.ntmps)
    (hres : fnD.results = #[]) (hcm : calm2 y = true) (hok : codeOk fnD.ntmps y = true) {ms : Array (String × TypeId)} (huI : P.underlying tI = some (.interface ms)) {t : TypeId} {u : Value} {s : St} {β : Loc} {a : Act} {w : World} {xs : List AV} {vs : List Value} {R : Ending → World → Prop} (hr : Rel b₀ N s β a w) (hv : RepVs b₀ β s.gen s.obj w xs vs) (hl : xs.length ≤ fnD.ntmps)
    {K : (Nat → Nat) → Obs → Prop} (hy : ∀ β0 s0 w0, wpC (spF P none b₀ (PhiT b₀ β0 s0 w0) B noPan) T y (bx fun ex s' => ex = .normal ∧ K s'.gen s'.obj) ⟨upd (upd (initF xs) d (.exact (.iface t u))) e (bv false), s.gen, s.obj⟩)
    (hR : ∀ g' ob' β' w', K g' ob' → Rel b₀ N ⟨s.f, g', ob'⟩ β' a w' → Tr b₀ β s w β' ⟨s.f, g', ob'⟩ w' → ∃ v, (results fn a.tmps).run P w' = .ok v w' ∧ R (.returned v) w') :
    LeavesIn (fen none) 0 P fn a.tmps R [⟨.fn (.func f) vs.toArray, #[]⟩] (.panicking [{ v := .iface t u, recovered := false }]) w := by
  refine leavesIn_cons (f := f) (args := vs.toArray) (by simp) (fun h => by cases h) ?_ (fun _ _ => trivial) ?_
  · have h3 : ¬ fnD.name = "runtime.NumGoroutine" := by simpa using hnn
    simp [invoke, callFunc, hf, hb, h3]
  refine callsDIn_of_wpSIn hf hb trivial fun c₀ cs hu => ?_
  apply wpSIn_seq
  apply wpSIn_region
  show wpOpsSIn (fen none) 0 P #[oR] _ [0] _ _ _
  simp only [wpOpsSIn, List.getElem?_toArray, List.getElem?_cons_zero]
  refine ⟨fun _ _ => trivial, ?_⟩
  rw [if_pos (by simp [Region.wanted, gR])]
  have hrun : ∀ (a : Act) (w : World), (execOp a.eval oR).run P w = .ok .recover w := fun a w => by simp [execOp, hoR, resolve, invoke, builtin]
  rw [hrun]
  simp only [recoverD, hu, hdR, Exit.thenS]
  refine wpSIn_of_wpIn rfl ?_
  have hr0 := rel_init (N := fnD.ntmps) (fa := s.f) hl hr hv
  have hr1 := hr0.put (dst := some d) (fun d' h => by cases h; exact hdn) (x := .exact (.iface t u)) (v := .iface t u) (by simp only [RepV])
  refine wpIn_block (wpIn_seq (wpIn_region ?_))
  show wpOpsIn (fen none) 0 P #[oE] _ [0] _ _
  simp only [wpOpsIn, List.getElem?_toArray, List.getElem?_cons_zero]
  rw [if_pos (by simp [Region.wanted, gE])]
  have hvd := hr1.f d
  simp only [St.put, upd, if_pos, RepV] at hvd
  refine ⟨fun _ _ => trivial, ?_⟩
  rw [show (fen none).round = none from rfl, Oper.semAt_none]
  rw [run_iface_nil hoE huI hvd, Oper.uponIn_value]
  simp only [hdE]
  have hr2 : Rel b₀ fnD.ntmps ⟨upd (upd (initF xs) d (.exact (.iface t u))) e (bv false), s.gen, s.obj⟩ β _ w := hr1.put (dst := some e) (fun d' h => by cases h; exact hen) (x := bv false) (v := .bool false) (by simp only [RepV, RepC, bv]; exact .bool _)
  have hve := hr2.f e
  simp only [upd, if_pos, bv, RepV, RepC] at hve
  refine wpIn_cond (t := false) hve.inv_bool ?_
  rw [if_neg (by decide)]
  have hy2 := wpC_soundF2 (rd := none) (B := B) (ds := []) hT hm kept_phiT y hcm hok hr2 ⟨rfl, Tr.refl⟩ (hy β ⟨upd (upd (initF xs) d (.exact (.iface t u))) e (bv false), s.gen, s.obj⟩ w)
  refine wpIn_mono hy2 (fun ex a' w' hp => ?_)
  obtain ⟨s', β', a0, ds', rfl, h1, h2, rfl, h4⟩ := hp
  rcases h1 with ⟨rfl, h1⟩ | ⟨_, _, h⟩
  case inr => exact h.elim
  have hk : Keep b₀ β s.gen s.obj w β' s'.gen s'.obj w' := h4.keep
  have ht : Tr b₀ β s w β' ⟨s.f, s'.gen, s'.obj⟩ w' := ⟨h4.size, h4.old, hk, h4.os⟩
  have hrA : Rel b₀ N ⟨s.f, s'.gen, s'.obj⟩ β' a w' := ⟨hr.defers, hr.size, fun i => RepV.keep hk _ (hr.f i), h2.obj, h2.inj, Nat.le_trans hr.base h4.size⟩
  obtain ⟨v, hv1, hv2⟩ := hR _ _ _ _ h1 hrA ht
  refine ⟨rfl, .panicking [{ v := .iface t u, recovered := true }], rfl, .tuple #[], by simp [results, hres], ?_⟩
  simp only [settle, List.dropWhile_nil, LeavesIn]
  exact ⟨v, hv1, hv2⟩
end
end Go.Am

namespace Go.Proofs.YtiaalcpkhlnpcabGreatDoor
open Go Go.Am Go.Asm

/-- 'func main() { put(65) }' -/
def srcT : Str := [102, 117, 110, 99, 32, 109, 97, 105, 110, 40, 41, 32, 123, 32, 112, 117, 116, 40, 54, 53, 41, 32, 125]
def toksT : List Src.Tok := [⟨3, [102, 117, 110, 99], 0, 0⟩, ⟨1, [109, 97, 105, 110], 0, 5⟩, ⟨4, [40], 0, 9⟩, ⟨4, [41], 0, 10⟩, ⟨4, [123], 0, 12⟩, ⟨3, [112, 117, 116], 0, 14⟩, ⟨4, [40], 0, 17⟩, ⟨2, [54, 53], 65, 18⟩, ⟨4, [41], 0, 20⟩, ⟨4, [125], 0, 22⟩]
theorem lex_srcT : Src.lexA srcT = (toksT, 0, 0) := by decide +kernel
theorem tsP : TsP toksT 23 := ⟨by decide, ⟨_, rfl, by decide⟩, by decide, by decide, by decide, by decide, by decide, by decide, ⟨_, rfl, by decide⟩, by decide, by decide⟩
theorem fail_srcT : failN toksT 23 9 = 22 := by decide

set_option maxHeartbeats 4000000 in
theorem prog1_P {gr fin : Nat} {ts : List Src.Tok} {g : Nat → Nat} {ob : Obs} {x : AV} (h : RdP gr ts 0 fin g ob) (ht : TsP ts fin) :
    FunX Tryz.prog 43 [.one (.ptr 125 gr 0), x] g ob (fun _ _ _ => False) (WrongP 1000 (failN ts fin 9) g ob) := by
  refine fun_of_wpX 1000 Tt_ok mixed Tryz.func43 rfl (by rfl) [] rfl (by kernel_rfl) (by kernel_rfl) (by simp [Tryz.ntmps43]) fun b₀ β0 s0 w0 => ?_
  simp (config := { maxSteps := 1000000 }) only [go_sem,↓reduceIte]
  refine hook_funX kept_phiT rfl (by simp (config := { maxSteps := 1000000 }) only [go_sem,↓reduceIte]; exact (prog_P h ht).mono (fun _ _ _ h => h) (fun ch g' ob' h => h.from FrP.rfl' (by decide))) ?_
  exact fun _ _ _ h => h.elim

structure RdK (cap : PC) (g : Nat → Nat) (ob : Obs) (s : St) : Prop where
  f0 : s.f 0 = sv srcT
  f1 : s.f 1 = .one (.clo 43 [cap])
  f4 : s.f 4 = .one (.ptr 104 (nxC 4 (g 104)) 0)
  f5 : s.f 5 = .one (.ptr 105 (nxC 28 (g 105)) 0)
  gn : s.gen = upd (upd g 104 (nxC 4 (g 104))) 105 (nxC 28 (g 105))
  on : s.obj = upd (upd ob 104 (some [.d (.int .i64 0)])) 105 (some [.d (.int .i64 0)])

set_option maxHeartbeats 8000000 in
theorem read_G {o : Hold} (ho : TokO o) {g : Nat → Nat} {ob : Obs} (cap : PC) :
    FunG Tryz.prog 5 o 42 [sv srcT, .one (.clo 43 [cap])] g ob (fun r g' ob' => r = .tup [iv .i64 22, iv .i64 3] ∧ ∀ i, i < 100 → g' i = g i ∧ ob' i = ob i) := by
  refine ⟨⟨_, Tryz.func42, by rfl, by kernel_rfl⟩, fun b₀ N β a fa w vs hgb hheld hr0 hv => ?_⟩
  refine calls_of_fen (n := 0) (callsIn_of_wp_defers Tryz.func42 (by rfl) trivial ?_)
  have hr := rel_init (N := Tryz.f42.ntmps) (by simp [Tryz.ntmps42]) hr0 hv
  refine seq_front (B := 100) (ds := []) Tt_ok mixed kept_phiN (by kernel_rfl) (by kernel_rfl) hr ⟨⟨hgb, hheld⟩, rfl, Tr.refl⟩ (K := RdK cap g ob) ?_ ?_
  · simp (config := { maxSteps := 1000000 }) only [go_sem,↓reduceIte]
    exact ⟨rfl, rfl, rfl, rfl, rfl, rfl⟩
  rintro s1 β1 a1 ds1 w1 k1 hr1 hφ1
  refine seq_front (B := 100) Tt_ok mixed kept_phiN (by kernel_rfl) (by kernel_rfl) hr1 hφ1 (K := fun s => RdK cap g ob s ∧ s.f 6 = .one (.d (toksD toksT)) ∧ s.f 8 = iv .i64 0) ?_ ?_
  · obtain ⟨f, g1, ob1⟩ := s1
    obtain ⟨q0, q1, q4, q5, rfl, rfl⟩ := k1
    simp only at q0 q1 q4 q5
    simp (config := { maxSteps := 1000000 }) only [go_sem,↓reduceIte,q0]
    refine hook_callG kept_phiN (fun s β ds w h => h.1.2) rfl (by simp (config := { maxSteps := 1000000 }) only [go_sem,↓reduceIte,q0]; exact Lex_G ho srcT) (by simp (config := { maxSteps := 1000000 }) only [go_sem,↓reduceIte,q0]; rfl) ?_
    rintro _ rfl
    rw [lex_srcT]
    unfold lexV
    simp (config := { maxSteps := 1000000 }) only [go_sem,↓reduceIte]
    refine ⟨?_, ?_, ?_, ?_, rfl, rfl⟩ <;> (simp (config := { maxSteps := 1000000 }) only [go_sem,↓reduceIte,q0, q1, q4, q5])
  rintro s2 β2 a2 ds2 w2 ⟨k2, k6, k8⟩ hr2 hφ2
  refine seq_front (B := 100) Tt_ok mixed kept_phiN (by kernel_rfl) (by kernel_rfl) hr2 hφ2 (K := fun s => RdK cap g ob s ∧ s.f 6 = .one (.d (toksD toksT))) ?_ ?_
  · obtain ⟨f, g1, ob1⟩ := s2
    obtain ⟨q0, q1, q4, q5, rfl, rfl⟩ := k2
    simp only at q0 q1 q4 q5 k6 k8
    simp (config := { maxSteps := 1000000 }) only [go_sem,↓reduceIte,k8, k6]
    refine ⟨?_, ?_, ?_, ?_, rfl, rfl⟩ <;> (simp (config := { maxSteps := 1000000 }) only [go_sem,↓reduceIte,q0, q1, q4, q5])
  rintro s3 β3 a3 ds3 w3 ⟨k3, k6⟩ hr3 hφ3
  obtain rfl : ds3 = [] := hφ3.2.1
  refine seq_defer (B := 100) (t := 20) (f := 65) (caps := [.ptr 104 (nxC 4 (g 104)) 0, .ptr 105 (nxC 28 (g 105)) 0]) Tt_ok kept_phiN rfl rfl rfl (fun d h => by cases h; simp [Tryz.ntmps42]) rfl rfl hr3 hφ3 (K := fun s => RdK cap g ob s ∧ s.f 6 = .one (.d (toksD toksT))) ?_ ?_
  · obtain ⟨f, g1, ob1⟩ := s3
    obtain ⟨q0, q1, q4, q5, rfl, rfl⟩ := k3
    simp only at q0 q1 q4 q5 k6
    simp (config := { maxSteps := 1000000 }) only [go_sem,↓reduceIte,q4, q5, k6]
    refine ⟨?_, ?_, ?_, ?_, rfl, rfl⟩ <;> (simp (config := { maxSteps := 1000000 }) only [go_sem,↓reduceIte,q0, q1, q4, q5])
  rintro s4 β4 a4 w4 vs ⟨k4, k6⟩ hr4 hφ4 hcaps
  obtain ⟨f4, g4, ob4⟩ := s4
  obtain ⟨q0, q1, q4, q5, rfl, rfl⟩ := k4
  simp only at q0 q1 q4 q5 k6
  refine wpIn_rest (B := 100) Tt_ok mixed (kept_phiD (d := [⟨.fn (.func 65) vs.toArray, #[]⟩])) (fun ch s => ch = [{ v := wrongV 22, recovered := false }] ∧ s.f 4 = .one (.ptr 104 (nxC 4 (g 104)) 0) ∧ s.f 5 = .one (.ptr 105 (nxC 28 (g 105)) 0) ∧ FrP 106 (upd (upd g 104 (nxC 4 (g 104))) 105 (nxC 28 (g 105))) (upd (upd ob 104 (some [.d (.int .i64 0)])) 105 (some [.d (.int .i64 0)])) s.gen s.obj)
    (fun _ _ => False) (by kernel_rfl) (by kernel_rfl) hr4 ⟨rfl, Tr.refl⟩ ?_ ?_
  · simp (config := { maxSteps := 1000000 }) only [go_sem,↓reduceIte,q0, q1, q4, q5, k6]
    refine hook_cloXP (f := 43) (caps := [cap]) kept_phiD rfl (by simp (config := { maxSteps := 1000000 }) only [go_sem,↓reduceIte,q1]) (by simp (config := { maxSteps := 1000000 }) only [go_sem,↓reduceIte]; exact prog1_P (gr := nxC 136 (g 125)) (ts := toksT) (fin := 23) ⟨by simp [upd], by simp [upd, RdC, srcT]⟩ tsP) ?_ ?_
    · rintro ch g' ob' ⟨rfl, h⟩
      rw [fail_srcT]
      refine ⟨rfl, by simp (config := { maxSteps := 1000000 }) only [go_sem,↓reduceIte,q4], by simp (config := { maxSteps := 1000000 }) only [go_sem,↓reduceIte,q5], (FrP.rfl'.new (by decide)).trans h (by decide)⟩
    · exact fun _ _ _ h => h.elim
  rintro e s' β' a' ds' w' (h | ⟨_, rfl, rfl, z4, z5, hF⟩) hr5 ⟨rfl, ht5⟩
  · exact h.elim
  show LeavesIn _ _ _ _ a'.tmps _ _ _ _
  have e4 := (hF 104 (by decide)).1
  have e5 := (hF 105 (by decide)).1
  have o4 := (hF 104 (by decide)).2 (by decide)
  have o5 := (hF 105 (by decide)).2 (by decide)
  simp [upd] at e4 e5 o4 o5
  refine leaves_rec (B := 200) (fnD := Tryz.f65) Tt_ok mixed Tryz.func65 (by rfl) (by kernel_rfl) rfl rfl rfl rfl rfl rfl (by simp [Tryz.ntmps65]) (by simp [Tryz.ntmps65]) (by rfl) (by kernel_rfl) (by kernel_rfl) (Tt_ok 20 rfl).desc (t := 133) (u := .agg #[.int .i64 22]) hr5 (RepVs.keep ht5.keep _ hcaps) (by simp [Tryz.ntmps65])
    (K := fun g' ob' => g' 104 = nxC 4 (g 104) ∧ g' 105 = nxC 28 (g 105) ∧ ob' 104 = some [.d (.int .i64 22)] ∧ ob' 105 = some [.d (.int .i64 3)] ∧ ∀ i, i < 100 → g' i = g i ∧ ob' i = ob i) ?_ ?_
  · intro β0 s0 w0
    simp (config := { maxSteps := 1000000 }) only [go_sem,↓reduceIte]
    refine hook_tassert (k := bx _) kept_phiT rfl (Tt_ok 133 rfl).desc (kd := .i64) (n := 22) (by simp (config := { maxSteps := 1000000 }) only [go_sem,↓reduceIte]) ?_
    simp (config := { maxSteps := 1000000 }) only [go_sem,↓reduceIte,e4, e5, o4, o5, pcAV]
    intro i hi
    have h1 := (hF i (by omega)).1
    have h2 := (hF i (by omega)).2 (by omega)
    simp only [upd] at h1 h2
    rw [if_neg (by omega), if_neg (by omega)] at h1 h2
    (repeat rw [if_neg (by omega)])
    exact ⟨h1, h2⟩
  · rintro g' ob' β6 w6 ⟨x4, x5, y4, y5, hfr⟩ hr6 ht6
    have hE : evalR Tt ⟨s'.f, g', ob'⟩ [.cell 4 3, .cell 5 27] (bx fun avs => pack avs = .tup [iv .i64 22, iv .i64 3]) := by
      simp (config := { maxSteps := 1000000 }) only [go_sem,↓reduceIte,z4, z5, x4, x5, y4, y5]
      rfl
    obtain ⟨v, avs, h1, h2, h3, _⟩ := evalR_results (fn := Tryz.f42) Tt_ok hr6 (by rfl) hE
    refine ⟨v, h1, v, _, _, _, β6, rfl, ⟨h2, hfr⟩, h3, hr6.obj, hr6.inj, ?_⟩
    have hta := (hφ4.2.2.trans ht5).trans ht6
    exact ⟨hta.size, hta.old, hta.keep, hta.os⟩

end Go.Proofs.YtiaalcpkhlnpcabGreatDoor

namespace Go.Proofs.YtiaalcpkhlnpcabGreatDoor
open Go Go.Am Go.Asm

theorem frzD {s : St} (xs : List D) : FrzV s (.agg (xs.map .d)) (.agg ((xs.map normD).map .d)) := by
  refine ⟨xs.map normD, by simp, fun i c hc => ?_, rfl⟩
  rw [List.getElem?_map] at hc ⊢
  cases hq : xs[i]? with
  | none => rw [hq] at hc; cases hc
  | some x => rw [hq] at hc; cases hc; exact ⟨_, rfl, .d x⟩
def emptyD : D := .sl []

set_option maxHeartbeats 4000000 in
theorem Prog_G {o : Hold} (ho : TokO o) : PureG Tryz.prog 5 o 27 [sv srcT] (· = .tup [.agg [.d (.sl []), .d (.sl []), .d (.sl [])], iv .i64 22, iv .i64 3]) := by
  refine pure_of_wpG2 0 5 o Tt_ok mixed Tryz.func27 rfl (by rfl) [.cell 2 69, .tmp 3, .tmp 4] rfl (by kernel_rfl) (by kernel_rfl) (by simp [Tryz.ntmps27]) fun b₀ β0 s0 w0 g => ?_
  simp (config := { maxSteps := 1000000 }) only [go_sem,↓reduceIte]
  refine hook_funG kept_phiG (fun s β ds w h => h.1) rfl (by simp (config := { maxSteps := 1000000 }) only [go_sem,↓reduceIte]; exact read_G ho _) ?_
  rintro _ g1 ob1 ⟨rfl, f1⟩
  have e2 := (f1 2 (by decide)).1
  have o2 := (f1 2 (by decide)).2
  simp [upd] at e2 o2
  simp (config := { maxSteps := 1000000 }) only [go_sem,↓reduceIte,e2, o2]
  exact ⟨_, ⟨_, ⟨_, _, rfl, frzD [.nsl, .nsl, .nsl], _, _, rfl, frz1 _, _, _, rfl, frz1 _, rfl⟩, rfl⟩, rfl⟩

set_option maxHeartbeats 4000000 in
theorem then32_A {e : Int} (he : ¬ e = 0) {f : Nat} : PureR Tryz.prog 28 [.agg [.d (.sl []), .d (.sl []), .d (.sl [])], iv .i64 e, .one (.d (.fn f))] (· = .tup [.agg [.d (.sl []), .d (.int .i64 0)], iv .i64 e]) := by
  refine pure_of_wpR Tt_ok mixed Tryz.func28 rfl (by rfl) [.cell 6 24, .tmp 7] rfl (by kernel_rfl) (by simp [Tryz.ntmps28]) fun g => ?_
  simp (config := { maxSteps := 1000000 }) only [go_sem,↓reduceIte,he]
  exact ⟨_, ⟨_, ⟨_, _, rfl, frzD [.nsl, .int .i64 0], _, _, rfl, frz1 _, rfl⟩, rfl⟩, rfl⟩

set_option maxHeartbeats 4000000 in
theorem then34_A {e : Int} (he : ¬ e = 0) {f : Nat} : PureR Tryz.prog 30 [.agg [.d (.sl []), .d (.int .i64 0)], iv .i64 e, .one (.d (.fn f))] (· = .tup [sv [], iv .i64 e]) := by
  refine pure_of_wp Tt_ok mixed Tryz.func30 rfl (by rfl) [6, 7] rfl (by kernel_rfl) (by simp [Tryz.ntmps30]) fun g => ?_
  simp (config := { maxSteps := 1000000 }) only [go_sem,↓reduceIte,he]

set_option maxHeartbeats 4000000 in
theorem Compile_G {o : Hold} (ho : TokO o) : PureG Tryz.prog 5 o 15 [sv srcT] (· = .tup [sv [], iv .i64 22, iv .i64 3]) := by
  refine pure_of_wpG2 0 5 o Tt_ok mixed Tryz.func15 rfl (by rfl) [.tmp 2, .tmp 3, .tmp 4] rfl (by kernel_rfl) (by kernel_rfl) (by simp [Tryz.ntmps15]) fun b₀ β0 s0 w0 g => ?_
  simp (config := { maxSteps := 1000000 }) only [go_sem,↓reduceIte]
  refine hook_callG kept_phiG (fun s β ds w h => h.1.2) rfl (by simp (config := { maxSteps := 1000000 }) only [go_sem,↓reduceIte]; exact Prog_G ho) (by simp (config := { maxSteps := 1000000 }) only [go_sem,↓reduceIte]; rfl) ?_
  rintro _ rfl
  simp (config := { maxSteps := 1000000 }) only [go_sem,↓reduceIte]
  refine hook_callF kept_phiG rfl (by simp (config := { maxSteps := 1000000 }) only [go_sem,↓reduceIte]; exact then32_A (by decide)) (by simp (config := { maxSteps := 1000000 }) only [go_sem,↓reduceIte]; rfl) ?_
  rintro _ rfl
  simp (config := { maxSteps := 1000000 }) only [go_sem,↓reduceIte]
  refine hook_callF kept_phiG rfl (by simp (config := { maxSteps := 1000000 }) only [go_sem,↓reduceIte]; exact then34_A (by decide)) (by simp (config := { maxSteps := 1000000 }) only [go_sem,↓reduceIte]; rfl) ?_
  rintro _ rfl
  simp (config := { maxSteps := 1000000 }) only [go_sem,↓reduceIte]
  exact ⟨_, ⟨_, ⟨_, _, rfl, frz1 _, _, _, rfl, frz1 _, _, _, rfl, frz1 _, rfl⟩, rfl⟩, rfl⟩

set_option maxHeartbeats 4000000 in
theorem Grow_G {o : Hold} (ho : TokO o) (n : Int) : PureG Tryz.prog 5 o 8 [sv srcT, iv .i64 n] (· = .tup [.one (.d (.sl [])), iv .i64 3]) := by
  refine pure_of_wpG2 0 5 o Tt_ok mixed Tryz.func8 rfl (by rfl) [.tmp 4, .tmp 5] rfl (by kernel_rfl) (by kernel_rfl) (by simp [Tryz.ntmps8]) fun b₀ β0 s0 w0 g => ?_
  simp (config := { maxSteps := 1000000 }) only [go_sem,↓reduceIte]
  refine hook_callG kept_phiG (fun s β ds w h => h.1.2) rfl (by simp (config := { maxSteps := 1000000 }) only [go_sem,↓reduceIte]; exact Compile_G ho) (by simp (config := { maxSteps := 1000000 }) only [go_sem,↓reduceIte]; rfl) ?_
  rintro _ rfl
  simp (config := { maxSteps := 1000000 }) only [go_sem,↓reduceIte]
  exact ⟨_, ⟨_, ⟨_, _, rfl, frz1 .nsl, _, _, rfl, frz1 _, rfl⟩, rfl⟩, rfl⟩

end Go.Proofs.YtiaalcpkhlnpcabGreatDoor

namespace Go.Proofs.YtiaalcpkhlnpcabGreatDoor
open Go Go.Am Go.Asm Go.RowKit Go.Sort Go.Lib Go.Proofs

set_option maxHeartbeats 12800000 in
set_option maxRecDepth 100000 in
theorem FormatUint_W (u : Nat) (hu64 : u < 18446744073709551616) (w : World) (htab : Lib.TabIs Tryz.prog w "internal/strconv.uint64pow10" .u64 Lib.pow10Tab) :
    Calls Tryz.prog 41 #[.int .u64 u, .int .i64 10] w fun e w' => e = .returned (.string ⟨(Lib.decDigits u).toArray⟩) ∧ ∃ k os, w' = grow (w.drewN k) os := by
  have mixed : Tryz.prog.follows .mixedOrders = true := by kernel_rfl
  have t3 : Tryz.prog.underlying 3 = some (.int .i64) := lay171.t3; have a3 : ∀ w, (isAgg 3).run Tryz.prog w = .ok false w := lay171.a3; have z3 : ∀ w, (Go.sizeOf 3).run Tryz.prog w = .ok 1 w := lay171.z3
  have v3 : ∀ w, (zeroValue 3).run Tryz.prog w = .ok (.int .i64 0) w := lay171.v3
  have t9 : Tryz.prog.underlying 9 = some (.string) := lay171.t9; have a9 : ∀ w, (isAgg 9).run Tryz.prog w = .ok false w := lay171.a9; have z9 : ∀ w, (Go.sizeOf 9).run Tryz.prog w = .ok 1 w := lay171.z9
  have v9 : ∀ w, (zeroValue 9).run Tryz.prog w = .ok (.string ⟨#[]⟩) w := lay171.v9
  have t4 : Tryz.prog.underlying 4 = some (.bool) := lay171.t4; have a4 : ∀ w, (isAgg 4).run Tryz.prog w = .ok false w := lay171.a4; have z4 : ∀ w, (Go.sizeOf 4).run Tryz.prog w = .ok 1 w := lay171.z4
  have v4 : ∀ w, (zeroValue 4).run Tryz.prog w = .ok (.bool false) w := lay171.v4
  have t171 : Tryz.prog.underlying 124 = some (.array 24 5) := lay171.t171; have a171 : ∀ w, (isAgg 124).run Tryz.prog w = .ok true w := lay171.a171; have z171 : ∀ w, (Go.sizeOf 124).run Tryz.prog w = .ok 24 w := lay171.z171
  have v171 : ∀ w, (zeroValue 124).run Tryz.prog w = .ok (.agg Lib.zeros24) w := lay171.v171
  have t0 : Tryz.prog.underlying 0 = some (.tuple #[]) := lay171.t0; have a0 : ∀ w, (isAgg 0).run Tryz.prog w = .ok false w := lay171.a0; have z0 : ∀ w, (Go.sizeOf 0).run Tryz.prog w = .ok 1 w := lay171.z0
  have v0 : ∀ w, (zeroValue 0).run Tryz.prog w = .ok (.tuple #[]) w := lay171.v0
  have t53 : Tryz.prog.underlying 64 = some (.int .u64) := lay171.t53; have a53 : ∀ w, (isAgg 64).run Tryz.prog w = .ok false w := lay171.a53; have z53 : ∀ w, (Go.sizeOf 64).run Tryz.prog w = .ok 1 w := lay171.z53
  have v53 : ∀ w, (zeroValue 64).run Tryz.prog w = .ok (.int .u64 0) w := lay171.v53
  have t37 : Tryz.prog.underlying 36 = some (.slice 5) := lay171.t37; have a37 : ∀ w, (isAgg 36).run Tryz.prog w = .ok false w := lay171.a37; have z37 : ∀ w, (Go.sizeOf 36).run Tryz.prog w = .ok 1 w := lay171.z37
  have v37 : ∀ w, (zeroValue 36).run Tryz.prog w = .ok (.slice none 0 0) w := lay171.v37
  have t5 : Tryz.prog.underlying 5 = some (.int .u8) := lay171.t5; have a5 : ∀ w, (isAgg 5).run Tryz.prog w = .ok false w := lay171.a5; have z5 : ∀ w, (Go.sizeOf 5).run Tryz.prog w = .ok 1 w := lay171.z5
  have v5 : ∀ w, (zeroValue 5).run Tryz.prog w = .ok (.int .u8 0) w := lay171.v5
  by_cases hs : u < 100
  · have hsm : ∀ w, Calls Tryz.prog 60 #[.int .i64 u] w fun e w' => e = .returned (.string ⟨(Lib.decDigits u).toArray⟩) ∧ w' = w := fun w => Any.internal_strconv_small { lay171 with } u hs w
    go_enter Tryz.func41, Tryz.ntmps41
    go_wp2_with (refine (hsm _).mono ?_; rintro e w' ⟨rfl, rfl⟩)
    go_ret
    exact ⟨rfl, 0, #[], by simp [World.drewN_zero]⟩
  · have hu1 : 1 ≤ u := by omega
    have hnd20 : Lib.nDigits u ≤ 20 := by have := Lib.numDigits_eq u hu1 hu64; split at this <;> omega
    have hb3 : Lib.nDigits u ≤ 23 := by omega
    have hal : Tryz.prog.arrayLen 124 = 24 := by simp [Program.arrayLen, t171]
    have hsl1 : ∀ W, (Instr.sliceAt 124 (.pointer (some ⟨w.heap.size, 0, none⟩)) none (some (.int .i64 (Lib.nDigits u : Int))) none).run Tryz.prog W = .ok (.slice (some ⟨w.heap.size, 0, none⟩) (Lib.nDigits u) 24) W := fun W => by
      rw [run_sliceAt_array_h W 124 ⟨w.heap.size, 0, none⟩ (by simp [Program.arrayLen, Program.elem, t171]) .i64 (Lib.nDigits u : Int) (by omega) (by rw [hal]; omega)]
      go_simp
    have hH0 : Holds (fun (b : UInt8) => Value.int .u8 (b.toNat : Int)) (w.alloc (.cells Lib.zeros24 124)) w.heap.size 0 (Array.replicate (Lib.nDigits u) 0) := fun j hj => by
      have hj' : j < Lib.nDigits u := by simpa using hj
      refine ⟨?_, World.frozen?_alloc_new _ _ _ _⟩
      rw [World.cell?_alloc_new, Lib.zeros24_at _ (by omega), getElem!_pos _ j hj]
      simp
    have hfmt : Calls Tryz.prog 62 #[.slice (some ⟨w.heap.size, 0, none⟩) (Lib.nDigits u) 24, .int .u64 u] (w.alloc (.cells Lib.zeros24 124)) fun e w' =>
        e = .returned (.tuple #[]) ∧ ∃ (n v' : Nat) (dk : Array UInt8), w' = (putRow (fun (b : UInt8) => Value.int .u8 (b.toNat : Int)) (w.alloc (.cells Lib.zeros24 124)) w.heap.size 0 dk).drewN n ∧ FmtInv (Lib.nDigits u) u 0 v' dk := by
      have h := Any.internal_strconv_formatBase10 { lay171 with } w.heap.size 0 24 u (Array.replicate (Lib.nDigits u) 0) (w.alloc (.cells Lib.zeros24 124)) hH0 (by rw [Array.size_replicate]; exact Lib.lt_pow_nDigits u) hu64 (by rw [Array.size_replicate]; omega)
      rw [Array.size_replicate] at h
      exact h
    have hnum : ∀ w, Lib.TabIs Tryz.prog w "internal/strconv.uint64pow10" .u64 Lib.pow10Tab → Calls Tryz.prog 61 #[.int .u64 u] w fun e w' => e = .returned (.int .i64 (Lib.nDigits u)) ∧ w' = w := fun w h => Any.internal_strconv_numDigits { lay171 with } u hu1 hu64 w h
    have HH0 := Lib.hid hH0
    clear hH0 hal
    go_enter Tryz.func41, Tryz.ntmps41
    go_wp2_with (first
      | (refine (hnum _ (Lib.tabIs_alloc htab _)).mono ?_; rintro e w' ⟨rfl, rfl⟩))
    refine hfmt.mono ?_
    rintro e w' ⟨rfl, k, v', dk, rfl, hF⟩
    have hcv : (convert 36 9 (.slice (some ⟨w.heap.size, 0, none⟩) (Lib.nDigits u) 24)).run Tryz.prog ((putRow (fun (b : UInt8) => Value.int .u8 (b.toNat : Int)) (w.alloc (.cells Lib.zeros24 124)) w.heap.size 0 dk).drewN k) = .ok (.string ⟨(Lib.decDigits u).toArray⟩) ((putRow (fun (b : UInt8) => Value.int .u8 (b.toNat : Int)) (w.alloc (.cells Lib.zeros24 124)) w.heap.size 0 dk).drewN k) := by
      have h := run_convert_bytes_back (P := Tryz.prog) ((putRow (fun (b : UInt8) => Value.int .u8 (b.toNat : Int)) (w.alloc (.cells Lib.zeros24 124)) w.heap.size 0 dk).drewN k) 36 9 5 ⟨w.heap.size, 0, none⟩ 24 (Lib.decDigits u) t37 t5 t9 (fun j hj => by
        rw [Lib.row_is_numeral hF j hj, Lib.add_plain, World.cell?_drewN]
        exact cell?_putRow (fun (b : UInt8) => Value.int .u8 (b.toNat : Int)) _ w.heap.size 0 _ dk HH0.out (by rw [hF.size, Array.size_replicate]) j (by rw [hF.size]; rw [Lib.decDigits_length] at hj; exact hj))
      rw [Lib.decDigits_length] at h
      exact h
    go_wp2
    go_ret
    obtain ⟨os', _, e⟩ := putRow_grow_new (fun (b : UInt8) => Value.int .u8 (b.toNat : Int)) w #[.cells Lib.zeros24 124] w.heap.size 0 dk (Nat.le_refl _)
    rw [← alloc_eq_grow] at e
    exact ⟨rfl, k, os', by rw [e]; rfl⟩

end Go.Proofs.YtiaalcpkhlnpcabGreatDoor

namespace Go.Proofs.YtiaalcpkhlnpcabGreatDoor
open Go Go.Am Go.Asm Go.RowKit Go.Sort Go.Lib Go.Proofs

/-- The table of the powers of ten. -/
def PowO (o : Hold) : Prop := ∀ w : World, Held 5 o w → Lib.TabIs Tryz.prog w "internal/strconv.uint64pow10" .u64 Lib.pow10Tab

theorem grown (w : World) (k : Nat) (os : Array Obj) : w.heap.size ≤ (grow (w.drewN k) os).heap.size ∧ (∀ b, b < w.heap.size → (grow (w.drewN k) os).heap[b]? = w.heap[b]?) ∧ ((grow (w.drewN k) os).os = w.os ∧ (grow (w.drewN k) os).output = w.output) :=
  ⟨by rw [size_grow]; exact Nat.le_add_right _ _, fun b hb => heap_grow_old (w.drewN k) os hb, rfl, rfl⟩

theorem Itoa_G {o : Hold} (ho : PowO o) (n : Nat) (hn : n ≤ 9223372036854775807) : PureG Tryz.prog 5 o 24 [iv .i64 n] (· = sv (Lib.decDigits n)) := by
  refine pureG_of_shelf ⟨_, Tryz.func24, rfl, by rfl⟩ rfl rfl fun w hG => ?_
  have h : Calls Tryz.prog 24 #[.int .i64 n] w _ := Any.strconv_Itoa lay171 n (by omega) (by omega) w (ho w hG)
  rw [Lib.itoa_nonneg] at h
  exact h.mono fun e w' ⟨h1, k, os, h2⟩ => by
    subst h2
    exact ⟨h1, grown w k os⟩

theorem FormatUint45_G {o : Hold} (ho : PowO o) (n : Nat) (hn : n < 18446744073709551616) : PureG Tryz.prog 5 o 41 [iv .u64 n, iv .i64 10] (· = sv (Lib.decDigits n)) := by
  refine pureG_of_shelf ⟨_, Tryz.func41, rfl, by rfl⟩ rfl rfl fun w hG => ?_
  exact (FormatUint_W n hn w (ho w hG)).mono fun e w' ⟨h1, k, os, h2⟩ => by
    subst h2
    exact ⟨h1, grown w k os⟩

theorem FormatUint_G {o : Hold} (ho : PowO o) (n : Nat) (hn : n < 18446744073709551616) : PureG Tryz.prog 5 o 26 [iv .u64 n, iv .i64 10] (· = sv (Lib.decDigits n)) := by
  refine pure_of_wpG2 0 5 o Tt_ok mixed Tryz.func26 rfl (by rfl) [.tmp 4] rfl (by kernel_rfl) (by kernel_rfl) (by simp [Tryz.ntmps26]) fun b₀ β0 s0 w0 g => ?_
  simp (config := { maxSteps := 1000000 }) only [go_sem,↓reduceIte]
  refine hook_callG kept_phiG (fun s β ds w h => h.1.2) rfl (by simp (config := { maxSteps := 1000000 }) only [go_sem,↓reduceIte]; exact FormatUint45_G ho n hn) (by simp (config := { maxSteps := 1000000 }) only [go_sem,↓reduceIte]; rfl) ?_
  rintro _ rfl
  simp (config := { maxSteps := 1000000 }) only [go_sem,↓reduceIte]

theorem Text_G {o : Hold} (ho : PowO o) (n : Nat) (hn : n < 4294967296) : PureG Tryz.prog 5 o 13 [iv .u32 n] (· = sv (Lib.decDigits n)) := by
  refine pure_of_wpG2 0 5 o Tt_ok mixed Tryz.func13 rfl (by rfl) [.tmp 2] rfl (by kernel_rfl) (by kernel_rfl) (by simp [Tryz.ntmps13]) fun b₀ β0 s0 w0 g => ?_
  have hw : IntKind.u64.wrap (n : Int) = (n : Int) := by rw [IntKind.wrap_u64]; omega
  simp (config := { maxSteps := 1000000 }) only [go_sem,↓reduceIte,hw]
  refine hook_callG kept_phiG (fun s β ds w h => h.1.2) rfl (by simp (config := { maxSteps := 1000000 }) only [go_sem,↓reduceIte]; exact FormatUint_G ho n (by omega)) (by simp (config := { maxSteps := 1000000 }) only [go_sem,↓reduceIte]; rfl) ?_
  rintro _ rfl
  simp (config := { maxSteps := 1000000 }) only [go_sem,↓reduceIte]

end Go.Proofs.YtiaalcpkhlnpcabGreatDoor

namespace Go.Proofs.YtiaalcpkhlnpcabGreatDoor
open Go Go.Am Go.RowKit

theorem und34 : Tryz.prog.underlying 35 = some (.pointer 38) := by kernel_rfl
theorem und79 : Tryz.prog.underlying 80 = some .unsafePointer := by kernel_rfl
theorem und37 : Tryz.prog.underlying 38 = some (.struct #[⟨"addr", 35, 0, false, "", "strings", 0⟩, ⟨"buf", 36, 1, false, "", "strings", 8⟩]) := by kernel_rfl
theorem und4 : Tryz.prog.underlying 4 = some .bool := by kernel_rfl
theorem size37 : ∃ j, Tryz.prog.info? 38 = some j ∧ j.size = 2 := by
  obtain ⟨i, hi, hs, _⟩ := ty38.info
  exact ⟨i, hi, hs⟩
theorem size34 : ∃ j, Tryz.prog.info? 35 = some j ∧ j.size = 1 := by
  obtain ⟨i, hi, hs, _⟩ := ty35.info
  exact ⟨i, hi, hs⟩

set_option maxHeartbeats 1000000 in
set_option maxRecDepth 100000 in
theorem copyCheck_used (b : Nat) (w : World) (h0 : w.cell? ⟨b, 0, none⟩ = some (.pointer (some ⟨b, 0, none⟩))) :
    Calls Tryz.prog 23 #[.pointer (some ⟨b, 0, none⟩)] w fun e w' => e = .returned (.tuple #[]) ∧ w' = w := by
  obtain ⟨j, hj, _⟩ := size37
  have u34 := run_underlying und34
  have u37 := run_underlying und37
  have u4 := run_underlying und4
  go_enter Tryz.func23, Tryz.ntmps23
  go_wp2
  rw [Lib.run_neq_ptr_same w _ und34 hj]
  go_wp2
  go_end0
  exact ⟨rfl, rfl⟩

theorem cells37 : Tryz.prog.cellsOf 38 = 2 := by kernel_rfl
theorem lies37 {n : Nat} (hn : 2 ≤ n) : liesAt Tryz.prog Tryz.prog.depth 38 (n / Tryz.prog.cellsOf 38) 0 38 1 = true := by
  rw [cells37]
  have hd : Tryz.prog.depth = (2 * (Tryz.prog.types.size + Made.depth) + 1) + 1 := rfl
  have h1 : 1 ≤ n / 2 := by omega
  rw [hd]
  simp only [liesAt, Bool.or_eq_true]
  left
  rw [hd]
  simp [rowAt, cells37, h1, sameLayout]

set_option maxHeartbeats 1000000 in
set_option maxRecDepth 100000 in
theorem copyCheck_fresh (b n : Nat) (w : World) (h0 : w.cell? ⟨b, 0, none⟩ = some (.pointer none)) (hsh : w.shape? b = some (38, n)) (hn : 2 ≤ n) (hfz : w.frozen? ⟨b, 0, none⟩ = false) :
    Calls Tryz.prog 23 #[.pointer (some ⟨b, 0, none⟩)] w fun e w' => e = .returned (.tuple #[]) ∧ w' = w.setCell ⟨b, 0, none⟩ (.pointer (some ⟨b, 0, none⟩)) := by
  obtain ⟨j, hj, hjs⟩ := size37
  obtain ⟨j9, hj9, hj9s⟩ := size34
  have u34 := run_underlying und34
  have u37 := run_underlying und37
  have u4 := run_underlying und4
  have u79 := run_underlying und79
  go_enter Tryz.func23, Tryz.ntmps23
  go_wp2
  rw [Lib.run_to_unsafe w ⟨b, 0, none⟩ und34 und79 hj (by rw [hjs]; decide) hsh (by show 0 < n; omega)]
  simp only [Result.andThen]
  rw [Oper.upon_value]
  go_wp2
  rw [run_callFunc_extern Tryz.func36 (by kernel_rfl) (by kernel_rfl) (by kernel_rfl) (e := Extern.AbiNoEscape.same) (by kernel_rfl)]
  rw [Lib.run_noEscape]
  simp only [Result.andThen]
  rw [Oper.upon_value]
  go_wp2
  rw [Lib.run_from_unsafe w ⟨b, 0, none⟩ und79 und34 hj hsh (lies37 hn)]
  simp only [Result.andThen]
  rw [Oper.upon_value]
  go_wp2
  go_end0
  exact ⟨rfl, rfl⟩

theorem fine26 : Fine Tryz.prog 23 := ⟨_, Tryz.func23, rfl, by rfl⟩

/-- Behind it the builder knows its own address. -/
theorem copyCheck_A {b gb : Nat} {g : Nat → Nat} {ob : Obs} {a buf : C} (hg : g b = gb) (hc : code gb = 39) (ho : ob b = some [a, buf]) (ha : a = .d .nilp ∨ a = .ptr b gb 0) :
    FunR Tryz.prog 23 [.one (.ptr b gb 0)] g ob (fun r g' ob' => r = uv ∧ g' = g ∧ ob' = upd ob b (some [.ptr b gb 0, buf])) := by
  refine ⟨fine26, fun b₀ N β ac fa w vs hr hv => ?_⟩
  simp only [RepVs] at hv
  obtain ⟨u, us, rfl, hu, rfl⟩ := hv
  have hu0 := hu
  simp only [RepV, RepC] at hu
  obtain ⟨ad, hβ, hsp, rfl⟩ := hu.2.2 hg (by rw [ho]; rfl)
  have hob := hr.obj b _ ho
  rw [hβ] at hob
  obtain ⟨hB, arr, el, lo, hi, hblk, ⟨hfr, hcl⟩, hlen, hcells⟩ := hob.cells hsp
  simp only at hcl
  rw [hg, hc] at hcl
  obtain ⟨hel, hoff⟩ := hcl (by omega)
  have hel : el = 38 := Nat.add_right_cancel (m := 1) hel
  subst hel
  simp only [List.length_cons, List.length_nil] at hlen
  rw [hoff] at hlen
  simp only [Nat.add_zero, hoff]
  have hun : RepV b₀ β g ob w uv (.tuple #[]) := undefRep
  obtain ⟨v0, hv0, hr0⟩ := hcells 0 a rfl
  rw [hoff] at hv0
  have hcell : w.cell? ⟨ad.block, 0, none⟩ = some v0 := by rw [cell?_of_arr hblk]; exact hv0
  rcases ha with rfl | rfl
  · -- it stores its address
    have hv : v0 = .pointer none := by simp only [RepC] at hr0; cases hr0; rfl
    subst hv
    have hst : storeA (Tt 35) ⟨fa, g, ob⟩ (.one (.ptr b gb 0)) (.one (.ptr b gb 0)) (bx fun s' => s' = ⟨fa, g, upd ob b (some [.ptr b gb 0, buf])⟩) := by
      simp (config := { maxSteps := 1000000 }) only [go_sem,↓reduceIte,hg, ho]
    obtain ⟨s', w', rfl, h1, h2, h3⟩ := storeA_sound Tt_ok hr hst hu0 hu0
    have hrun := run_storeVar_at (P := Tryz.prog) (w := w) (t := 35) (ti := Tt 35) ty35 (b := ad.block) (o := 0) (v := .pointer (some ⟨ad.block, 0, none⟩)) (vs := [.pointer (some ⟨ad.block, 0, none⟩)]) rfl rfl (by simp [Value.oneCell']) hblk hfr (by simp only [List.length_cons, List.length_nil]; omega)
    simp only [Nat.add_zero, hoff] at h1
    rw [h1] at hrun
    have hw' : w' = w.setCells ad.block 0 [.pointer (some ⟨ad.block, 0, none⟩)] := by injection hrun
    refine (copyCheck_fresh ad.block arr.size w hcell (by simp [World.shape?, hblk]) (by omega) (frozen_of hblk hfr (by omega))).mono fun e w2 ⟨q1, q2⟩ => ?_
    have hw2 : w2 = w' := by rw [q2, hw']; rfl
    subst hw2
    exact ⟨_, uv, g, _, β, q1, ⟨rfl, rfl, rfl⟩, undefRep, h2.obj, h2.inj, h3⟩
  · have hv : v0 = .pointer (some ⟨ad.block, 0, none⟩) := by
      simp only [RepC] at hr0
      obtain ⟨ad', hβ', _, e⟩ := hr0.2.2 hg (by rw [ho]; rfl)
      rw [hβ] at hβ'; cases hβ'
      rw [e, hoff]
    subst hv
    refine (copyCheck_used ad.block w hcell).mono fun e w' ⟨h1, h2⟩ => ?_
    subst h2
    have he : upd ob b (some [.ptr b gb 0, buf]) = ob := by funext i; simp only [upd]; split <;> simp_all
    exact ⟨_, uv, g, ob, β, h1, ⟨rfl, rfl, he.symm⟩, hun, hr.obj, hr.inj, Tr.refl⟩


def byteC (c : UInt8) : C := .d (.int .u8 c.toNat)

/-- A builder b that holds bs; its bytes lie in the object ib. -/
structure Bld (b ib gb : Nat) (bs : List UInt8) (g : Nat → Nat) (ob : Obs) : Prop where
  gen : g b = gb
  code : code gb = 39
  obj : ∃ a, (a = .d .nilp ∨ a = .ptr b gb 0) ∧ ((bs = [] ∧ ob b = some [a, .d .nsl] ∧ ob ib = none) ∨ (bs ≠ [] ∧ ob b = some [a, .osl ib (g ib) 1 0 bs.length] ∧ Go.Am.code (g ib) = 6 ∧ ob ib = some (bs.map byteC)))
  ne : b ≠ ib

set_option maxHeartbeats 2000000 in
theorem WriteString_A {b B gb : Nat} {bs : List UInt8} {g : Nat → Nat} {ob : Obs} (t : List UInt8) (h : Bld b (B + 14) gb bs g ob) (hb : b < B) (ht : t ≠ []) (hl : bs.length ≤ 1000000000) (hl2 : t.length ≤ 1000000000) (hfree : ∀ i, B ≤ i → i ≠ B + 14 → ob i = none) :
    FunR Tryz.prog 10 [.one (.ptr b gb 0), sv t] g ob (fun r g' ob' => r = .tup [iv .i64 t.length, .one (.d .nili)] ∧ Bld b (B + 14) gb (bs ++ t) g' ob' ∧ (∀ i, i < B → g' i = g i) ∧ (∀ i, i < B → i ≠ b → ob' i = ob i) ∧ ∀ i, B ≤ i → i ≠ B + 14 → ob' i = none) := by
  refine fun_of_wp B Tt_ok mixed Tryz.func10 rfl (by rfl) [4, 5] rfl (by kernel_rfl) (by simp [Tryz.ntmps10]) ?_
  obtain ⟨hg, hcd, ⟨a, ha, hobj⟩, hne⟩ := h
  have n14 := ne_lo hb 14
  have m14 := ne_hi hb 14
  simp (config := { maxSteps := 1000000 }) only [go_sem,↓reduceIte]
  rcases hobj with ⟨rfl, ho, hi⟩ | ⟨hbs, ho, hc2, hi⟩
  · refine hook_fun rfl (by simp (config := { maxSteps := 1000000 }) only [go_sem,↓reduceIte]; exact copyCheck_A hg hcd ho ha) ?_
    rintro _ g' ob' ⟨rfl, rfl, rfl⟩
    simp (config := { maxSteps := 1000000 }) only [go_sem,↓reduceIte,hg, ho, n14, elemTy]
    refine ⟨⟨by decide, by omega⟩, _, SemVs.refl _, ⟨by simp only [resAV, upd]; rfl, ⟨?_, hcd, ⟨_, .inr rfl, .inr ⟨by simpa using ht, ?_, ?_, ?_⟩⟩, hne⟩, fun i hi => ?_, fun i hi hib => ?_, fun i hi hi' => ?_⟩⟩
    · simp [upd, n14, hg]
    · simp [upd, n14]
    · simp [upd, code_nxC]
    · simp [upd, m14]; intros; rfl
    · simp only [upd, if_neg (show ¬ i = B + 14 by omega)]
    · simp [upd, show ¬ i = B + 14 by omega, hib]
    · simp [upd, hi', show ¬ i = b by omega, hfree i hi hi']
  · refine hook_fun rfl (by simp (config := { maxSteps := 1000000 }) only [go_sem,↓reduceIte]; exact copyCheck_A hg hcd ho ha) ?_
    rintro _ g' ob' ⟨rfl, rfl, rfl⟩
    simp (config := { maxSteps := 1000000 }) only [go_sem,↓reduceIte,hg, ho, n14, m14, elemTy, hi]
    refine ⟨by simp, ⟨by decide, by omega⟩, _, SemVs.refl _, ⟨by simp only [resAV, upd]; rfl, ⟨?_, hcd, ⟨_, .inr rfl, .inr ⟨by simp [hbs], ?_, ?_, ?_⟩⟩, hne⟩, fun i hi => ?_, fun i hi hib => ?_, fun i hi hi' => ?_⟩⟩
    · simp [upd, n14, hg]
    · simp [upd, n14]
    · simp [upd, code_nxC, apC, hc2]
    · rw [List.take_of_length_le (by simp)]
      simp [upd, m14]; intros; rfl
    · simp only [upd, if_neg (show ¬ i = B + 14 by omega)]
    · simp [upd, show ¬ i = B + 14 by omega, hib]
    · simp [upd, hi', show ¬ i = b by omega, hfree i hi hi']


theorem und64 : Tryz.prog.underlying 65 = some (.pointer 5) := by kernel_rfl
theorem cells5 : Tryz.prog.cellsOf 5 = 1 := by kernel_rfl

set_option maxHeartbeats 2000000 in
theorem String_A {b ib gb : Nat} {bs : List UInt8} {g : Nat → Nat} {ob : Obs} (h : Bld b ib gb bs g ob) (hl : bs.length ≤ 1000000000) :
    FunR Tryz.prog 14 [.one (.ptr b gb 0)] g ob (fun r g' ob' => r = sv bs ∧ g' = g ∧ ∀ i, i ≠ ib → ob' i = ob i) := by
  refine fun_of_wp 0 Tt_ok mixed Tryz.func14 rfl (by rfl) [2] rfl (by kernel_rfl) (by simp [Tryz.ntmps14]) ?_
  obtain ⟨hg, hcd, ⟨a, ha, hobj⟩, hne⟩ := h
  rcases hobj with ⟨rfl, ho, hi⟩ | ⟨hbs, ho, hc2, hi⟩
  · simp (config := { maxSteps := 1000000 }) only [go_sem,↓reduceIte]
    refine draw_det Tt_ok mixed [] [([0], [], [], false), ([3], [], [], false), ([4], [], [], false), ([5], [], [], false), ([6], [], [], false), ([0], [], [], false), ([8], [], [], false), ([9], [], [], false), ([10], [], [], false), ([11], [], [], false), ([7, 12], [], [], false), ([13], [], [], true)] 0 (by decide +kernel) rfl (by decide) ?_
    simp (config := { maxSteps := 1000000 }) only [go_sem,↓reduceIte]
    iterate 4 (apply det_pure; · (intro fa ga oa K' hK; simp (config := { maxSteps := 1000000 }) only [go_sem,↓reduceIte,hg, ho] at hK ⊢; exact hK))
    refine det_pure (v := .one (.d .nilp)) (fun fa ga oa K' hK => ?_) ?_
    · simp (config := { maxSteps := 1000000 }) only [go_sem,↓reduceIte] at hK ⊢
      refine hook_usd_nil (k := bx K') rfl (by simp (config := { maxSteps := 1000000 }) only [go_sem,↓reduceIte]) ?_
      simp (config := { maxSteps := 1000000 }) only [go_sem,↓reduceIte]
      exact hK
    iterate 5 (apply det_pure; · (intro fa ga oa K' hK; simp (config := { maxSteps := 1000000 }) only [go_sem,↓reduceIte,hg, ho] at hK ⊢; exact hK))
    refine det_pure (v := sv []) (fun fa ga oa K' hK => ?_) ?_
    · simp (config := { maxSteps := 1000000 }) only [go_sem,↓reduceIte] at hK ⊢
      refine hook_ustr_nil (k := bx K') rfl (by simp (config := { maxSteps := 1000000 }) only [go_sem,↓reduceIte]) (by simp (config := { maxSteps := 1000000 }) only [go_sem,↓reduceIte]) ?_
      simp (config := { maxSteps := 1000000 }) only [go_sem,↓reduceIte]
      exact hK
    apply det_last
    intro K' hK'
    simp (config := { maxSteps := 1000000 }) only [go_sem,↓reduceIte]
    refine hK' _ ?_
    clear hK' K'
    simp (config := { maxSteps := 1000000 }) only [go_sem,↓reduceIte]
    exact ⟨_, SemVs.refl _, by simp only [resAV, upd]; rfl, rfl, fun _ _ => rfl⟩
  · simp (config := { maxSteps := 1000000 }) only [go_sem,↓reduceIte]
    refine draw_det Tt_ok mixed [ib] [([0], [], [], false), ([3], [], [], false), ([4], [], [], false), ([5], [], [], false), ([6], [], [], false), ([0], [], [], false), ([8], [], [], false), ([9], [], [], false), ([10], [], [], false), ([11], [], [], false), ([7, 12], [], [0], false), ([13], [], [], true)] 1 (by decide +kernel) rfl (by simp) ?_
    simp (config := { maxSteps := 1000000 }) only [go_sem,↓reduceIte]
    iterate 4 (apply det_pure; · (intro fa ga oa K' hK; simp (config := { maxSteps := 1000000 }) only [go_sem,↓reduceIte,hg, ho] at hK ⊢; exact hK))
    refine det_pure (v := .one (.ptr ib (g ib) 0)) (fun fa ga oa K' hK => ?_) ?_
    · simp (config := { maxSteps := 1000000 }) only [go_sem,↓reduceIte] at hK ⊢
      refine hook_usd (k := bx K') rfl (by simp (config := { maxSteps := 1000000 }) only [go_sem,↓reduceIte]; rfl) rfl (by simp (config := { maxSteps := 1000000 }) only [go_sem,↓reduceIte,hi]) (by cases bs; exact absurd rfl hbs; simp) ?_
      simp (config := { maxSteps := 1000000 }) only [go_sem,↓reduceIte]
      exact hK
    iterate 5 (apply det_pure; · (intro fa ga oa K' hK; simp (config := { maxSteps := 1000000 }) only [go_sem,↓reduceIte,hg, ho, hi] at hK ⊢; exact hK))
    have hself : upd g ib (g ib) = g := by funext j; simp only [upd]; split <;> simp_all
    refine det_new (v := sv bs) (x := g ib) (y := none) (fun fa ga oa K' hK => ?_) ?_
    · simp (config := { maxSteps := 1000000 }) only [go_sem,↓reduceIte,hself, List.getD_cons_zero] at hK ⊢
      refine hook_ustr (k := bx K') rfl und64 cells5 (l := bs) (by simp (config := { maxSteps := 1000000 }) only [go_sem,↓reduceIte]) (by simp (config := { maxSteps := 1000000 }) only [go_sem,↓reduceIte]) rfl hc2 hi (by rw [List.take_of_length_le (by simp)]; rfl) hbs (by omega) ?_
      simp (config := { maxSteps := 1000000 }) only [go_sem,↓reduceIte]
      exact hK
    simp (config := { maxSteps := 1000000 }) only [go_sem,↓reduceIte,hself, List.getD_cons_zero]
    apply det_last
    intro K' hK'
    simp (config := { maxSteps := 1000000 }) only [go_sem,↓reduceIte]
    refine hK' _ ?_
    clear hK' K'
    simp (config := { maxSteps := 1000000 }) only [go_sem,↓reduceIte]
    refine ⟨_, SemVs.refl _, by simp only [resAV, upd]; rfl, rfl, fun i hib => ?_⟩
    simp [upd, hib]

end Go.Proofs.YtiaalcpkhlnpcabGreatDoor

namespace Go.Proofs
open Go.Shelf
end Go.Proofs

namespace Go.Proofs.YtiaalcpkhlnpcabGreatDoor
open Go Go.Am Go.Asm Go.Shelf

theorem repeat48 (n : Nat) : Lib.repeatL [48] n = List.replicate n 48 := by
  induction n with
  | zero => rfl
  | succ n ih => simp_all [Lib.repeatL, List.replicate_succ]

/-- The bytes that no letter's operand may be. -/
def badC (c : UInt8) : Bool := c == 39 || c == 35 || c == 44 || c == 58
theorem badC_idx (c : UInt8) : decide (0 ≤ idx [39, 35, 44, 58] c) = badC c := by
  unfold idx
  by_cases h : c ∈ [39, 35, 44, 58]
  · have hb : badC c = true := by
      simp only [List.mem_cons, List.not_mem_nil, or_false] at h
      unfold badC
      rcases h with rfl | rfl | rfl | rfl <;> rfl
    rw [if_pos h, hb]; simp
  · have hb : badC c = false := by
      simp only [List.mem_cons, List.not_mem_nil, or_false, not_or] at h
      simp [badC, h.1, h.2.1, h.2.2.1, h.2.2.2]
    rw [if_neg h, hb]; rfl
end Go.Proofs.YtiaalcpkhlnpcabGreatDoor

namespace Go.Proofs.YtiaalcpkhlnpcabGreatDoor
open Go Go.Am Go.Asm

def f16 (n : Nat) (c : UInt8) : Nat := 16 * n + (valI c).toNat
def f256 (n : Nat) (b : UInt8) : Nat := 256 * n + b.toNat
theorem hexV_val (c : UInt8) : hexV c = if 0 ≤ valI c then some (valI c).toNat else none := by
  unfold hexV valI digit
  by_cases h1 : 48 ≤ c.toNat ∧ c.toNat ≤ 57
  · have : (decide (48 ≤ c.toNat) && decide (c.toNat ≤ 57)) = true := by simp [h1.1, h1.2]
    rw [if_pos this, if_pos h1, if_pos (by omega)]
    congr 1; omega
  · have : ¬ (decide (48 ≤ c.toNat) && decide (c.toNat ≤ 57)) = true := by
      simp only [Bool.and_eq_true, decide_eq_true_eq]; exact h1
    rw [if_neg this, if_neg h1]
    by_cases h2 : 97 ≤ c.toNat ∧ c.toNat ≤ 102
    · rw [if_pos h2, if_pos h2, if_pos (by omega)]; congr 1; omega
    · rw [if_neg h2, if_neg h2]
      by_cases h3 : 65 ≤ c.toNat ∧ c.toNat ≤ 70
      · rw [if_pos h3, if_pos h3, if_pos (by omega)]; congr 1; omega
      · rw [if_neg h3, if_neg h3, if_neg (by omega)]
theorem hexGo_all : ∀ (s : Str) (n : Nat), hexGo n s = if allHex s = true then some (s.foldl f16 n) else none
  | [], n => rfl
  | c :: s, n => by
    unfold hexGo
    rw [hexV_val]
    by_cases h : 0 ≤ valI c
    · rw [if_pos h, Option.bind_some, hexGo_all s]
      have : allHex (c :: s) = allHex s := by simp [allHex, h]
      rw [this]; rfl
    · rw [if_neg h]
      have : allHex (c :: s) = false := by simp [allHex]; intro h2; exact absurd h2 h
      rw [this]; rfl
theorem pairs_fold : ∀ (s : Str) (n : Nat), s.length % 2 = 0 → (pairs s).foldl f256 n = s.foldl f16 n
  | [], n, _ => rfl
  | [_], n, h => by simp at h
  | a :: b :: r, n, h => by
    have h1 := valI_le a
    have h2 := valI_le b
    have e : f256 n (UInt8.ofNat (16 * (valI a).toNat + (valI b).toNat)) = f16 (f16 n a) b := by
      unfold f256 f16
      rw [UInt8.toNat_ofNat']; omega
    simp only [pairs, List.foldl_cons, e]
    exact pairs_fold r _ (by simp only [List.length_cons] at h; omega)
theorem zeros_fold (k : Nat) (s : Str) : (List.replicate k 48 ++ s).foldl f16 0 = s.foldl f16 0 := by
  rw [List.foldl_append]
  congr 1
  induction k with
  | zero => rfl
  | succ k ih => rw [List.replicate_succ, List.foldl_cons]; exact ih
theorem zeros_hex (k : Nat) (s : Str) : allHex (List.replicate k 48 ++ s) = allHex s := by
  unfold allHex
  rw [List.all_append]
  have : (List.replicate k (48 : UInt8)).all (fun c => decide (0 ≤ valI c)) = true := by
    rw [List.all_eq_true]; intro x hx; rw [List.eq_of_mem_replicate hx]; decide
  rw [this, Bool.true_and]
theorem f256_lt : ∀ (l : List UInt8) (n : Nat), l.foldl f256 n < (n + 1) * 256 ^ l.length
  | [], n => by simp
  | b :: l, n => by
    refine Nat.lt_of_lt_of_le (f256_lt l (f256 n b)) ?_
    have hb := b.toNat_lt
    rw [List.length_cons, Nat.pow_succ, show (n + 1) * (256 ^ l.length * 256) = (256 * (n + 1)) * 256 ^ l.length by rw [Nat.mul_comm (256 ^ l.length) 256, ← Nat.mul_assoc, Nat.mul_comm (n + 1) 256]]
    exact Nat.mul_le_mul_right _ (by unfold f256; omega)

def opdV : Opd → AV
  | .reg n => .agg [.d (.int .i64 1), .d (.int .u32 (n : Nat)), .d (.bool false)]
  | .num n => .agg [.d (.int .i64 2), .d (.int .u32 (n : Nat)), .d (.bool false)]
  | .great => .agg [.d (.int .i64 2), .d (.int .u32 0), .d (.bool true)]
  | .lab => .agg [.d (.int .i64 3), .d (.int .u32 0), .d (.bool false)]
  | .other => .agg [.d (.int .i64 0), .d (.int .u32 0), .d (.bool false)]
def hexO (s : Str) : Opd := match hexN s with
  | some n => .num n
  | none => .other
theorem frz_opd {s : St} {k v : Int} {b : Bool} : FrzV s (.agg [.d (.int .i64 k), .d (.int .u32 v), .d (.bool b)]) (.agg [.d (.int .i64 k), .d (.int .u32 v), .d (.bool b)]) := by
  refine ⟨[.int .i64 k, .int .u32 v, .bool b], rfl, fun i c hc => ?_, rfl⟩
  match i, hc with
  | 0, hc => cases hc; exact ⟨_, rfl, .d _⟩
  | 1, hc => cases hc; exact ⟨_, rfl, .d _⟩
  | 2, hc => cases hc; exact ⟨_, rfl, .d _⟩

end Go.Proofs.YtiaalcpkhlnpcabGreatDoor

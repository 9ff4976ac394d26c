/- A part of the proof; no conditions. -/
import Derived.Test.YthclfagbojkbjabGreatDoorPart5
set_option linter.unusedSimpArgs false
set_option linter.unusedVariables false
namespace Go.Proofs.YthclfagbojkbjabGreatDoor
open Go Go.Am Go.Asm

set_option maxHeartbeats 16000000 in
theorem put_A {gr : Nat} {st : Sta} {g : Nat → Nat} {ob : Obs} (h : Made gr st g ob) (op : Str) (args : List Str) (line : Nat) (hop : op.length ≤ 1000000) (hal : args.length ≤ 1000000) (hargs : ∀ a ∈ args, a.length ≤ 1000000) (hcl : st.code.length ≤ 16384) (hul : st.uses.length ≤ 1000000) :
    FunR Tryz.prog 19 [.one (.ptr 20 gr 0), sv op, .one (.d (.sl (args.map fun w => [D.str w]))), iv .i64 line] g ob (OutM gr (putA line st op args) g ob) := by
  refine fun_of_wp 3000 Tt_ok mixed Tryz.func19 rfl (by rfl) [8] rfl (by kernel_rfl) (by simp [Tryz.ntmps19]) ?_
  have h0 := h
  obtain ⟨hg, cc, lc, pc, uc, h20, hc, hl, hu⟩ := h
  obtain ⟨P, hP⟩ : ∃ P, putA line st op args = P := ⟨_, rfl⟩
  rw [hP]
  unfold putA at hP
  simp (config := { maxSteps := 1000000 }) only [go_sem,↓reduceIte]
  refine hook_pure rfl (by simp (config := { maxSteps := 1000000 }) only [go_sem,↓reduceIte]; exact Shape_A op) (by simp (config := { maxSteps := 1000000 }) only [go_sem,↓reduceIte]; rfl) ?_
  rintro _ rfl
  have hsl := shapeS_len op
  generalize hsh : shapeS op = sh at hsl hP ⊢
  by_cases e1 : sh = [63]
  · rw [if_pos e1] at hP
    subst hP
    simp (config := { maxSteps := 1000000 }) only [go_sem,↓reduceIte,e1]
    exact retF_at ⟨(fun i hi => by (try simp only [upd]); repeat (rw [if_neg (by omega)]); try rfl), fun i h5 hi => by (try simp only [upd]); repeat (rw [if_neg (by omega)]), rfl⟩
  rw [if_neg e1] at hP
  by_cases e2 : args.length = sh.length
  case neg =>
    have e2i : ¬ (args.length : Int) = (sh.length : Int) := by omega
    rw [if_pos (.inl e2)] at hP
    subst hP
    simp (config := { maxSteps := 1000000 }) only [go_sem,↓reduceIte,e1, e2i, List.length_map]
    exact retF_at ⟨(fun i hi => by (try simp only [upd]); repeat (rw [if_neg (by omega)]); try rfl), fun i h5 hi => by (try simp only [upd]); repeat (rw [if_neg (by omega)]), rfl⟩
  have e2i : (args.length : Int) = (sh.length : Int) := by omega
  have hdl : dataW = [46, 100, 97, 116, 97] := rfl
  by_cases e3 : op = dataW ∧ st.hasD = true
  · rw [if_pos (.inr e3)] at hP
    subst hP
    have e3a : op = [46, 100, 97, 116, 97] := e3.1
    simp (config := { maxSteps := 1000000 }) only [go_sem,↓reduceIte,e1, e2i, e3a, List.length_map, h20, hg, e3.2]
    exact retF_at ⟨(fun i hi => by (try simp only [upd]); repeat (rw [if_neg (by omega)]); try rfl), fun i h5 hi => by (try simp only [upd]); repeat (rw [if_neg (by omega)]), rfl⟩
  rw [if_neg (by rintro (h | h); exact h e2; exact e3 h)] at hP
  by_cases e4 : op = dataW
  case' pos =>
    have e4a : (op = [46, 100, 97, 116, 97]) = True := eq_true e4
    have e6a : (op = [46, 119, 111, 114, 100]) = False := eq_false (by rw [e4]; decide)
    have hmost : ∀ v : Nat, ((32768 : Int) < (v : Int)) = (mostW op < v) := fun v => by rw [show mostW op = 32768 by rw [e4]; rfl]; exact propext (by omega)
    have e5 : st.hasD = false := by cases hd : st.hasD with | false => rfl | true => exact absurd ⟨e4, hd⟩ e3
    simp (config := { maxSteps := 1000000 }) only [go_sem,↓reduceIte,e1, e2i, e4a, List.length_map, h20, hg, e5]
  case' neg =>
    have e4a : (op = [46, 100, 97, 116, 97]) = False := eq_false e4
    by_cases e6 : op = wordW
    case' pos =>
      have e6a : (op = [46, 119, 111, 114, 100]) = True := eq_true e6
      have hmost : ∀ v : Nat, ((4294967295 : Int) < (v : Int)) = (mostW op < v) := fun v => by rw [show mostW op = 4294967295 by rw [e6]; rfl]; exact propext (by omega)
    case' neg =>
      have e6a : (op = [46, 119, 111, 114, 100]) = False := eq_false e6
      have hmost : ∀ v : Nat, ((65535 : Int) < (v : Int)) = (mostW op < v) := fun v => by rw [show mostW op = 65535 by unfold mostW; rw [if_neg e6, if_neg e4]]; exact propext (by omega)
    all_goals simp (config := { maxSteps := 1000000 }) only [go_sem,↓reduceIte,e1, e2i, e4a, List.length_map, h20, hg]
  all_goals
    clear e1 e2i h20 hc hl hu hg
    generalize hgA : nxC 93 (g 3010) = gA
    refine loop_introB (fun n s' => ∃ (k : Nat) (x : FX), n + k = sh.length ∧ foldF op sh args 0 ([0, 0, 0], false, []) = foldF op (sh.drop k) (args.drop k) k x ∧ x.1.length = 3 ∧ (∀ v ∈ x.1, 0 ≤ v ∧ v < 4294967296) ∧
      (∀ i, i ≠ 3010 → s'.gen i = g i) ∧ s'.gen 3010 = gA ∧ (∀ i, i ≠ 3010 → s'.obj i = ob i) ∧ s'.obj 3010 = some (fC x.1) ∧ s'.f 0 = .one (.ptr 20 gr 0) ∧ s'.f 1 = sv op ∧ s'.f 2 = .one (.d (.sl (args.map fun w => [D.str w]))) ∧ s'.f 3 = iv .i64 line ∧ s'.f 9 = sv sh ∧
      s'.f 10 = .one (.ptr 3010 gA 0) ∧ s'.f 11 = bv x.2.1 ∧ s'.f 12 = sv x.2.2 ∧ s'.f 13 = iv .i64 k) sh.length ?_ ?_
    · refine ⟨0, ([0, 0, 0], false, []), by omega, rfl, rfl, by decide, fun i hi => ?_, ?_⟩
      · simp [upd, hi]
      simp (config := { maxSteps := 1000000 }) only [go_sem,↓reduceIte,hgA]
      exact ⟨fun i hi => by simp [upd, hi], rfl⟩
    clear hgA
    rintro n f g1 ob1 ⟨k, ⟨xf, xg, xl⟩, hk, hf, hx3, hxb, hgi, hg3, hoi, ho3, q0, q1, q2, q3, q9, q10, q11, q12, q13⟩
    simp only at hx3 hxb hgi hg3 hoi ho3 q0 q1 q2 q3 q9 q10 q11 q12 q13
    have hw := wrap_succ (k := k) (by omega)
    by_cases hlt : k < sh.length
    case pos =>
      obtain ⟨c, hc⟩ := getq hlt
      obtain ⟨a, ha⟩ := getq (l := args) (k := k) (by omega)
      have hal := hargs a (List.mem_of_getElem? ha)
      have hki : (k : Int) < (args.length : Int) := by omega
      have hki3 : (k : Int) < 3 := by omega
      have hk0 : (0 : Int) ≤ (k : Int) := by omega
      have hga : (args.map fun w => [D.str w])[k]? = some [D.str a] := by rw [List.getElem?_map, ha]; rfl
      rw [foldF_at hc ha] at hf
      have hset : ∀ v : Int, ((List.map (fun v => C.d (.int .i64 v)) xf).set k (C.d (.int .i64 v)))[k]? = some (C.d (.int .i64 v)) := fun v => List.getElem?_set_self (by rw [List.length_map]; omega)
      by_cases hcr : c = 114
      · subst hcr
        have z : ((114 : UInt8).toNat : Int) = 114 := rfl
        simp (config := { maxSteps := 1000000 }) only [go_sem,↓reduceIte,q0, q1, q2, q3, q9, q10, q11, q12, q13, hki, hk0, hc, z, hga, Int.toNat_natCast]
        refine hook_pure rfl (by simp (config := { maxSteps := 1000000 }) only [go_sem,↓reduceIte]; exact register_A a hal) (by simp (config := { maxSteps := 1000000 }) only [go_sem,↓reduceIte]; rfl) ?_
        rintro _ rfl
        have hk1 : k + 1 ≤ xf.length := by omega
        by_cases hr : regI a < 0
        · rw [hf, show stepF op 114 a k (xf, xg, xl) = none by unfold stepF; rw [if_pos rfl, if_pos hr], Option.bind_none] at hP
          subst hP
          simp (config := { maxSteps := 1000000 }) only [go_sem,↓reduceIte,q0, q1, q2, q3, q9, q10, q11, q12, q13, hki, hk0, hki3, hg3, ho3, Int.toNat_natCast, Nat.mul_one, Nat.zero_add, setAt, fC, hset, hk1, List.length_map, hr]
          exact retF_at ⟨fun i hi => hgi i (by omega), fun i h5 hi => by (try simp only [upd]); rw [if_neg (by omega)]; exact hoi i (by omega), rfl⟩
        · have hx' : stepF op 114 a k (xf, xg, xl) = some (xf.set k (regI a), xg, xl) := by unfold stepF; rw [if_pos rfl, if_neg hr]
          rw [hx', Option.bind_some] at hf
          simp (config := { maxSteps := 1000000 }) only [go_sem,↓reduceIte,q0, q1, q2, q3, q9, q10, q11, q12, q13, hki, hk0, hki3, hg3, ho3, Int.toNat_natCast, Nat.mul_one, Nat.zero_add, setAt, fC, hset, hk1, List.length_map, hr, hw]
          have hxl : (xf.set k (regI a)).length = 3 := by rw [List.length_set]; exact hx3
          have hxv : ∀ v ∈ xf.set k (regI a), 0 ≤ v ∧ v < 4294967296 := by
            intro v hv
            rcases List.mem_or_eq_of_mem_set hv with hv | rfl
            · exact hxb v hv
            · have := regI_le a; omega
          refine round_endB (n - 1) (by omega) ⟨k + 1, _, by omega, hf, hxl, hxv, ?_⟩
          simp (config := { maxSteps := 1000000 }) only [go_sem,↓reduceIte,hg3, q0, q1, q2, q3, q9, q10, q11, q12, q13, List.map_set]
          exact ⟨hgi, fun i hi => by rw [if_neg hi]; exact hoi i hi⟩
      · have hcn : ¬ (c.toNat : Int) = 114 := u8_ne (d := 114) hcr
        have hk1 : k + 1 ≤ xf.length := by omega
        simp (config := { maxSteps := 1000000 }) only [go_sem,↓reduceIte,q0, q1, q2, q3, q9, q10, q11, q12, q13, hki, hk0, hc, hcn, hga, Int.toNat_natCast]
        refine hook_pure rfl (by simp (config := { maxSteps := 1000000 }) only [go_sem,↓reduceIte]; exact number_A a hal) (by simp (config := { maxSteps := 1000000 }) only [go_sem,↓reduceIte]; rfl) ?_
        rintro _ rfl
        have hnot : numV (numO a) = numV .other → (c = 110 ∧ regI a < 0 ∧ isLabel a = true → False) → stepF op c a k (xf, xg, xl) = none := fun h1 h2 => by rw [stepF_no hcr h1, if_neg h2]
        cases kind a with
        | num v hv h1 h2 =>
          rw [stepF_num hcr h2, Option.bind_some] at hf
          rw [h2]
          unfold numV
          have hxl : (xf.set k (v : Int)).length = 3 := by rw [List.length_set]; exact hx3
          have hxv : ∀ w ∈ xf.set k (v : Int), 0 ≤ w ∧ w < 4294967296 := by
            intro w hw
            rcases List.mem_or_eq_of_mem_set hw with hw | rfl
            · exact hxb w hw
            · omega
          have hvw : IntKind.i64.wrap (v : Int) = (v : Int) := by rw [IntKind.wrap_i64] <;> omega
          cases xg <;> by_cases hmv : mostW op < v
          all_goals
            first | rw [decide_eq_true hmv] at hf | rw [decide_eq_false hmv] at hf
            simp only [Bool.or_true, Bool.or_false] at hf
            simp (config := { maxSteps := 1000000 }) only [go_sem,↓reduceIte,q0, q1, q2, q3, q9, q10, q11, q12, q13, hki, hk0, hki3, hg3, ho3, hc, hga, Int.toNat_natCast, Nat.mul_one, Nat.zero_add, setAt, fC, hk1, List.length_map, hw, e4a, e6a, hmost v, hmv, hvw]
            refine round_endB (n - 1) (by omega) ⟨k + 1, _, by omega, hf, hxl, hxv, ?_⟩
            simp (config := { maxSteps := 1000000 }) only [go_sem,↓reduceIte,hg3, q0, q1, q2, q3, q9, q10, q11, q12, q13, List.map_set]
            exact ⟨hgi, fun i hi => by rw [if_neg hi]; exact hoi i hi⟩
        | great h1 h2 =>
          rw [stepF_great hcr h2, Option.bind_some] at hf
          rw [h2]
          unfold numV
          have hxl : (xf.set k (0 : Int)).length = 3 := by rw [List.length_set]; exact hx3
          have hxv : ∀ w ∈ xf.set k (0 : Int), 0 ≤ w ∧ w < 4294967296 := by
            intro w hw
            rcases List.mem_or_eq_of_mem_set hw with hw | rfl
            · exact hxb w hw
            · omega
          have hw0 : IntKind.i64.wrap 0 = 0 := rfl
          cases xg
          all_goals
            simp (config := { maxSteps := 1000000 }) only [go_sem,↓reduceIte,hw0, q0, q1, q2, q3, q9, q10, q11, q12, q13, hki, hk0, hki3, hg3, ho3, hc, hga, Int.toNat_natCast, Nat.mul_one, Nat.zero_add, setAt, fC, hk1, List.length_map, hw, e4a, e6a]
            refine round_endB (n - 1) (by omega) ⟨k + 1, _, by omega, hf, hxl, hxv, ?_⟩
            simp (config := { maxSteps := 1000000 }) only [go_sem,↓reduceIte,hg3, q0, q1, q2, q3, q9, q10, q11, q12, q13, List.map_set]
            exact ⟨hgi, fun i hi => by rw [if_neg hi]; exact hoi i hi⟩
        | lab h1 h0 h2 h3 h4 =>
          rw [h2]
          unfold numV
          by_cases hc1 : c = 110
          · subst hc1
            have z : ((110 : UInt8).toNat : Int) = 110 := rfl
            rw [stepF_no hcr h2, if_pos ⟨rfl, h3, h4⟩, Option.bind_some] at hf
            simp (config := { maxSteps := 1000000 }) only [go_sem,↓reduceIte,q0, q1, q2, q3, q9, q10, q11, q12, q13, hki, hk0, hki3, hg3, ho3, hc, hga, Int.toNat_natCast, Nat.mul_one, Nat.zero_add, setAt, fC, hk1, List.length_map, hw, e4a, e6a, z]
            refine hook_pure rfl (by simp (config := { maxSteps := 1000000 }) only [go_sem,↓reduceIte]; exact register_A a hal) (by simp (config := { maxSteps := 1000000 }) only [go_sem,↓reduceIte]; rfl) ?_
            rintro _ rfl
            simp (config := { maxSteps := 1000000 }) only [go_sem,↓reduceIte,q0, q1, q2, q3, q9, q10, q11, q12, q13, hki, hk0, hki3, hg3, ho3, hc, hga, Int.toNat_natCast, Nat.mul_one, Nat.zero_add, setAt, fC, hk1, List.length_map, hw, e4a, e6a, h3]
            refine hook_pure rfl (by simp (config := { maxSteps := 1000000 }) only [go_sem,↓reduceIte]; exact isLabelR_A a (by omega)) (by simp (config := { maxSteps := 1000000 }) only [go_sem,↓reduceIte]; rfl) ?_
            rintro _ rfl
            simp (config := { maxSteps := 1000000 }) only [go_sem,↓reduceIte,q0, q1, q2, q3, q9, q10, q11, q12, q13, hki, hk0, hki3, hg3, ho3, hc, hga, Int.toNat_natCast, Nat.mul_one, Nat.zero_add, setAt, fC, hk1, List.length_map, hw, e4a, e6a, h4]
            refine round_endB (n - 1) (by omega) ⟨k + 1, _, by omega, hf, hx3, hxb, ?_⟩
            simp (config := { maxSteps := 1000000 }) only [go_sem,↓reduceIte,hg3, ho3, q0, q1, q2, q3, q9, q10, q11, q12, q13, fC]
            exact ⟨hgi, hoi⟩
          · have hci : ¬ (c.toNat : Int) = 110 := u8_ne (d := 110) hc1
            rw [hf, hnot h2 (fun h => hc1 h.1), Option.bind_none] at hP
            subst hP
            simp (config := { maxSteps := 1000000 }) only [go_sem,↓reduceIte,q0, q1, q2, q3, q9, q10, q11, q12, q13, hki, hk0, hki3, hg3, ho3, hc, hga, Int.toNat_natCast, Nat.mul_one, Nat.zero_add, setAt, fC, hk1, List.length_map, hw, e4a, e6a, hci]
            exact retF_at ⟨fun i hi => hgi i (by omega), fun i h5 hi => hoi i (by omega), rfl⟩
        | reg m h1 h2 h3 =>
          rw [h2]
          unfold numV
          rw [hf, hnot h2 (fun h => h3 h.2.1), Option.bind_none] at hP
          subst hP
          by_cases hc1 : c = 110
          · subst hc1
            have z : ((110 : UInt8).toNat : Int) = 110 := rfl
            simp (config := { maxSteps := 1000000 }) only [go_sem,↓reduceIte,q0, q1, q2, q3, q9, q10, q11, q12, q13, hki, hk0, hki3, hg3, ho3, hc, hga, Int.toNat_natCast, Nat.mul_one, Nat.zero_add, setAt, fC, hk1, List.length_map, hw, e4a, e6a, z]
            refine hook_pure rfl (by simp (config := { maxSteps := 1000000 }) only [go_sem,↓reduceIte]; exact register_A a hal) (by simp (config := { maxSteps := 1000000 }) only [go_sem,↓reduceIte]; rfl) ?_
            rintro _ rfl
            simp (config := { maxSteps := 1000000 }) only [go_sem,↓reduceIte,q0, q1, q2, q3, q9, q10, q11, q12, q13, hki, hk0, hki3, hg3, ho3, hc, hga, Int.toNat_natCast, Nat.mul_one, Nat.zero_add, setAt, fC, hk1, List.length_map, hw, e4a, e6a, h3]
            exact retF_at ⟨fun i hi => hgi i (by omega), fun i h5 hi => hoi i (by omega), rfl⟩
          · have hci : ¬ (c.toNat : Int) = 110 := u8_ne (d := 110) hc1
            simp (config := { maxSteps := 1000000 }) only [go_sem,↓reduceIte,q0, q1, q2, q3, q9, q10, q11, q12, q13, hki, hk0, hki3, hg3, ho3, hc, hga, Int.toNat_natCast, Nat.mul_one, Nat.zero_add, setAt, fC, hk1, List.length_map, hw, e4a, e6a, hci]
            exact retF_at ⟨fun i hi => hgi i (by omega), fun i h5 hi => hoi i (by omega), rfl⟩
        | other h1 h2 h4 =>
          rw [h2]
          unfold numV
          rw [hf, hnot h2 (fun h => by rw [h4] at h; simp at h), Option.bind_none] at hP
          subst hP
          by_cases hc1 : c = 110
          · subst hc1
            have z : ((110 : UInt8).toNat : Int) = 110 := rfl
            simp (config := { maxSteps := 1000000 }) only [go_sem,↓reduceIte,q0, q1, q2, q3, q9, q10, q11, q12, q13, hki, hk0, hki3, hg3, ho3, hc, hga, Int.toNat_natCast, Nat.mul_one, Nat.zero_add, setAt, fC, hk1, List.length_map, hw, e4a, e6a, z]
            refine hook_pure rfl (by simp (config := { maxSteps := 1000000 }) only [go_sem,↓reduceIte]; exact register_A a hal) (by simp (config := { maxSteps := 1000000 }) only [go_sem,↓reduceIte]; rfl) ?_
            rintro _ rfl
            by_cases h3 : regI a < 0
            · simp (config := { maxSteps := 1000000 }) only [go_sem,↓reduceIte,q0, q1, q2, q3, q9, q10, q11, q12, q13, hki, hk0, hki3, hg3, ho3, hc, hga, Int.toNat_natCast, Nat.mul_one, Nat.zero_add, setAt, fC, hk1, List.length_map, hw, e4a, e6a, h3]
              refine hook_pure rfl (by simp (config := { maxSteps := 1000000 }) only [go_sem,↓reduceIte]; exact isLabelR_A a (by omega)) (by simp (config := { maxSteps := 1000000 }) only [go_sem,↓reduceIte]; rfl) ?_
              rintro _ rfl
              simp (config := { maxSteps := 1000000 }) only [go_sem,↓reduceIte,q0, q1, q2, q3, q9, q10, q11, q12, q13, hki, hk0, hki3, hg3, ho3, hc, hga, Int.toNat_natCast, Nat.mul_one, Nat.zero_add, setAt, fC, hk1, List.length_map, hw, e4a, e6a, h4]
              exact retF_at ⟨fun i hi => hgi i (by omega), fun i h5 hi => hoi i (by omega), rfl⟩
            · simp (config := { maxSteps := 1000000 }) only [go_sem,↓reduceIte,q0, q1, q2, q3, q9, q10, q11, q12, q13, hki, hk0, hki3, hg3, ho3, hc, hga, Int.toNat_natCast, Nat.mul_one, Nat.zero_add, setAt, fC, hk1, List.length_map, hw, e4a, e6a, h3]
              exact retF_at ⟨fun i hi => hgi i (by omega), fun i h5 hi => hoi i (by omega), rfl⟩
          · have hci : ¬ (c.toNat : Int) = 110 := u8_ne (d := 110) hc1
            simp (config := { maxSteps := 1000000 }) only [go_sem,↓reduceIte,q0, q1, q2, q3, q9, q10, q11, q12, q13, hki, hk0, hki3, hg3, ho3, hc, hga, Int.toNat_natCast, Nat.mul_one, Nat.zero_add, setAt, fC, hk1, List.length_map, hw, e4a, e6a, hci]
            exact retF_at ⟨fun i hi => hgi i (by omega), fun i h5 hi => hoi i (by omega), rfl⟩
    have hki : ¬ (k : Int) < (args.length : Int) := by omega
    rw [foldF_end (by omega)] at hf
    rw [hf] at hP
    simp only at hP
    have hM : Made gr st g1 ob1 := h0.of (fun i hi => hgi i (by omega)) (fun i hi => hoi i (by omega))
    clear hf h0 hmost
    obtain ⟨hg, cc, lc, pc, uc, h20, hc, hl, hu⟩ := hM
    have hgo : ∀ i, i < 3000 → g1 i = g i := fun i hi => hgi i (by omega)
    have hoo : ∀ i, i ≠ 20 → i < 3000 → ob1 i = ob i := fun i _ hi => hoi i (by omega)
    clear hgi hoi
    obtain ⟨a, b, d, rfl⟩ : ∃ a b d, xf = [a, b, d] := by
      match xf, hx3 with
      | [a, b, d], _ => exact ⟨a, b, d, rfl⟩
    obtain ⟨ha, hb, hd⟩ : (0 ≤ a ∧ a < 4294967296) ∧ (0 ≤ b ∧ b < 4294967296) ∧ (0 ≤ d ∧ d < 4294967296) := ⟨hxb a (by simp), hxb b (by simp), hxb d (by simp)⟩
    obtain ⟨a, rfl⟩ : ∃ n : Nat, a = n := ⟨a.toNat, by omega⟩
    obtain ⟨b, rfl⟩ : ∃ n : Nat, b = n := ⟨b.toNat, by omega⟩
    obtain ⟨d, rfl⟩ : ∃ n : Nat, d = n := ⟨d.toNat, by omega⟩
    clear hxb hx3
    cases xg
    case true =>
      rw [show endA line st op ([(a : Int), (b : Int), (d : Int)], true, xl) = .err 2 from if_pos (.inl rfl)] at hP
      subst hP
      simp (config := { maxSteps := 1000000 }) only [go_sem,↓reduceIte,q0, q1, q2, q3, q9, q10, q11, q12, q13, hki, e4a, e6a, hg, h20, hg3, ho3, fC]
      exact retF_at ⟨hgo, hoo, rfl⟩
  · -- other
    have hsc : ((sh = [114, 110]) = True ∧ (sh = [114, 114]) = False ∧ (sh = [110]) = False ∧ fieldsX sh [(a : Int), (b : Int), (d : Int)] = ((a : Int), 0, (b : Int))) ∨ ((sh = [114, 110]) = False ∧ (sh = [114, 114]) = True ∧ (sh = [110]) = False ∧ fieldsX sh [(a : Int), (b : Int), (d : Int)] = ((a : Int), (b : Int), 0)) ∨
        ((sh = [114, 110]) = False ∧ (sh = [114, 114]) = False ∧ (sh = [110]) = True ∧ fieldsX sh [(a : Int), (b : Int), (d : Int)] = (0, 0, (a : Int))) ∨ ((sh = [114, 110]) = False ∧ (sh = [114, 114]) = False ∧ (sh = [110]) = False ∧ fieldsX sh [(a : Int), (b : Int), (d : Int)] = ((a : Int), (b : Int), (d : Int))) := by
      by_cases s1 : sh = [114, 110]
      · exact .inl ⟨eq_true s1, eq_false (by rw [s1]; decide), eq_false (by rw [s1]; decide), by rw [s1]; rfl⟩
      by_cases s2 : sh = [114, 114]
      · exact .inr (.inl ⟨eq_false s1, eq_true s2, eq_false (by rw [s2]; decide), by rw [s2]; rfl⟩)
      by_cases s3 : sh = [110]
      · exact .inr (.inr (.inl ⟨eq_false s1, eq_false s2, eq_true s3, by rw [s3]; rfl⟩))
      · exact .inr (.inr (.inr ⟨eq_false s1, eq_false s2, eq_false s3, by unfold fieldsX; rw [if_neg s1, if_neg s2, if_neg s3]; rfl⟩))
    rcases hc with ⟨c1, rfl⟩ | ⟨c1, ci, rfl | rfl, rfl, c3⟩
    · have hlen : ¬ st.code.length = 16384 := by rw [c1]; decide
      rw [endA_ins e6 e4 hlen, hsh] at hP
      subst hP
      by_cases hx : xl = []
      · rw [show useX st line xl = st from if_pos hx]
        subst hx
        simp (config := { maxSteps := 1000000 }) only [go_sem,↓reduceIte,q0, q1, q2, q3, q9, q10, q11, q12, q13, hki, e4a, e6a, hg, h20, hg3, ho3, fC, codeC, List.length_map]
        refine hook_pure rfl (by simp (config := { maxSteps := 1000000 }) only [go_sem,↓reduceIte]; exact OpR_A op) (by simp (config := { maxSteps := 1000000 }) only [go_sem,↓reduceIte]; rfl) ?_
        rintro _ rfl
        rcases hsc with ⟨s1, s2, s3, hfx⟩ | ⟨s1, s2, s3, hfx⟩ | ⟨s1, s2, s3, hfx⟩ | ⟨s1, s2, s3, hfx⟩
        · rw [hfx]
          simp (config := { maxSteps := 1000000 }) only [go_sem,↓reduceIte,q0, q1, q2, q3, q9, q10, q11, q12, q13, hki, e4a, e6a, hg, h20, hg3, ho3, fC, codeC, List.length_map, s1, s2, s3, buildA]
          refine draw_det Tt_ok mixed [3017] [([10], [], [], false), ([191], [], [], false), ([10], [0], [], false), ([193], [0], [], false), ([17], [], [], false), ([195, 192], [], [0], false), ([17], [], [], false), ([196, 194], [], [], true)] 1 (by decide +kernel) rfl (by decide) ?_
          simp (config := { maxSteps := 1000000 }) only [go_sem,↓reduceIte]
          iterate 5 (apply det_pure; · (intro fa ga oa K' hK; simp (config := { maxSteps := 1000000 }) only [go_sem,↓reduceIte,q0, q1, q2, q3, q9, q10, q11, q12, q13, hki, e4a, e6a, hg, h20, hg3, ho3, fC, codeC, List.length_map, s1, s2, s3] at hK ⊢; exact hK))
          (apply det_store; (focus simp); (focus (intro fa ga oa K' hK; simp (config := { maxSteps := 1000000 }) only [go_sem,↓reduceIte,q0, q1, q2, q3, q9, q10, q11, q12, q13, hki, e4a, e6a, hg, h20, hg3, ho3, fC, codeC, List.length_map, s1, s2, s3] at hK ⊢; exact hK)))
          (apply det_pure; · (intro fa ga oa K' hK; simp (config := { maxSteps := 1000000 }) only [go_sem,↓reduceIte,q0, q1, q2, q3, q9, q10, q11, q12, q13, hki, e4a, e6a, hg, h20, hg3, ho3, fC, codeC, List.length_map, s1, s2, s3] at hK ⊢; exact hK))
          apply det_last
          intro K' hK'
          simp (config := { maxSteps := 1000000 }) only [go_sem,↓reduceIte,q0, q1, q2, q3, q9, q10, q11, q12, q13, hki, e4a, e6a, hg, h20, hg3, ho3, fC, codeC, List.length_map, s1, s2, s3]
          refine hK' _ ?_
          clear hK' K'
          simp (config := { maxSteps := 1000000 }) only [go_sem,↓reduceIte,q0, q1, q2, q3, q9, q10, q11, q12, q13, hki, e4a, e6a, hg, h20, hg3, ho3, fC, codeC, List.length_map, s1, s2, s3]
          refine hook_pure rfl (by simp (config := { maxSteps := 1000000 }) only [go_sem,↓reduceIte]; exact Enc_X _ _ _ _) (by simp (config := { maxSteps := 1000000 }) only [go_sem,↓reduceIte]; rfl) ?_
          rintro _ ⟨e, rfl⟩
          simp (config := { maxSteps := 1000000 }) only [go_sem,↓reduceIte,q0, q1, q2, q3, q9, q10, q11, q12, q13, hki, e4a, e6a, hg, h20, hg3, ho3, fC, codeC, List.length_map, s1, s2, s3, elemTy]
          refine ⟨⟨by decide, by decide⟩, ?_⟩
          refine retF_at ⟨fun i hi => by (have := far hi; simp only [upd, this, if_false]; exact hgo i hi), fun i h5 hi => by (have := far hi; simp only [upd, this, h5, if_false]; exact hoo i h5 hi), rfl, ⟨by simp [upd, hg], _, lc, pc, _, rfl, ?_, hl, ?_⟩⟩
          · exact .inr ⟨by simp [addX], 3223, .inr rfl, by simp [upd, c1, addX], by simp [upd, c1, addX, codeC]⟩
          · exact hu
        · rw [hfx]
          simp (config := { maxSteps := 1000000 }) only [go_sem,↓reduceIte,q0, q1, q2, q3, q9, q10, q11, q12, q13, hki, e4a, e6a, hg, h20, hg3, ho3, fC, codeC, List.length_map, s1, s2, s3, buildA]
          refine draw_det Tt_ok mixed [3017] [([10], [], [], false), ([199], [], [], false), ([10], [0], [], false), ([201], [0], [], false), ([17], [], [], false), ([203, 200], [], [0], false), ([17], [], [], false), ([204, 202], [], [], true)] 1 (by decide +kernel) rfl (by decide) ?_
          simp (config := { maxSteps := 1000000 }) only [go_sem,↓reduceIte]
          iterate 5 (apply det_pure; · (intro fa ga oa K' hK; simp (config := { maxSteps := 1000000 }) only [go_sem,↓reduceIte,q0, q1, q2, q3, q9, q10, q11, q12, q13, hki, e4a, e6a, hg, h20, hg3, ho3, fC, codeC, List.length_map, s1, s2, s3] at hK ⊢; exact hK))
          (apply det_store; (focus simp); (focus (intro fa ga oa K' hK; simp (config := { maxSteps := 1000000 }) only [go_sem,↓reduceIte,q0, q1, q2, q3, q9, q10, q11, q12, q13, hki, e4a, e6a, hg, h20, hg3, ho3, fC, codeC, List.length_map, s1, s2, s3] at hK ⊢; exact hK)))
          (apply det_pure; · (intro fa ga oa K' hK; simp (config := { maxSteps := 1000000 }) only [go_sem,↓reduceIte,q0, q1, q2, q3, q9, q10, q11, q12, q13, hki, e4a, e6a, hg, h20, hg3, ho3, fC, codeC, List.length_map, s1, s2, s3] at hK ⊢; exact hK))
          apply det_last
          intro K' hK'
          simp (config := { maxSteps := 1000000 }) only [go_sem,↓reduceIte,q0, q1, q2, q3, q9, q10, q11, q12, q13, hki, e4a, e6a, hg, h20, hg3, ho3, fC, codeC, List.length_map, s1, s2, s3]
          refine hK' _ ?_
          clear hK' K'
          simp (config := { maxSteps := 1000000 }) only [go_sem,↓reduceIte,q0, q1, q2, q3, q9, q10, q11, q12, q13, hki, e4a, e6a, hg, h20, hg3, ho3, fC, codeC, List.length_map, s1, s2, s3]
          refine hook_pure rfl (by simp (config := { maxSteps := 1000000 }) only [go_sem,↓reduceIte]; exact Enc_X _ _ _ _) (by simp (config := { maxSteps := 1000000 }) only [go_sem,↓reduceIte]; rfl) ?_
          rintro _ ⟨e, rfl⟩
          simp (config := { maxSteps := 1000000 }) only [go_sem,↓reduceIte,q0, q1, q2, q3, q9, q10, q11, q12, q13, hki, e4a, e6a, hg, h20, hg3, ho3, fC, codeC, List.length_map, s1, s2, s3, elemTy]
          refine ⟨⟨by decide, by decide⟩, ?_⟩
          refine retF_at ⟨fun i hi => by (have := far hi; simp only [upd, this, if_false]; exact hgo i hi), fun i h5 hi => by (have := far hi; simp only [upd, this, h5, if_false]; exact hoo i h5 hi), rfl, ⟨by simp [upd, hg], _, lc, pc, _, rfl, ?_, hl, ?_⟩⟩
          · exact .inr ⟨by simp [addX], 3223, .inr rfl, by simp [upd, c1, addX], by simp [upd, c1, addX, codeC]⟩
          · exact hu
        · rw [hfx]
          simp (config := { maxSteps := 1000000 }) only [go_sem,↓reduceIte,q0, q1, q2, q3, q9, q10, q11, q12, q13, hki, e4a, e6a, hg, h20, hg3, ho3, fC, codeC, List.length_map, s1, s2, s3, buildA]
          refine hook_pure rfl (by simp (config := { maxSteps := 1000000 }) only [go_sem,↓reduceIte]; exact Enc_X _ _ _ _) (by simp (config := { maxSteps := 1000000 }) only [go_sem,↓reduceIte]; rfl) ?_
          rintro _ ⟨e, rfl⟩
          simp (config := { maxSteps := 1000000 }) only [go_sem,↓reduceIte,q0, q1, q2, q3, q9, q10, q11, q12, q13, hki, e4a, e6a, hg, h20, hg3, ho3, fC, codeC, List.length_map, s1, s2, s3, elemTy]
          refine ⟨⟨by decide, by decide⟩, ?_⟩
          refine retF_at ⟨fun i hi => by (have := far hi; simp only [upd, this, if_false]; exact hgo i hi), fun i h5 hi => by (have := far hi; simp only [upd, this, h5, if_false]; exact hoo i h5 hi), rfl, ⟨by simp [upd, hg], _, lc, pc, _, rfl, ?_, hl, ?_⟩⟩
          · exact .inr ⟨by simp [addX], 3223, .inr rfl, by simp [upd, c1, addX], by simp [upd, c1, addX, codeC]⟩
          · exact hu
        · rw [hfx]
          simp (config := { maxSteps := 1000000 }) only [go_sem,↓reduceIte,q0, q1, q2, q3, q9, q10, q11, q12, q13, hki, e4a, e6a, hg, h20, hg3, ho3, fC, codeC, List.length_map, s1, s2, s3, buildA]
          refine draw_det Tt_ok mixed [3017] [([10], [], [], false), ([180], [], [], false), ([10], [0], [], false), ([182], [0], [], false), ([10], [0], [], false), ([184], [0], [], false), ([17], [], [], false), ([186, 181], [], [0], false), ([17], [], [], false), ([187, 183], [], [0], false), ([17], [], [], false), ([188, 185], [], [], true)] 1 (by decide +kernel) rfl (by decide) ?_
          simp (config := { maxSteps := 1000000 }) only [go_sem,↓reduceIte]
          iterate 7 (apply det_pure; · (intro fa ga oa K' hK; simp (config := { maxSteps := 1000000 }) only [go_sem,↓reduceIte,q0, q1, q2, q3, q9, q10, q11, q12, q13, hki, e4a, e6a, hg, h20, hg3, ho3, fC, codeC, List.length_map, s1, s2, s3] at hK ⊢; exact hK))
          (apply det_store; (focus simp); (focus (intro fa ga oa K' hK; simp (config := { maxSteps := 1000000 }) only [go_sem,↓reduceIte,q0, q1, q2, q3, q9, q10, q11, q12, q13, hki, e4a, e6a, hg, h20, hg3, ho3, fC, codeC, List.length_map, s1, s2, s3] at hK ⊢; exact hK)))
          (apply det_pure; · (intro fa ga oa K' hK; simp (config := { maxSteps := 1000000 }) only [go_sem,↓reduceIte,q0, q1, q2, q3, q9, q10, q11, q12, q13, hki, e4a, e6a, hg, h20, hg3, ho3, fC, codeC, List.length_map, s1, s2, s3] at hK ⊢; exact hK))
          (apply det_store; (focus simp); (focus (intro fa ga oa K' hK; simp (config := { maxSteps := 1000000 }) only [go_sem,↓reduceIte,q0, q1, q2, q3, q9, q10, q11, q12, q13, hki, e4a, e6a, hg, h20, hg3, ho3, fC, codeC, List.length_map, s1, s2, s3] at hK ⊢; exact hK)))
          (apply det_pure; · (intro fa ga oa K' hK; simp (config := { maxSteps := 1000000 }) only [go_sem,↓reduceIte,q0, q1, q2, q3, q9, q10, q11, q12, q13, hki, e4a, e6a, hg, h20, hg3, ho3, fC, codeC, List.length_map, s1, s2, s3] at hK ⊢; exact hK))
          apply det_last
          intro K' hK'
          simp (config := { maxSteps := 1000000 }) only [go_sem,↓reduceIte,q0, q1, q2, q3, q9, q10, q11, q12, q13, hki, e4a, e6a, hg, h20, hg3, ho3, fC, codeC, List.length_map, s1, s2, s3]
          refine hK' _ ?_
          clear hK' K'
          simp (config := { maxSteps := 1000000 }) only [go_sem,↓reduceIte,q0, q1, q2, q3, q9, q10, q11, q12, q13, hki, e4a, e6a, hg, h20, hg3, ho3, fC, codeC, List.length_map, s1, s2, s3]
          refine hook_pure rfl (by simp (config := { maxSteps := 1000000 }) only [go_sem,↓reduceIte]; exact Enc_X _ _ _ _) (by simp (config := { maxSteps := 1000000 }) only [go_sem,↓reduceIte]; rfl) ?_
          rintro _ ⟨e, rfl⟩
          simp (config := { maxSteps := 1000000 }) only [go_sem,↓reduceIte,q0, q1, q2, q3, q9, q10, q11, q12, q13, hki, e4a, e6a, hg, h20, hg3, ho3, fC, codeC, List.length_map, s1, s2, s3, elemTy]
          refine ⟨⟨by decide, by decide⟩, ?_⟩
          refine retF_at ⟨fun i hi => by (have := far hi; simp only [upd, this, if_false]; exact hgo i hi), fun i h5 hi => by (have := far hi; simp only [upd, this, h5, if_false]; exact hoo i h5 hi), rfl, ⟨by simp [upd, hg], _, lc, pc, _, rfl, ?_, hl, ?_⟩⟩
          · exact .inr ⟨by simp [addX], 3223, .inr rfl, by simp [upd, c1, addX], by simp [upd, c1, addX, codeC]⟩
          · exact hu
      rw [show useX st line xl = { st with uses := st.uses ++ [(line, st.code.length, xl)] } from if_neg hx]
      rcases hu with ⟨u1, rfl⟩ | ⟨u1, rfl, u3⟩
      · simp (config := { maxSteps := 1000000 }) only [go_sem,↓reduceIte,q0, q1, q2, q3, q9, q10, q11, q12, q13, hki, e4a, e6a, hg, h20, hg3, ho3, fC, codeC, List.length_map, hx]
        refine draw_det Tt_ok mixed [3156, 3157, 20] [([0], [0, 1], [], false), ([0], [0], [], false), ([143], [0], [], false), ([144], [0], [], false), ([145], [0], [], false), ([12], [], [], false), ([3], [], [], false), ([0], [], [], false), ([149], [], [], false), ([150], [], [], false), ([151], [], [], false), ([152], [], [], false), ([153], [], [], false), ([147, 148, 154], [], [], false), ([155], [], [0], false), ([146, 156], [], [1], false), ([142], [], [], false), ([158], [], [], false), ([159, 157], [], [], true)] 3 (by decide +kernel) rfl (by decide) ?_
        simp (config := { maxSteps := 1000000 }) only [go_sem,↓reduceIte]
        iterate 13 (apply det_pure; · (intro fa ga oa K' hK; simp (config := { maxSteps := 1000000 }) only [go_sem,↓reduceIte,q0, q1, q2, q3, q9, q10, q11, q12, q13, hki, e4a, e6a, hg, h20, hg3, ho3, fC, codeC, List.length_map, hx] at hK ⊢; exact hK))
        (apply det_pure; · (intro fa ga oa K' hK; simp (config := { maxSteps := 1000000 }) only [go_sem,↓reduceIte,buildA] at hK ⊢; exact hK))
        (apply det_new; · (intro fa ga oa K' hK; simp (config := { maxSteps := 1000000 }) only [go_sem,↓reduceIte,q0, q1, q2, q3, q9, q10, q11, q12, q13, hki, e4a, e6a, hg, h20, hg3, ho3, fC, codeC, List.length_map, hx, elemTy] at hK ⊢; exact hK))
        (apply det_new; · (intro fa ga oa K' hK; simp (config := { maxSteps := 1000000 }) only [go_sem,↓reduceIte,q0, q1, q2, q3, q9, q10, q11, q12, q13, hki, e4a, e6a, hg, h20, hg3, ho3, fC, codeC, List.length_map, hx, elemTy] at hK ⊢; first | exact ⟨⟨by decide, by decide⟩, hK⟩ | exact ⟨⟨by decide, by omega⟩, hK⟩ | exact ⟨Nat.le_of_eq (flatR_len _).symm, ⟨by decide, by omega⟩, hK⟩ | exact ⟨Nat.le_refl _, ⟨by decide, by omega⟩, hK⟩))
        iterate 2 (apply det_pure; · (intro fa ga oa K' hK; simp (config := { maxSteps := 1000000 }) only [go_sem,↓reduceIte,q0, q1, q2, q3, q9, q10, q11, q12, q13, hki, e4a, e6a, hg, h20, hg3, ho3, fC, codeC, List.length_map, hx] at hK ⊢; exact hK))
        apply det_last
        intro K' hK'
        simp (config := { maxSteps := 1000000 }) only [go_sem,↓reduceIte,q0, q1, q2, q3, q9, q10, q11, q12, q13, hki, e4a, e6a, hg, h20, hg3, ho3, fC, codeC, List.length_map, hx]
        refine hK' _ ?_
        clear hK' K'
        simp (config := { maxSteps := 1000000 }) only [go_sem,↓reduceIte,q0, q1, q2, q3, q9, q10, q11, q12, q13, hki, e4a, e6a, hg, h20, hg3, ho3, fC, codeC, List.length_map, hx]
        refine hook_pure rfl (by simp (config := { maxSteps := 1000000 }) only [go_sem,↓reduceIte]; exact OpR_A op) (by simp (config := { maxSteps := 1000000 }) only [go_sem,↓reduceIte]; rfl) ?_
        rintro _ rfl
        rcases hsc with ⟨s1, s2, s3, hfx⟩ | ⟨s1, s2, s3, hfx⟩ | ⟨s1, s2, s3, hfx⟩ | ⟨s1, s2, s3, hfx⟩
        · rw [hfx]
          simp (config := { maxSteps := 1000000 }) only [go_sem,↓reduceIte,q0, q1, q2, q3, q9, q10, q11, q12, q13, hki, e4a, e6a, hg, h20, hg3, ho3, fC, codeC, List.length_map, hx, s1, s2, s3, buildA]
          refine draw_det Tt_ok mixed [3017] [([10], [], [], false), ([191], [], [], false), ([10], [0], [], false), ([193], [0], [], false), ([17], [], [], false), ([195, 192], [], [0], false), ([17], [], [], false), ([196, 194], [], [], true)] 1 (by decide +kernel) rfl (by decide) ?_
          simp (config := { maxSteps := 1000000 }) only [go_sem,↓reduceIte]
          iterate 5 (apply det_pure; · (intro fa ga oa K' hK; simp (config := { maxSteps := 1000000 }) only [go_sem,↓reduceIte,q0, q1, q2, q3, q9, q10, q11, q12, q13, hki, e4a, e6a, hg, h20, hg3, ho3, fC, codeC, List.length_map, hx, s1, s2, s3] at hK ⊢; exact hK))
          (apply det_store; (focus simp); (focus (intro fa ga oa K' hK; simp (config := { maxSteps := 1000000 }) only [go_sem,↓reduceIte,q0, q1, q2, q3, q9, q10, q11, q12, q13, hki, e4a, e6a, hg, h20, hg3, ho3, fC, codeC, List.length_map, hx, s1, s2, s3] at hK ⊢; exact hK)))
          (apply det_pure; · (intro fa ga oa K' hK; simp (config := { maxSteps := 1000000 }) only [go_sem,↓reduceIte,q0, q1, q2, q3, q9, q10, q11, q12, q13, hki, e4a, e6a, hg, h20, hg3, ho3, fC, codeC, List.length_map, hx, s1, s2, s3] at hK ⊢; exact hK))
          apply det_last
          intro K' hK'
          simp (config := { maxSteps := 1000000 }) only [go_sem,↓reduceIte,q0, q1, q2, q3, q9, q10, q11, q12, q13, hki, e4a, e6a, hg, h20, hg3, ho3, fC, codeC, List.length_map, hx, s1, s2, s3]
          refine hK' _ ?_
          clear hK' K'
          simp (config := { maxSteps := 1000000 }) only [go_sem,↓reduceIte,q0, q1, q2, q3, q9, q10, q11, q12, q13, hki, e4a, e6a, hg, h20, hg3, ho3, fC, codeC, List.length_map, hx, s1, s2, s3]
          refine hook_pure rfl (by simp (config := { maxSteps := 1000000 }) only [go_sem,↓reduceIte]; exact Enc_X _ _ _ _) (by simp (config := { maxSteps := 1000000 }) only [go_sem,↓reduceIte]; rfl) ?_
          rintro _ ⟨e, rfl⟩
          simp (config := { maxSteps := 1000000 }) only [go_sem,↓reduceIte,q0, q1, q2, q3, q9, q10, q11, q12, q13, hki, e4a, e6a, hg, h20, hg3, ho3, fC, codeC, List.length_map, hx, s1, s2, s3, elemTy]
          refine ⟨⟨by decide, by decide⟩, ?_⟩
          refine retF_at ⟨fun i hi => by (have := far hi; simp only [upd, this, if_false]; exact hgo i hi), fun i h5 hi => by (have := far hi; simp only [upd, this, h5, if_false]; exact hoo i h5 hi), rfl, ⟨by simp [upd, hg], _, lc, pc, _, rfl, ?_, hl, ?_⟩⟩
          · exact .inr ⟨by simp [addX], 3223, .inr rfl, by simp [upd, c1, addX], by simp [upd, c1, addX, codeC]⟩
          · exact .inr ⟨by simp [addX], by simp [upd, u1, addX], by simp [upd, u1, addX, useR, c1]⟩
        · rw [hfx]
          simp (config := { maxSteps := 1000000 }) only [go_sem,↓reduceIte,q0, q1, q2, q3, q9, q10, q11, q12, q13, hki, e4a, e6a, hg, h20, hg3, ho3, fC, codeC, List.length_map, hx, s1, s2, s3, buildA]
          refine draw_det Tt_ok mixed [3017] [([10], [], [], false), ([199], [], [], false), ([10], [0], [], false), ([201], [0], [], false), ([17], [], [], false), ([203, 200], [], [0], false), ([17], [], [], false), ([204, 202], [], [], true)] 1 (by decide +kernel) rfl (by decide) ?_
          simp (config := { maxSteps := 1000000 }) only [go_sem,↓reduceIte]
          iterate 5 (apply det_pure; · (intro fa ga oa K' hK; simp (config := { maxSteps := 1000000 }) only [go_sem,↓reduceIte,q0, q1, q2, q3, q9, q10, q11, q12, q13, hki, e4a, e6a, hg, h20, hg3, ho3, fC, codeC, List.length_map, hx, s1, s2, s3] at hK ⊢; exact hK))
          (apply det_store; (focus simp); (focus (intro fa ga oa K' hK; simp (config := { maxSteps := 1000000 }) only [go_sem,↓reduceIte,q0, q1, q2, q3, q9, q10, q11, q12, q13, hki, e4a, e6a, hg, h20, hg3, ho3, fC, codeC, List.length_map, hx, s1, s2, s3] at hK ⊢; exact hK)))
          (apply det_pure; · (intro fa ga oa K' hK; simp (config := { maxSteps := 1000000 }) only [go_sem,↓reduceIte,q0, q1, q2, q3, q9, q10, q11, q12, q13, hki, e4a, e6a, hg, h20, hg3, ho3, fC, codeC, List.length_map, hx, s1, s2, s3] at hK ⊢; exact hK))
          apply det_last
          intro K' hK'
          simp (config := { maxSteps := 1000000 }) only [go_sem,↓reduceIte,q0, q1, q2, q3, q9, q10, q11, q12, q13, hki, e4a, e6a, hg, h20, hg3, ho3, fC, codeC, List.length_map, hx, s1, s2, s3]
          refine hK' _ ?_
          clear hK' K'
          simp (config := { maxSteps := 1000000 }) only [go_sem,↓reduceIte,q0, q1, q2, q3, q9, q10, q11, q12, q13, hki, e4a, e6a, hg, h20, hg3, ho3, fC, codeC, List.length_map, hx, s1, s2, s3]
          refine hook_pure rfl (by simp (config := { maxSteps := 1000000 }) only [go_sem,↓reduceIte]; exact Enc_X _ _ _ _) (by simp (config := { maxSteps := 1000000 }) only [go_sem,↓reduceIte]; rfl) ?_
          rintro _ ⟨e, rfl⟩
          simp (config := { maxSteps := 1000000 }) only [go_sem,↓reduceIte,q0, q1, q2, q3, q9, q10, q11, q12, q13, hki, e4a, e6a, hg, h20, hg3, ho3, fC, codeC, List.length_map, hx, s1, s2, s3, elemTy]
          refine ⟨⟨by decide, by decide⟩, ?_⟩
          refine retF_at ⟨fun i hi => by (have := far hi; simp only [upd, this, if_false]; exact hgo i hi), fun i h5 hi => by (have := far hi; simp only [upd, this, h5, if_false]; exact hoo i h5 hi), rfl, ⟨by simp [upd, hg], _, lc, pc, _, rfl, ?_, hl, ?_⟩⟩
          · exact .inr ⟨by simp [addX], 3223, .inr rfl, by simp [upd, c1, addX], by simp [upd, c1, addX, codeC]⟩
          · exact .inr ⟨by simp [addX], by simp [upd, u1, addX], by simp [upd, u1, addX, useR, c1]⟩
        · rw [hfx]
          simp (config := { maxSteps := 1000000 }) only [go_sem,↓reduceIte,q0, q1, q2, q3, q9, q10, q11, q12, q13, hki, e4a, e6a, hg, h20, hg3, ho3, fC, codeC, List.length_map, hx, s1, s2, s3, buildA]
          refine hook_pure rfl (by simp (config := { maxSteps := 1000000 }) only [go_sem,↓reduceIte]; exact Enc_X _ _ _ _) (by simp (config := { maxSteps := 1000000 }) only [go_sem,↓reduceIte]; rfl) ?_
          rintro _ ⟨e, rfl⟩
          simp (config := { maxSteps := 1000000 }) only [go_sem,↓reduceIte,q0, q1, q2, q3, q9, q10, q11, q12, q13, hki, e4a, e6a, hg, h20, hg3, ho3, fC, codeC, List.length_map, hx, s1, s2, s3, elemTy]
          refine ⟨⟨by decide, by decide⟩, ?_⟩
          refine retF_at ⟨fun i hi => by (have := far hi; simp only [upd, this, if_false]; exact hgo i hi), fun i h5 hi => by (have := far hi; simp only [upd, this, h5, if_false]; exact hoo i h5 hi), rfl, ⟨by simp [upd, hg], _, lc, pc, _, rfl, ?_, hl, ?_⟩⟩
          · exact .inr ⟨by simp [addX], 3223, .inr rfl, by simp [upd, c1, addX], by simp [upd, c1, addX, codeC]⟩
          · exact .inr ⟨by simp [addX], by simp [upd, u1, addX], by simp [upd, u1, addX, useR, c1]⟩
        · rw [hfx]
          simp (config := { maxSteps := 1000000 }) only [go_sem,↓reduceIte,q0, q1, q2, q3, q9, q10, q11, q12, q13, hki, e4a, e6a, hg, h20, hg3, ho3, fC, codeC, List.length_map, hx, s1, s2, s3, buildA]
          refine draw_det Tt_ok mixed [3017] [([10], [], [], false), ([180], [], [], false), ([10], [0], [], false), ([182], [0], [], false), ([10], [0], [], false), ([184], [0], [], false), ([17], [], [], false), ([186, 181], [], [0], false), ([17], [], [], false), ([187, 183], [], [0], false), ([17], [], [], false), ([188, 185], [], [], true)] 1 (by decide +kernel) rfl (by decide) ?_
          simp (config := { maxSteps := 1000000 }) only [go_sem,↓reduceIte]
          iterate 7 (apply det_pure; · (intro fa ga oa K' hK; simp (config := { maxSteps := 1000000 }) only [go_sem,↓reduceIte,q0, q1, q2, q3, q9, q10, q11, q12, q13, hki, e4a, e6a, hg, h20, hg3, ho3, fC, codeC, List.length_map, hx, s1, s2, s3] at hK ⊢; exact hK))
          (apply det_store; (focus simp); (focus (intro fa ga oa K' hK; simp (config := { maxSteps := 1000000 }) only [go_sem,↓reduceIte,q0, q1, q2, q3, q9, q10, q11, q12, q13, hki, e4a, e6a, hg, h20, hg3, ho3, fC, codeC, List.length_map, hx, s1, s2, s3] at hK ⊢; exact hK)))
          (apply det_pure; · (intro fa ga oa K' hK; simp (config := { maxSteps := 1000000 }) only [go_sem,↓reduceIte,q0, q1, q2, q3, q9, q10, q11, q12, q13, hki, e4a, e6a, hg, h20, hg3, ho3, fC, codeC, List.length_map, hx, s1, s2, s3] at hK ⊢; exact hK))
          (apply det_store; (focus simp); (focus (intro fa ga oa K' hK; simp (config := { maxSteps := 1000000 }) only [go_sem,↓reduceIte,q0, q1, q2, q3, q9, q10, q11, q12, q13, hki, e4a, e6a, hg, h20, hg3, ho3, fC, codeC, List.length_map, hx, s1, s2, s3] at hK ⊢; exact hK)))
          (apply det_pure; · (intro fa ga oa K' hK; simp (config := { maxSteps := 1000000 }) only [go_sem,↓reduceIte,q0, q1, q2, q3, q9, q10, q11, q12, q13, hki, e4a, e6a, hg, h20, hg3, ho3, fC, codeC, List.length_map, hx, s1, s2, s3] at hK ⊢; exact hK))
          apply det_last
          intro K' hK'
          simp (config := { maxSteps := 1000000 }) only [go_sem,↓reduceIte,q0, q1, q2, q3, q9, q10, q11, q12, q13, hki, e4a, e6a, hg, h20, hg3, ho3, fC, codeC, List.length_map, hx, s1, s2, s3]
          refine hK' _ ?_
          clear hK' K'
          simp (config := { maxSteps := 1000000 }) only [go_sem,↓reduceIte,q0, q1, q2, q3, q9, q10, q11, q12, q13, hki, e4a, e6a, hg, h20, hg3, ho3, fC, codeC, List.length_map, hx, s1, s2, s3]
          refine hook_pure rfl (by simp (config := { maxSteps := 1000000 }) only [go_sem,↓reduceIte]; exact Enc_X _ _ _ _) (by simp (config := { maxSteps := 1000000 }) only [go_sem,↓reduceIte]; rfl) ?_
          rintro _ ⟨e, rfl⟩
          simp (config := { maxSteps := 1000000 }) only [go_sem,↓reduceIte,q0, q1, q2, q3, q9, q10, q11, q12, q13, hki, e4a, e6a, hg, h20, hg3, ho3, fC, codeC, List.length_map, hx, s1, s2, s3, elemTy]
          refine ⟨⟨by decide, by decide⟩, ?_⟩
          refine retF_at ⟨fun i hi => by (have := far hi; simp only [upd, this, if_false]; exact hgo i hi), fun i h5 hi => by (have := far hi; simp only [upd, this, h5, if_false]; exact hoo i h5 hi), rfl, ⟨by simp [upd, hg], _, lc, pc, _, rfl, ?_, hl, ?_⟩⟩
          · exact .inr ⟨by simp [addX], 3223, .inr rfl, by simp [upd, c1, addX], by simp [upd, c1, addX, codeC]⟩
          · exact .inr ⟨by simp [addX], by simp [upd, u1, addX], by simp [upd, u1, addX, useR, c1]⟩
      · simp (config := { maxSteps := 1000000 }) only [go_sem,↓reduceIte,q0, q1, q2, q3, q9, q10, q11, q12, q13, hki, e4a, e6a, hg, h20, hg3, ho3, fC, codeC, List.length_map, hx, u3]
        refine draw_det Tt_ok mixed [3156, 3157, 20] [([0], [0, 1], [], false), ([0], [0], [], false), ([143], [0], [], false), ([144], [0], [], false), ([145], [0], [], false), ([12], [], [], false), ([3], [], [], false), ([0], [], [], false), ([149], [], [], false), ([150], [], [], false), ([151], [], [], false), ([152], [], [], false), ([153], [], [], false), ([147, 148, 154], [], [], false), ([155], [], [0], false), ([146, 156], [], [1], false), ([142], [], [], false), ([158], [], [], false), ([159, 157], [], [], true)] 3 (by decide +kernel) rfl (by decide) ?_
        simp (config := { maxSteps := 1000000 }) only [go_sem,↓reduceIte]
        iterate 13 (apply det_pure; · (intro fa ga oa K' hK; simp (config := { maxSteps := 1000000 }) only [go_sem,↓reduceIte,q0, q1, q2, q3, q9, q10, q11, q12, q13, hki, e4a, e6a, hg, h20, hg3, ho3, fC, codeC, List.length_map, hx, u3] at hK ⊢; exact hK))
        (apply det_pure; · (intro fa ga oa K' hK; simp (config := { maxSteps := 1000000 }) only [go_sem,↓reduceIte,buildA] at hK ⊢; exact hK))
        (apply det_new; · (intro fa ga oa K' hK; simp (config := { maxSteps := 1000000 }) only [go_sem,↓reduceIte,q0, q1, q2, q3, q9, q10, q11, q12, q13, hki, e4a, e6a, hg, h20, hg3, ho3, fC, codeC, List.length_map, hx, u3, elemTy] at hK ⊢; exact hK))
        (apply det_new; · (intro fa ga oa K' hK; simp (config := { maxSteps := 1000000 }) only [go_sem,↓reduceIte,q0, q1, q2, q3, q9, q10, q11, q12, q13, hki, e4a, e6a, hg, h20, hg3, ho3, fC, codeC, List.length_map, hx, u3, elemTy] at hK ⊢; first | exact ⟨⟨by decide, by decide⟩, hK⟩ | exact ⟨⟨by decide, by omega⟩, hK⟩ | exact ⟨Nat.le_of_eq (flatR_len _).symm, ⟨by decide, by omega⟩, hK⟩ | exact ⟨Nat.le_refl _, ⟨by decide, by omega⟩, hK⟩))
        iterate 2 (apply det_pure; · (intro fa ga oa K' hK; simp (config := { maxSteps := 1000000 }) only [go_sem,↓reduceIte,q0, q1, q2, q3, q9, q10, q11, q12, q13, hki, e4a, e6a, hg, h20, hg3, ho3, fC, codeC, List.length_map, hx, u3] at hK ⊢; exact hK))
        apply det_last
        intro K' hK'
        simp (config := { maxSteps := 1000000 }) only [go_sem,↓reduceIte,q0, q1, q2, q3, q9, q10, q11, q12, q13, hki, e4a, e6a, hg, h20, hg3, ho3, fC, codeC, List.length_map, hx, u3]
        refine hK' _ ?_
        clear hK' K'
        simp (config := { maxSteps := 1000000 }) only [go_sem,↓reduceIte,q0, q1, q2, q3, q9, q10, q11, q12, q13, hki, e4a, e6a, hg, h20, hg3, ho3, fC, codeC, List.length_map, hx, u3]
        refine hook_pure rfl (by simp (config := { maxSteps := 1000000 }) only [go_sem,↓reduceIte]; exact OpR_A op) (by simp (config := { maxSteps := 1000000 }) only [go_sem,↓reduceIte]; rfl) ?_
        rintro _ rfl
        rcases hsc with ⟨s1, s2, s3, hfx⟩ | ⟨s1, s2, s3, hfx⟩ | ⟨s1, s2, s3, hfx⟩ | ⟨s1, s2, s3, hfx⟩
        · rw [hfx]
          simp (config := { maxSteps := 1000000 }) only [go_sem,↓reduceIte,q0, q1, q2, q3, q9, q10, q11, q12, q13, hki, e4a, e6a, hg, h20, hg3, ho3, fC, codeC, List.length_map, hx, u3, s1, s2, s3, buildA]
          refine draw_det Tt_ok mixed [3017] [([10], [], [], false), ([191], [], [], false), ([10], [0], [], false), ([193], [0], [], false), ([17], [], [], false), ([195, 192], [], [0], false), ([17], [], [], false), ([196, 194], [], [], true)] 1 (by decide +kernel) rfl (by decide) ?_
          simp (config := { maxSteps := 1000000 }) only [go_sem,↓reduceIte]
          iterate 5 (apply det_pure; · (intro fa ga oa K' hK; simp (config := { maxSteps := 1000000 }) only [go_sem,↓reduceIte,q0, q1, q2, q3, q9, q10, q11, q12, q13, hki, e4a, e6a, hg, h20, hg3, ho3, fC, codeC, List.length_map, hx, u3, s1, s2, s3] at hK ⊢; exact hK))
          (apply det_store; (focus simp); (focus (intro fa ga oa K' hK; simp (config := { maxSteps := 1000000 }) only [go_sem,↓reduceIte,q0, q1, q2, q3, q9, q10, q11, q12, q13, hki, e4a, e6a, hg, h20, hg3, ho3, fC, codeC, List.length_map, hx, u3, s1, s2, s3] at hK ⊢; exact hK)))
          (apply det_pure; · (intro fa ga oa K' hK; simp (config := { maxSteps := 1000000 }) only [go_sem,↓reduceIte,q0, q1, q2, q3, q9, q10, q11, q12, q13, hki, e4a, e6a, hg, h20, hg3, ho3, fC, codeC, List.length_map, hx, u3, s1, s2, s3] at hK ⊢; exact hK))
          apply det_last
          intro K' hK'
          simp (config := { maxSteps := 1000000 }) only [go_sem,↓reduceIte,q0, q1, q2, q3, q9, q10, q11, q12, q13, hki, e4a, e6a, hg, h20, hg3, ho3, fC, codeC, List.length_map, hx, u3, s1, s2, s3]
          refine hK' _ ?_
          clear hK' K'
          simp (config := { maxSteps := 1000000 }) only [go_sem,↓reduceIte,q0, q1, q2, q3, q9, q10, q11, q12, q13, hki, e4a, e6a, hg, h20, hg3, ho3, fC, codeC, List.length_map, hx, u3, s1, s2, s3]
          refine hook_pure rfl (by simp (config := { maxSteps := 1000000 }) only [go_sem,↓reduceIte]; exact Enc_X _ _ _ _) (by simp (config := { maxSteps := 1000000 }) only [go_sem,↓reduceIte]; rfl) ?_
          rintro _ ⟨e, rfl⟩
          simp (config := { maxSteps := 1000000 }) only [go_sem,↓reduceIte,q0, q1, q2, q3, q9, q10, q11, q12, q13, hki, e4a, e6a, hg, h20, hg3, ho3, fC, codeC, List.length_map, hx, u3, s1, s2, s3, elemTy]
          refine ⟨⟨by decide, by decide⟩, ?_⟩
          refine retF_at ⟨fun i hi => by (have := far hi; simp only [upd, this, if_false]; exact hgo i hi), fun i h5 hi => by (have := far hi; simp only [upd, this, h5, if_false]; exact hoo i h5 hi), rfl, ⟨by simp [upd, hg], _, lc, pc, _, rfl, ?_, hl, ?_⟩⟩
          · exact .inr ⟨by simp [addX], 3223, .inr rfl, by simp [upd, c1, addX], by simp [upd, c1, addX, codeC]⟩
          · exact .inr ⟨by simp [addX], by simp [upd, addX], by simp [upd, addX, flatR_take, useR, c1]⟩
        · rw [hfx]
          simp (config := { maxSteps := 1000000 }) only [go_sem,↓reduceIte,q0, q1, q2, q3, q9, q10, q11, q12, q13, hki, e4a, e6a, hg, h20, hg3, ho3, fC, codeC, List.length_map, hx, u3, s1, s2, s3, buildA]
          refine draw_det Tt_ok mixed [3017] [([10], [], [], false), ([199], [], [], false), ([10], [0], [], false), ([201], [0], [], false), ([17], [], [], false), ([203, 200], [], [0], false), ([17], [], [], false), ([204, 202], [], [], true)] 1 (by decide +kernel) rfl (by decide) ?_
          simp (config := { maxSteps := 1000000 }) only [go_sem,↓reduceIte]
          iterate 5 (apply det_pure; · (intro fa ga oa K' hK; simp (config := { maxSteps := 1000000 }) only [go_sem,↓reduceIte,q0, q1, q2, q3, q9, q10, q11, q12, q13, hki, e4a, e6a, hg, h20, hg3, ho3, fC, codeC, List.length_map, hx, u3, s1, s2, s3] at hK ⊢; exact hK))
          (apply det_store; (focus simp); (focus (intro fa ga oa K' hK; simp (config := { maxSteps := 1000000 }) only [go_sem,↓reduceIte,q0, q1, q2, q3, q9, q10, q11, q12, q13, hki, e4a, e6a, hg, h20, hg3, ho3, fC, codeC, List.length_map, hx, u3, s1, s2, s3] at hK ⊢; exact hK)))
          (apply det_pure; · (intro fa ga oa K' hK; simp (config := { maxSteps := 1000000 }) only [go_sem,↓reduceIte,q0, q1, q2, q3, q9, q10, q11, q12, q13, hki, e4a, e6a, hg, h20, hg3, ho3, fC, codeC, List.length_map, hx, u3, s1, s2, s3] at hK ⊢; exact hK))
          apply det_last
          intro K' hK'
          simp (config := { maxSteps := 1000000 }) only [go_sem,↓reduceIte,q0, q1, q2, q3, q9, q10, q11, q12, q13, hki, e4a, e6a, hg, h20, hg3, ho3, fC, codeC, List.length_map, hx, u3, s1, s2, s3]
          refine hK' _ ?_
          clear hK' K'
          simp (config := { maxSteps := 1000000 }) only [go_sem,↓reduceIte,q0, q1, q2, q3, q9, q10, q11, q12, q13, hki, e4a, e6a, hg, h20, hg3, ho3, fC, codeC, List.length_map, hx, u3, s1, s2, s3]
          refine hook_pure rfl (by simp (config := { maxSteps := 1000000 }) only [go_sem,↓reduceIte]; exact Enc_X _ _ _ _) (by simp (config := { maxSteps := 1000000 }) only [go_sem,↓reduceIte]; rfl) ?_
          rintro _ ⟨e, rfl⟩
          simp (config := { maxSteps := 1000000 }) only [go_sem,↓reduceIte,q0, q1, q2, q3, q9, q10, q11, q12, q13, hki, e4a, e6a, hg, h20, hg3, ho3, fC, codeC, List.length_map, hx, u3, s1, s2, s3, elemTy]
          refine ⟨⟨by decide, by decide⟩, ?_⟩
          refine retF_at ⟨fun i hi => by (have := far hi; simp only [upd, this, if_false]; exact hgo i hi), fun i h5 hi => by (have := far hi; simp only [upd, this, h5, if_false]; exact hoo i h5 hi), rfl, ⟨by simp [upd, hg], _, lc, pc, _, rfl, ?_, hl, ?_⟩⟩
          · exact .inr ⟨by simp [addX], 3223, .inr rfl, by simp [upd, c1, addX], by simp [upd, c1, addX, codeC]⟩
          · exact .inr ⟨by simp [addX], by simp [upd, addX], by simp [upd, addX, flatR_take, useR, c1]⟩
        · rw [hfx]
          simp (config := { maxSteps := 1000000 }) only [go_sem,↓reduceIte,q0, q1, q2, q3, q9, q10, q11, q12, q13, hki, e4a, e6a, hg, h20, hg3, ho3, fC, codeC, List.length_map, hx, u3, s1, s2, s3, buildA]
          refine hook_pure rfl (by simp (config := { maxSteps := 1000000 }) only [go_sem,↓reduceIte]; exact Enc_X _ _ _ _) (by simp (config := { maxSteps := 1000000 }) only [go_sem,↓reduceIte]; rfl) ?_
          rintro _ ⟨e, rfl⟩
          simp (config := { maxSteps := 1000000 }) only [go_sem,↓reduceIte,q0, q1, q2, q3, q9, q10, q11, q12, q13, hki, e4a, e6a, hg, h20, hg3, ho3, fC, codeC, List.length_map, hx, u3, s1, s2, s3, elemTy]
          refine ⟨⟨by decide, by decide⟩, ?_⟩
          refine retF_at ⟨fun i hi => by (have := far hi; simp only [upd, this, if_false]; exact hgo i hi), fun i h5 hi => by (have := far hi; simp only [upd, this, h5, if_false]; exact hoo i h5 hi), rfl, ⟨by simp [upd, hg], _, lc, pc, _, rfl, ?_, hl, ?_⟩⟩
          · exact .inr ⟨by simp [addX], 3223, .inr rfl, by simp [upd, c1, addX], by simp [upd, c1, addX, codeC]⟩
          · exact .inr ⟨by simp [addX], by simp [upd, addX], by simp [upd, addX, flatR_take, useR, c1]⟩
        · rw [hfx]
          simp (config := { maxSteps := 1000000 }) only [go_sem,↓reduceIte,q0, q1, q2, q3, q9, q10, q11, q12, q13, hki, e4a, e6a, hg, h20, hg3, ho3, fC, codeC, List.length_map, hx, u3, s1, s2, s3, buildA]
          refine draw_det Tt_ok mixed [3017] [([10], [], [], false), ([180], [], [], false), ([10], [0], [], false), ([182], [0], [], false), ([10], [0], [], false), ([184], [0], [], false), ([17], [], [], false), ([186, 181], [], [0], false), ([17], [], [], false), ([187, 183], [], [0], false), ([17], [], [], false), ([188, 185], [], [], true)] 1 (by decide +kernel) rfl (by decide) ?_
          simp (config := { maxSteps := 1000000 }) only [go_sem,↓reduceIte]
          iterate 7 (apply det_pure; · (intro fa ga oa K' hK; simp (config := { maxSteps := 1000000 }) only [go_sem,↓reduceIte,q0, q1, q2, q3, q9, q10, q11, q12, q13, hki, e4a, e6a, hg, h20, hg3, ho3, fC, codeC, List.length_map, hx, u3, s1, s2, s3] at hK ⊢; exact hK))
          (apply det_store; (focus simp); (focus (intro fa ga oa K' hK; simp (config := { maxSteps := 1000000 }) only [go_sem,↓reduceIte,q0, q1, q2, q3, q9, q10, q11, q12, q13, hki, e4a, e6a, hg, h20, hg3, ho3, fC, codeC, List.length_map, hx, u3, s1, s2, s3] at hK ⊢; exact hK)))
          (apply det_pure; · (intro fa ga oa K' hK; simp (config := { maxSteps := 1000000 }) only [go_sem,↓reduceIte,q0, q1, q2, q3, q9, q10, q11, q12, q13, hki, e4a, e6a, hg, h20, hg3, ho3, fC, codeC, List.length_map, hx, u3, s1, s2, s3] at hK ⊢; exact hK))
          (apply det_store; (focus simp); (focus (intro fa ga oa K' hK; simp (config := { maxSteps := 1000000 }) only [go_sem,↓reduceIte,q0, q1, q2, q3, q9, q10, q11, q12, q13, hki, e4a, e6a, hg, h20, hg3, ho3, fC, codeC, List.length_map, hx, u3, s1, s2, s3] at hK ⊢; exact hK)))
          (apply det_pure; · (intro fa ga oa K' hK; simp (config := { maxSteps := 1000000 }) only [go_sem,↓reduceIte,q0, q1, q2, q3, q9, q10, q11, q12, q13, hki, e4a, e6a, hg, h20, hg3, ho3, fC, codeC, List.length_map, hx, u3, s1, s2, s3] at hK ⊢; exact hK))
          apply det_last
          intro K' hK'
          simp (config := { maxSteps := 1000000 }) only [go_sem,↓reduceIte,q0, q1, q2, q3, q9, q10, q11, q12, q13, hki, e4a, e6a, hg, h20, hg3, ho3, fC, codeC, List.length_map, hx, u3, s1, s2, s3]
          refine hK' _ ?_
          clear hK' K'
          simp (config := { maxSteps := 1000000 }) only [go_sem,↓reduceIte,q0, q1, q2, q3, q9, q10, q11, q12, q13, hki, e4a, e6a, hg, h20, hg3, ho3, fC, codeC, List.length_map, hx, u3, s1, s2, s3]
          refine hook_pure rfl (by simp (config := { maxSteps := 1000000 }) only [go_sem,↓reduceIte]; exact Enc_X _ _ _ _) (by simp (config := { maxSteps := 1000000 }) only [go_sem,↓reduceIte]; rfl) ?_
          rintro _ ⟨e, rfl⟩
          simp (config := { maxSteps := 1000000 }) only [go_sem,↓reduceIte,q0, q1, q2, q3, q9, q10, q11, q12, q13, hki, e4a, e6a, hg, h20, hg3, ho3, fC, codeC, List.length_map, hx, u3, s1, s2, s3, elemTy]
          refine ⟨⟨by decide, by decide⟩, ?_⟩
          refine retF_at ⟨fun i hi => by (have := far hi; simp only [upd, this, if_false]; exact hgo i hi), fun i h5 hi => by (have := far hi; simp only [upd, this, h5, if_false]; exact hoo i h5 hi), rfl, ⟨by simp [upd, hg], _, lc, pc, _, rfl, ?_, hl, ?_⟩⟩
          · exact .inr ⟨by simp [addX], 3223, .inr rfl, by simp [upd, c1, addX], by simp [upd, c1, addX, codeC]⟩
          · exact .inr ⟨by simp [addX], by simp [upd, addX], by simp [upd, addX, flatR_take, useR, c1]⟩
    · by_cases hlen : st.code.length = 16384
      · rw [endA_full e4 hlen] at hP
        subst hP
        have hli : ((st.code.length : Nat) : Int) = 16384 := by omega
        simp (config := { maxSteps := 1000000 }) only [go_sem,↓reduceIte,q0, q1, q2, q3, q9, q10, q11, q12, q13, hki, e4a, e6a, hg, h20, hg3, ho3, fC, codeC, List.length_map, c3, hli]
        exact retF_at ⟨hgo, hoo, rfl⟩
      have hli : ¬ ((st.code.length : Nat) : Int) = 16384 := by omega
      rw [endA_ins e6 e4 hlen, hsh] at hP
      subst hP
      by_cases hx : xl = []
      · rw [show useX st line xl = st from if_pos hx]
        subst hx
        simp (config := { maxSteps := 1000000 }) only [go_sem,↓reduceIte,q0, q1, q2, q3, q9, q10, q11, q12, q13, hki, e4a, e6a, hg, h20, hg3, ho3, fC, codeC, List.length_map, c3, hli]
        refine hook_pure rfl (by simp (config := { maxSteps := 1000000 }) only [go_sem,↓reduceIte]; exact OpR_A op) (by simp (config := { maxSteps := 1000000 }) only [go_sem,↓reduceIte]; rfl) ?_
        rintro _ rfl
        rcases hsc with ⟨s1, s2, s3, hfx⟩ | ⟨s1, s2, s3, hfx⟩ | ⟨s1, s2, s3, hfx⟩ | ⟨s1, s2, s3, hfx⟩
        · rw [hfx]
          simp (config := { maxSteps := 1000000 }) only [go_sem,↓reduceIte,q0, q1, q2, q3, q9, q10, q11, q12, q13, hki, e4a, e6a, hg, h20, hg3, ho3, fC, codeC, List.length_map, c3, hli, s1, s2, s3, buildA]
          refine draw_det Tt_ok mixed [3017] [([10], [], [], false), ([191], [], [], false), ([10], [0], [], false), ([193], [0], [], false), ([17], [], [], false), ([195, 192], [], [0], false), ([17], [], [], false), ([196, 194], [], [], true)] 1 (by decide +kernel) rfl (by decide) ?_
          simp (config := { maxSteps := 1000000 }) only [go_sem,↓reduceIte]
          iterate 5 (apply det_pure; · (intro fa ga oa K' hK; simp (config := { maxSteps := 1000000 }) only [go_sem,↓reduceIte,q0, q1, q2, q3, q9, q10, q11, q12, q13, hki, e4a, e6a, hg, h20, hg3, ho3, fC, codeC, List.length_map, c3, hli, s1, s2, s3] at hK ⊢; exact hK))
          (apply det_store; (focus simp); (focus (intro fa ga oa K' hK; simp (config := { maxSteps := 1000000 }) only [go_sem,↓reduceIte,q0, q1, q2, q3, q9, q10, q11, q12, q13, hki, e4a, e6a, hg, h20, hg3, ho3, fC, codeC, List.length_map, c3, hli, s1, s2, s3] at hK ⊢; exact hK)))
          (apply det_pure; · (intro fa ga oa K' hK; simp (config := { maxSteps := 1000000 }) only [go_sem,↓reduceIte,q0, q1, q2, q3, q9, q10, q11, q12, q13, hki, e4a, e6a, hg, h20, hg3, ho3, fC, codeC, List.length_map, c3, hli, s1, s2, s3] at hK ⊢; exact hK))
          apply det_last
          intro K' hK'
          simp (config := { maxSteps := 1000000 }) only [go_sem,↓reduceIte,q0, q1, q2, q3, q9, q10, q11, q12, q13, hki, e4a, e6a, hg, h20, hg3, ho3, fC, codeC, List.length_map, c3, hli, s1, s2, s3]
          refine hK' _ ?_
          clear hK' K'
          simp (config := { maxSteps := 1000000 }) only [go_sem,↓reduceIte,q0, q1, q2, q3, q9, q10, q11, q12, q13, hki, e4a, e6a, hg, h20, hg3, ho3, fC, codeC, List.length_map, c3, hli, s1, s2, s3]
          refine hook_pure rfl (by simp (config := { maxSteps := 1000000 }) only [go_sem,↓reduceIte]; exact Enc_X _ _ _ _) (by simp (config := { maxSteps := 1000000 }) only [go_sem,↓reduceIte]; rfl) ?_
          rintro _ ⟨e, rfl⟩
          simp (config := { maxSteps := 1000000 }) only [go_sem,↓reduceIte,q0, q1, q2, q3, q9, q10, q11, q12, q13, hki, e4a, e6a, hg, h20, hg3, ho3, fC, codeC, List.length_map, c3, hli, s1, s2, s3, elemTy]
          refine ⟨Nat.le_refl _, ⟨by decide, by omega⟩, ?_⟩
          refine retF_at ⟨fun i hi => by (have := far hi; simp only [upd, this, if_false]; exact hgo i hi), fun i h5 hi => by (have := far hi; simp only [upd, this, h5, if_false]; exact hoo i h5 hi), rfl, ⟨by simp [upd, hg], _, lc, pc, _, rfl, ?_, hl, ?_⟩⟩
          · exact .inr ⟨by simp [addX], 3172, .inl rfl, by simp [upd, addX], by simp [upd, addX, codeC, List.take_of_length_le]⟩
          · exact hu
        · rw [hfx]
          simp (config := { maxSteps := 1000000 }) only [go_sem,↓reduceIte,q0, q1, q2, q3, q9, q10, q11, q12, q13, hki, e4a, e6a, hg, h20, hg3, ho3, fC, codeC, List.length_map, c3, hli, s1, s2, s3, buildA]
          refine draw_det Tt_ok mixed [3017] [([10], [], [], false), ([199], [], [], false), ([10], [0], [], false), ([201], [0], [], false), ([17], [], [], false), ([203, 200], [], [0], false), ([17], [], [], false), ([204, 202], [], [], true)] 1 (by decide +kernel) rfl (by decide) ?_
          simp (config := { maxSteps := 1000000 }) only [go_sem,↓reduceIte]
          iterate 5 (apply det_pure; · (intro fa ga oa K' hK; simp (config := { maxSteps := 1000000 }) only [go_sem,↓reduceIte,q0, q1, q2, q3, q9, q10, q11, q12, q13, hki, e4a, e6a, hg, h20, hg3, ho3, fC, codeC, List.length_map, c3, hli, s1, s2, s3] at hK ⊢; exact hK))
          (apply det_store; (focus simp); (focus (intro fa ga oa K' hK; simp (config := { maxSteps := 1000000 }) only [go_sem,↓reduceIte,q0, q1, q2, q3, q9, q10, q11, q12, q13, hki, e4a, e6a, hg, h20, hg3, ho3, fC, codeC, List.length_map, c3, hli, s1, s2, s3] at hK ⊢; exact hK)))
          (apply det_pure; · (intro fa ga oa K' hK; simp (config := { maxSteps := 1000000 }) only [go_sem,↓reduceIte,q0, q1, q2, q3, q9, q10, q11, q12, q13, hki, e4a, e6a, hg, h20, hg3, ho3, fC, codeC, List.length_map, c3, hli, s1, s2, s3] at hK ⊢; exact hK))
          apply det_last
          intro K' hK'
          simp (config := { maxSteps := 1000000 }) only [go_sem,↓reduceIte,q0, q1, q2, q3, q9, q10, q11, q12, q13, hki, e4a, e6a, hg, h20, hg3, ho3, fC, codeC, List.length_map, c3, hli, s1, s2, s3]
          refine hK' _ ?_
          clear hK' K'
          simp (config := { maxSteps := 1000000 }) only [go_sem,↓reduceIte,q0, q1, q2, q3, q9, q10, q11, q12, q13, hki, e4a, e6a, hg, h20, hg3, ho3, fC, codeC, List.length_map, c3, hli, s1, s2, s3]
          refine hook_pure rfl (by simp (config := { maxSteps := 1000000 }) only [go_sem,↓reduceIte]; exact Enc_X _ _ _ _) (by simp (config := { maxSteps := 1000000 }) only [go_sem,↓reduceIte]; rfl) ?_
          rintro _ ⟨e, rfl⟩
          simp (config := { maxSteps := 1000000 }) only [go_sem,↓reduceIte,q0, q1, q2, q3, q9, q10, q11, q12, q13, hki, e4a, e6a, hg, h20, hg3, ho3, fC, codeC, List.length_map, c3, hli, s1, s2, s3, elemTy]
          refine ⟨Nat.le_refl _, ⟨by decide, by omega⟩, ?_⟩
          refine retF_at ⟨fun i hi => by (have := far hi; simp only [upd, this, if_false]; exact hgo i hi), fun i h5 hi => by (have := far hi; simp only [upd, this, h5, if_false]; exact hoo i h5 hi), rfl, ⟨by simp [upd, hg], _, lc, pc, _, rfl, ?_, hl, ?_⟩⟩
          · exact .inr ⟨by simp [addX], 3172, .inl rfl, by simp [upd, addX], by simp [upd, addX, codeC, List.take_of_length_le]⟩
          · exact hu
        · rw [hfx]
          simp (config := { maxSteps := 1000000 }) only [go_sem,↓reduceIte,q0, q1, q2, q3, q9, q10, q11, q12, q13, hki, e4a, e6a, hg, h20, hg3, ho3, fC, codeC, List.length_map, c3, hli, s1, s2, s3, buildA]
          refine hook_pure rfl (by simp (config := { maxSteps := 1000000 }) only [go_sem,↓reduceIte]; exact Enc_X _ _ _ _) (by simp (config := { maxSteps := 1000000 }) only [go_sem,↓reduceIte]; rfl) ?_
          rintro _ ⟨e, rfl⟩
          simp (config := { maxSteps := 1000000 }) only [go_sem,↓reduceIte,q0, q1, q2, q3, q9, q10, q11, q12, q13, hki, e4a, e6a, hg, h20, hg3, ho3, fC, codeC, List.length_map, c3, hli, s1, s2, s3, elemTy]
          refine ⟨Nat.le_refl _, ⟨by decide, by omega⟩, ?_⟩
          refine retF_at ⟨fun i hi => by (have := far hi; simp only [upd, this, if_false]; exact hgo i hi), fun i h5 hi => by (have := far hi; simp only [upd, this, h5, if_false]; exact hoo i h5 hi), rfl, ⟨by simp [upd, hg], _, lc, pc, _, rfl, ?_, hl, ?_⟩⟩
          · exact .inr ⟨by simp [addX], 3172, .inl rfl, by simp [upd, addX], by simp [upd, addX, codeC, List.take_of_length_le]⟩
          · exact hu
        · rw [hfx]
          simp (config := { maxSteps := 1000000 }) only [go_sem,↓reduceIte,q0, q1, q2, q3, q9, q10, q11, q12, q13, hki, e4a, e6a, hg, h20, hg3, ho3, fC, codeC, List.length_map, c3, hli, s1, s2, s3, buildA]
          refine draw_det Tt_ok mixed [3017] [([10], [], [], false), ([180], [], [], false), ([10], [0], [], false), ([182], [0], [], false), ([10], [0], [], false), ([184], [0], [], false), ([17], [], [], false), ([186, 181], [], [0], false), ([17], [], [], false), ([187, 183], [], [0], false), ([17], [], [], false), ([188, 185], [], [], true)] 1 (by decide +kernel) rfl (by decide) ?_
          simp (config := { maxSteps := 1000000 }) only [go_sem,↓reduceIte]
          iterate 7 (apply det_pure; · (intro fa ga oa K' hK; simp (config := { maxSteps := 1000000 }) only [go_sem,↓reduceIte,q0, q1, q2, q3, q9, q10, q11, q12, q13, hki, e4a, e6a, hg, h20, hg3, ho3, fC, codeC, List.length_map, c3, hli, s1, s2, s3] at hK ⊢; exact hK))
          (apply det_store; (focus simp); (focus (intro fa ga oa K' hK; simp (config := { maxSteps := 1000000 }) only [go_sem,↓reduceIte,q0, q1, q2, q3, q9, q10, q11, q12, q13, hki, e4a, e6a, hg, h20, hg3, ho3, fC, codeC, List.length_map, c3, hli, s1, s2, s3] at hK ⊢; exact hK)))
          (apply det_pure; · (intro fa ga oa K' hK; simp (config := { maxSteps := 1000000 }) only [go_sem,↓reduceIte,q0, q1, q2, q3, q9, q10, q11, q12, q13, hki, e4a, e6a, hg, h20, hg3, ho3, fC, codeC, List.length_map, c3, hli, s1, s2, s3] at hK ⊢; exact hK))
          (apply det_store; (focus simp); (focus (intro fa ga oa K' hK; simp (config := { maxSteps := 1000000 }) only [go_sem,↓reduceIte,q0, q1, q2, q3, q9, q10, q11, q12, q13, hki, e4a, e6a, hg, h20, hg3, ho3, fC, codeC, List.length_map, c3, hli, s1, s2, s3] at hK ⊢; exact hK)))
          (apply det_pure; · (intro fa ga oa K' hK; simp (config := { maxSteps := 1000000 }) only [go_sem,↓reduceIte,q0, q1, q2, q3, q9, q10, q11, q12, q13, hki, e4a, e6a, hg, h20, hg3, ho3, fC, codeC, List.length_map, c3, hli, s1, s2, s3] at hK ⊢; exact hK))
          apply det_last
          intro K' hK'
          simp (config := { maxSteps := 1000000 }) only [go_sem,↓reduceIte,q0, q1, q2, q3, q9, q10, q11, q12, q13, hki, e4a, e6a, hg, h20, hg3, ho3, fC, codeC, List.length_map, c3, hli, s1, s2, s3]
          refine hK' _ ?_
          clear hK' K'
          simp (config := { maxSteps := 1000000 }) only [go_sem,↓reduceIte,q0, q1, q2, q3, q9, q10, q11, q12, q13, hki, e4a, e6a, hg, h20, hg3, ho3, fC, codeC, List.length_map, c3, hli, s1, s2, s3]
          refine hook_pure rfl (by simp (config := { maxSteps := 1000000 }) only [go_sem,↓reduceIte]; exact Enc_X _ _ _ _) (by simp (config := { maxSteps := 1000000 }) only [go_sem,↓reduceIte]; rfl) ?_
          rintro _ ⟨e, rfl⟩
          simp (config := { maxSteps := 1000000 }) only [go_sem,↓reduceIte,q0, q1, q2, q3, q9, q10, q11, q12, q13, hki, e4a, e6a, hg, h20, hg3, ho3, fC, codeC, List.length_map, c3, hli, s1, s2, s3, elemTy]
          refine ⟨Nat.le_refl _, ⟨by decide, by omega⟩, ?_⟩
          refine retF_at ⟨fun i hi => by (have := far hi; simp only [upd, this, if_false]; exact hgo i hi), fun i h5 hi => by (have := far hi; simp only [upd, this, h5, if_false]; exact hoo i h5 hi), rfl, ⟨by simp [upd, hg], _, lc, pc, _, rfl, ?_, hl, ?_⟩⟩
          · exact .inr ⟨by simp [addX], 3172, .inl rfl, by simp [upd, addX], by simp [upd, addX, codeC, List.take_of_length_le]⟩
          · exact hu
      rw [show useX st line xl = { st with uses := st.uses ++ [(line, st.code.length, xl)] } from if_neg hx]
      rcases hu with ⟨u1, rfl⟩ | ⟨u1, rfl, u3⟩
      · simp (config := { maxSteps := 1000000 }) only [go_sem,↓reduceIte,q0, q1, q2, q3, q9, q10, q11, q12, q13, hki, e4a, e6a, hg, h20, hg3, ho3, fC, codeC, List.length_map, c3, hli, hx]
        refine draw_det Tt_ok mixed [3156, 3157, 20] [([0], [0, 1], [], false), ([0], [0], [], false), ([143], [0], [], false), ([144], [0], [], false), ([145], [0], [], false), ([12], [], [], false), ([3], [], [], false), ([0], [], [], false), ([149], [], [], false), ([150], [], [], false), ([151], [], [], false), ([152], [], [], false), ([153], [], [], false), ([147, 148, 154], [], [], false), ([155], [], [0], false), ([146, 156], [], [1], false), ([142], [], [], false), ([158], [], [], false), ([159, 157], [], [], true)] 3 (by decide +kernel) rfl (by decide) ?_
        simp (config := { maxSteps := 1000000 }) only [go_sem,↓reduceIte]
        iterate 13 (apply det_pure; · (intro fa ga oa K' hK; simp (config := { maxSteps := 1000000 }) only [go_sem,↓reduceIte,q0, q1, q2, q3, q9, q10, q11, q12, q13, hki, e4a, e6a, hg, h20, hg3, ho3, fC, codeC, List.length_map, c3, hli, hx] at hK ⊢; exact hK))
        (apply det_pure; · (intro fa ga oa K' hK; simp (config := { maxSteps := 1000000 }) only [go_sem,↓reduceIte,buildA] at hK ⊢; exact hK))
        (apply det_new; · (intro fa ga oa K' hK; simp (config := { maxSteps := 1000000 }) only [go_sem,↓reduceIte,q0, q1, q2, q3, q9, q10, q11, q12, q13, hki, e4a, e6a, hg, h20, hg3, ho3, fC, codeC, List.length_map, c3, hli, hx, elemTy] at hK ⊢; exact hK))
        (apply det_new; · (intro fa ga oa K' hK; simp (config := { maxSteps := 1000000 }) only [go_sem,↓reduceIte,q0, q1, q2, q3, q9, q10, q11, q12, q13, hki, e4a, e6a, hg, h20, hg3, ho3, fC, codeC, List.length_map, c3, hli, hx, elemTy] at hK ⊢; first | exact ⟨⟨by decide, by decide⟩, hK⟩ | exact ⟨⟨by decide, by omega⟩, hK⟩ | exact ⟨Nat.le_of_eq (flatR_len _).symm, ⟨by decide, by omega⟩, hK⟩ | exact ⟨Nat.le_refl _, ⟨by decide, by omega⟩, hK⟩))
        iterate 2 (apply det_pure; · (intro fa ga oa K' hK; simp (config := { maxSteps := 1000000 }) only [go_sem,↓reduceIte,q0, q1, q2, q3, q9, q10, q11, q12, q13, hki, e4a, e6a, hg, h20, hg3, ho3, fC, codeC, List.length_map, c3, hli, hx] at hK ⊢; exact hK))
        apply det_last
        intro K' hK'
        simp (config := { maxSteps := 1000000 }) only [go_sem,↓reduceIte,q0, q1, q2, q3, q9, q10, q11, q12, q13, hki, e4a, e6a, hg, h20, hg3, ho3, fC, codeC, List.length_map, c3, hli, hx]
        refine hK' _ ?_
        clear hK' K'
        simp (config := { maxSteps := 1000000 }) only [go_sem,↓reduceIte,q0, q1, q2, q3, q9, q10, q11, q12, q13, hki, e4a, e6a, hg, h20, hg3, ho3, fC, codeC, List.length_map, c3, hli, hx]
        refine hook_pure rfl (by simp (config := { maxSteps := 1000000 }) only [go_sem,↓reduceIte]; exact OpR_A op) (by simp (config := { maxSteps := 1000000 }) only [go_sem,↓reduceIte]; rfl) ?_
        rintro _ rfl
        rcases hsc with ⟨s1, s2, s3, hfx⟩ | ⟨s1, s2, s3, hfx⟩ | ⟨s1, s2, s3, hfx⟩ | ⟨s1, s2, s3, hfx⟩
        · rw [hfx]
          simp (config := { maxSteps := 1000000 }) only [go_sem,↓reduceIte,q0, q1, q2, q3, q9, q10, q11, q12, q13, hki, e4a, e6a, hg, h20, hg3, ho3, fC, codeC, List.length_map, c3, hli, hx, s1, s2, s3, buildA]
          refine draw_det Tt_ok mixed [3017] [([10], [], [], false), ([191], [], [], false), ([10], [0], [], false), ([193], [0], [], false), ([17], [], [], false), ([195, 192], [], [0], false), ([17], [], [], false), ([196, 194], [], [], true)] 1 (by decide +kernel) rfl (by decide) ?_
          simp (config := { maxSteps := 1000000 }) only [go_sem,↓reduceIte]
          iterate 5 (apply det_pure; · (intro fa ga oa K' hK; simp (config := { maxSteps := 1000000 }) only [go_sem,↓reduceIte,q0, q1, q2, q3, q9, q10, q11, q12, q13, hki, e4a, e6a, hg, h20, hg3, ho3, fC, codeC, List.length_map, c3, hli, hx, s1, s2, s3] at hK ⊢; exact hK))
          (apply det_store; (focus simp); (focus (intro fa ga oa K' hK; simp (config := { maxSteps := 1000000 }) only [go_sem,↓reduceIte,q0, q1, q2, q3, q9, q10, q11, q12, q13, hki, e4a, e6a, hg, h20, hg3, ho3, fC, codeC, List.length_map, c3, hli, hx, s1, s2, s3] at hK ⊢; exact hK)))
          (apply det_pure; · (intro fa ga oa K' hK; simp (config := { maxSteps := 1000000 }) only [go_sem,↓reduceIte,q0, q1, q2, q3, q9, q10, q11, q12, q13, hki, e4a, e6a, hg, h20, hg3, ho3, fC, codeC, List.length_map, c3, hli, hx, s1, s2, s3] at hK ⊢; exact hK))
          apply det_last
          intro K' hK'
          simp (config := { maxSteps := 1000000 }) only [go_sem,↓reduceIte,q0, q1, q2, q3, q9, q10, q11, q12, q13, hki, e4a, e6a, hg, h20, hg3, ho3, fC, codeC, List.length_map, c3, hli, hx, s1, s2, s3]
          refine hK' _ ?_
          clear hK' K'
          simp (config := { maxSteps := 1000000 }) only [go_sem,↓reduceIte,q0, q1, q2, q3, q9, q10, q11, q12, q13, hki, e4a, e6a, hg, h20, hg3, ho3, fC, codeC, List.length_map, c3, hli, hx, s1, s2, s3]
          refine hook_pure rfl (by simp (config := { maxSteps := 1000000 }) only [go_sem,↓reduceIte]; exact Enc_X _ _ _ _) (by simp (config := { maxSteps := 1000000 }) only [go_sem,↓reduceIte]; rfl) ?_
          rintro _ ⟨e, rfl⟩
          simp (config := { maxSteps := 1000000 }) only [go_sem,↓reduceIte,q0, q1, q2, q3, q9, q10, q11, q12, q13, hki, e4a, e6a, hg, h20, hg3, ho3, fC, codeC, List.length_map, c3, hli, hx, s1, s2, s3, elemTy]
          refine ⟨Nat.le_refl _, ⟨by decide, by omega⟩, ?_⟩
          refine retF_at ⟨fun i hi => by (have := far hi; simp only [upd, this, if_false]; exact hgo i hi), fun i h5 hi => by (have := far hi; simp only [upd, this, h5, if_false]; exact hoo i h5 hi), rfl, ⟨by simp [upd, hg], _, lc, pc, _, rfl, ?_, hl, ?_⟩⟩
          · exact .inr ⟨by simp [addX], 3172, .inl rfl, by simp [upd, addX], by simp [upd, addX, codeC, List.take_of_length_le]⟩
          · exact .inr ⟨by simp [addX], by simp [upd, u1, addX], by simp [upd, u1, addX, useR]⟩
        · rw [hfx]
          simp (config := { maxSteps := 1000000 }) only [go_sem,↓reduceIte,q0, q1, q2, q3, q9, q10, q11, q12, q13, hki, e4a, e6a, hg, h20, hg3, ho3, fC, codeC, List.length_map, c3, hli, hx, s1, s2, s3, buildA]
          refine draw_det Tt_ok mixed [3017] [([10], [], [], false), ([199], [], [], false), ([10], [0], [], false), ([201], [0], [], false), ([17], [], [], false), ([203, 200], [], [0], false), ([17], [], [], false), ([204, 202], [], [], true)] 1 (by decide +kernel) rfl (by decide) ?_
          simp (config := { maxSteps := 1000000 }) only [go_sem,↓reduceIte]
          iterate 5 (apply det_pure; · (intro fa ga oa K' hK; simp (config := { maxSteps := 1000000 }) only [go_sem,↓reduceIte,q0, q1, q2, q3, q9, q10, q11, q12, q13, hki, e4a, e6a, hg, h20, hg3, ho3, fC, codeC, List.length_map, c3, hli, hx, s1, s2, s3] at hK ⊢; exact hK))
          (apply det_store; (focus simp); (focus (intro fa ga oa K' hK; simp (config := { maxSteps := 1000000 }) only [go_sem,↓reduceIte,q0, q1, q2, q3, q9, q10, q11, q12, q13, hki, e4a, e6a, hg, h20, hg3, ho3, fC, codeC, List.length_map, c3, hli, hx, s1, s2, s3] at hK ⊢; exact hK)))
          (apply det_pure; · (intro fa ga oa K' hK; simp (config := { maxSteps := 1000000 }) only [go_sem,↓reduceIte,q0, q1, q2, q3, q9, q10, q11, q12, q13, hki, e4a, e6a, hg, h20, hg3, ho3, fC, codeC, List.length_map, c3, hli, hx, s1, s2, s3] at hK ⊢; exact hK))
          apply det_last
          intro K' hK'
          simp (config := { maxSteps := 1000000 }) only [go_sem,↓reduceIte,q0, q1, q2, q3, q9, q10, q11, q12, q13, hki, e4a, e6a, hg, h20, hg3, ho3, fC, codeC, List.length_map, c3, hli, hx, s1, s2, s3]
          refine hK' _ ?_
          clear hK' K'
          simp (config := { maxSteps := 1000000 }) only [go_sem,↓reduceIte,q0, q1, q2, q3, q9, q10, q11, q12, q13, hki, e4a, e6a, hg, h20, hg3, ho3, fC, codeC, List.length_map, c3, hli, hx, s1, s2, s3]
          refine hook_pure rfl (by simp (config := { maxSteps := 1000000 }) only [go_sem,↓reduceIte]; exact Enc_X _ _ _ _) (by simp (config := { maxSteps := 1000000 }) only [go_sem,↓reduceIte]; rfl) ?_
          rintro _ ⟨e, rfl⟩
          simp (config := { maxSteps := 1000000 }) only [go_sem,↓reduceIte,q0, q1, q2, q3, q9, q10, q11, q12, q13, hki, e4a, e6a, hg, h20, hg3, ho3, fC, codeC, List.length_map, c3, hli, hx, s1, s2, s3, elemTy]
          refine ⟨Nat.le_refl _, ⟨by decide, by omega⟩, ?_⟩
          refine retF_at ⟨fun i hi => by (have := far hi; simp only [upd, this, if_false]; exact hgo i hi), fun i h5 hi => by (have := far hi; simp only [upd, this, h5, if_false]; exact hoo i h5 hi), rfl, ⟨by simp [upd, hg], _, lc, pc, _, rfl, ?_, hl, ?_⟩⟩
          · exact .inr ⟨by simp [addX], 3172, .inl rfl, by simp [upd, addX], by simp [upd, addX, codeC, List.take_of_length_le]⟩
          · exact .inr ⟨by simp [addX], by simp [upd, u1, addX], by simp [upd, u1, addX, useR]⟩
        · rw [hfx]
          simp (config := { maxSteps := 1000000 }) only [go_sem,↓reduceIte,q0, q1, q2, q3, q9, q10, q11, q12, q13, hki, e4a, e6a, hg, h20, hg3, ho3, fC, codeC, List.length_map, c3, hli, hx, s1, s2, s3, buildA]
          refine hook_pure rfl (by simp (config := { maxSteps := 1000000 }) only [go_sem,↓reduceIte]; exact Enc_X _ _ _ _) (by simp (config := { maxSteps := 1000000 }) only [go_sem,↓reduceIte]; rfl) ?_
          rintro _ ⟨e, rfl⟩
          simp (config := { maxSteps := 1000000 }) only [go_sem,↓reduceIte,q0, q1, q2, q3, q9, q10, q11, q12, q13, hki, e4a, e6a, hg, h20, hg3, ho3, fC, codeC, List.length_map, c3, hli, hx, s1, s2, s3, elemTy]
          refine ⟨Nat.le_refl _, ⟨by decide, by omega⟩, ?_⟩
          refine retF_at ⟨fun i hi => by (have := far hi; simp only [upd, this, if_false]; exact hgo i hi), fun i h5 hi => by (have := far hi; simp only [upd, this, h5, if_false]; exact hoo i h5 hi), rfl, ⟨by simp [upd, hg], _, lc, pc, _, rfl, ?_, hl, ?_⟩⟩
          · exact .inr ⟨by simp [addX], 3172, .inl rfl, by simp [upd, addX], by simp [upd, addX, codeC, List.take_of_length_le]⟩
          · exact .inr ⟨by simp [addX], by simp [upd, u1, addX], by simp [upd, u1, addX, useR]⟩
        · rw [hfx]
          simp (config := { maxSteps := 1000000 }) only [go_sem,↓reduceIte,q0, q1, q2, q3, q9, q10, q11, q12, q13, hki, e4a, e6a, hg, h20, hg3, ho3, fC, codeC, List.length_map, c3, hli, hx, s1, s2, s3, buildA]
          refine draw_det Tt_ok mixed [3017] [([10], [], [], false), ([180], [], [], false), ([10], [0], [], false), ([182], [0], [], false), ([10], [0], [], false), ([184], [0], [], false), ([17], [], [], false), ([186, 181], [], [0], false), ([17], [], [], false), ([187, 183], [], [0], false), ([17], [], [], false), ([188, 185], [], [], true)] 1 (by decide +kernel) rfl (by decide) ?_
          simp (config := { maxSteps := 1000000 }) only [go_sem,↓reduceIte]
          iterate 7 (apply det_pure; · (intro fa ga oa K' hK; simp (config := { maxSteps := 1000000 }) only [go_sem,↓reduceIte,q0, q1, q2, q3, q9, q10, q11, q12, q13, hki, e4a, e6a, hg, h20, hg3, ho3, fC, codeC, List.length_map, c3, hli, hx, s1, s2, s3] at hK ⊢; exact hK))
          (apply det_store; (focus simp); (focus (intro fa ga oa K' hK; simp (config := { maxSteps := 1000000 }) only [go_sem,↓reduceIte,q0, q1, q2, q3, q9, q10, q11, q12, q13, hki, e4a, e6a, hg, h20, hg3, ho3, fC, codeC, List.length_map, c3, hli, hx, s1, s2, s3] at hK ⊢; exact hK)))
          (apply det_pure; · (intro fa ga oa K' hK; simp (config := { maxSteps := 1000000 }) only [go_sem,↓reduceIte,q0, q1, q2, q3, q9, q10, q11, q12, q13, hki, e4a, e6a, hg, h20, hg3, ho3, fC, codeC, List.length_map, c3, hli, hx, s1, s2, s3] at hK ⊢; exact hK))
          (apply det_store; (focus simp); (focus (intro fa ga oa K' hK; simp (config := { maxSteps := 1000000 }) only [go_sem,↓reduceIte,q0, q1, q2, q3, q9, q10, q11, q12, q13, hki, e4a, e6a, hg, h20, hg3, ho3, fC, codeC, List.length_map, c3, hli, hx, s1, s2, s3] at hK ⊢; exact hK)))
          (apply det_pure; · (intro fa ga oa K' hK; simp (config := { maxSteps := 1000000 }) only [go_sem,↓reduceIte,q0, q1, q2, q3, q9, q10, q11, q12, q13, hki, e4a, e6a, hg, h20, hg3, ho3, fC, codeC, List.length_map, c3, hli, hx, s1, s2, s3] at hK ⊢; exact hK))
          apply det_last
          intro K' hK'
          simp (config := { maxSteps := 1000000 }) only [go_sem,↓reduceIte,q0, q1, q2, q3, q9, q10, q11, q12, q13, hki, e4a, e6a, hg, h20, hg3, ho3, fC, codeC, List.length_map, c3, hli, hx, s1, s2, s3]
          refine hK' _ ?_
          clear hK' K'
          simp (config := { maxSteps := 1000000 }) only [go_sem,↓reduceIte,q0, q1, q2, q3, q9, q10, q11, q12, q13, hki, e4a, e6a, hg, h20, hg3, ho3, fC, codeC, List.length_map, c3, hli, hx, s1, s2, s3]
          refine hook_pure rfl (by simp (config := { maxSteps := 1000000 }) only [go_sem,↓reduceIte]; exact Enc_X _ _ _ _) (by simp (config := { maxSteps := 1000000 }) only [go_sem,↓reduceIte]; rfl) ?_
          rintro _ ⟨e, rfl⟩
          simp (config := { maxSteps := 1000000 }) only [go_sem,↓reduceIte,q0, q1, q2, q3, q9, q10, q11, q12, q13, hki, e4a, e6a, hg, h20, hg3, ho3, fC, codeC, List.length_map, c3, hli, hx, s1, s2, s3, elemTy]
          refine ⟨Nat.le_refl _, ⟨by decide, by omega⟩, ?_⟩
          refine retF_at ⟨fun i hi => by (have := far hi; simp only [upd, this, if_false]; exact hgo i hi), fun i h5 hi => by (have := far hi; simp only [upd, this, h5, if_false]; exact hoo i h5 hi), rfl, ⟨by simp [upd, hg], _, lc, pc, _, rfl, ?_, hl, ?_⟩⟩
          · exact .inr ⟨by simp [addX], 3172, .inl rfl, by simp [upd, addX], by simp [upd, addX, codeC, List.take_of_length_le]⟩
          · exact .inr ⟨by simp [addX], by simp [upd, u1, addX], by simp [upd, u1, addX, useR]⟩
      · simp (config := { maxSteps := 1000000 }) only [go_sem,↓reduceIte,q0, q1, q2, q3, q9, q10, q11, q12, q13, hki, e4a, e6a, hg, h20, hg3, ho3, fC, codeC, List.length_map, c3, hli, hx, u3]
        refine draw_det Tt_ok mixed [3156, 3157, 20] [([0], [0, 1], [], false), ([0], [0], [], false), ([143], [0], [], false), ([144], [0], [], false), ([145], [0], [], false), ([12], [], [], false), ([3], [], [], false), ([0], [], [], false), ([149], [], [], false), ([150], [], [], false), ([151], [], [], false), ([152], [], [], false), ([153], [], [], false), ([147, 148, 154], [], [], false), ([155], [], [0], false), ([146, 156], [], [1], false), ([142], [], [], false), ([158], [], [], false), ([159, 157], [], [], true)] 3 (by decide +kernel) rfl (by decide) ?_
        simp (config := { maxSteps := 1000000 }) only [go_sem,↓reduceIte]
        iterate 13 (apply det_pure; · (intro fa ga oa K' hK; simp (config := { maxSteps := 1000000 }) only [go_sem,↓reduceIte,q0, q1, q2, q3, q9, q10, q11, q12, q13, hki, e4a, e6a, hg, h20, hg3, ho3, fC, codeC, List.length_map, c3, hli, hx, u3] at hK ⊢; exact hK))
        (apply det_pure; · (intro fa ga oa K' hK; simp (config := { maxSteps := 1000000 }) only [go_sem,↓reduceIte,buildA] at hK ⊢; exact hK))
        (apply det_new; · (intro fa ga oa K' hK; simp (config := { maxSteps := 1000000 }) only [go_sem,↓reduceIte,q0, q1, q2, q3, q9, q10, q11, q12, q13, hki, e4a, e6a, hg, h20, hg3, ho3, fC, codeC, List.length_map, c3, hli, hx, u3, elemTy] at hK ⊢; exact hK))
        (apply det_new; · (intro fa ga oa K' hK; simp (config := { maxSteps := 1000000 }) only [go_sem,↓reduceIte,q0, q1, q2, q3, q9, q10, q11, q12, q13, hki, e4a, e6a, hg, h20, hg3, ho3, fC, codeC, List.length_map, c3, hli, hx, u3, elemTy] at hK ⊢; first | exact ⟨⟨by decide, by decide⟩, hK⟩ | exact ⟨⟨by decide, by omega⟩, hK⟩ | exact ⟨Nat.le_of_eq (flatR_len _).symm, ⟨by decide, by omega⟩, hK⟩ | exact ⟨Nat.le_refl _, ⟨by decide, by omega⟩, hK⟩))
        iterate 2 (apply det_pure; · (intro fa ga oa K' hK; simp (config := { maxSteps := 1000000 }) only [go_sem,↓reduceIte,q0, q1, q2, q3, q9, q10, q11, q12, q13, hki, e4a, e6a, hg, h20, hg3, ho3, fC, codeC, List.length_map, c3, hli, hx, u3] at hK ⊢; exact hK))
        apply det_last
        intro K' hK'
        simp (config := { maxSteps := 1000000 }) only [go_sem,↓reduceIte,q0, q1, q2, q3, q9, q10, q11, q12, q13, hki, e4a, e6a, hg, h20, hg3, ho3, fC, codeC, List.length_map, c3, hli, hx, u3]
        refine hK' _ ?_
        clear hK' K'
        simp (config := { maxSteps := 1000000 }) only [go_sem,↓reduceIte,q0, q1, q2, q3, q9, q10, q11, q12, q13, hki, e4a, e6a, hg, h20, hg3, ho3, fC, codeC, List.length_map, c3, hli, hx, u3]
        refine hook_pure rfl (by simp (config := { maxSteps := 1000000 }) only [go_sem,↓reduceIte]; exact OpR_A op) (by simp (config := { maxSteps := 1000000 }) only [go_sem,↓reduceIte]; rfl) ?_
        rintro _ rfl
        rcases hsc with ⟨s1, s2, s3, hfx⟩ | ⟨s1, s2, s3, hfx⟩ | ⟨s1, s2, s3, hfx⟩ | ⟨s1, s2, s3, hfx⟩
        · rw [hfx]
          simp (config := { maxSteps := 1000000 }) only [go_sem,↓reduceIte,q0, q1, q2, q3, q9, q10, q11, q12, q13, hki, e4a, e6a, hg, h20, hg3, ho3, fC, codeC, List.length_map, c3, hli, hx, u3, s1, s2, s3, buildA]
          refine draw_det Tt_ok mixed [3017] [([10], [], [], false), ([191], [], [], false), ([10], [0], [], false), ([193], [0], [], false), ([17], [], [], false), ([195, 192], [], [0], false), ([17], [], [], false), ([196, 194], [], [], true)] 1 (by decide +kernel) rfl (by decide) ?_
          simp (config := { maxSteps := 1000000 }) only [go_sem,↓reduceIte]
          iterate 5 (apply det_pure; · (intro fa ga oa K' hK; simp (config := { maxSteps := 1000000 }) only [go_sem,↓reduceIte,q0, q1, q2, q3, q9, q10, q11, q12, q13, hki, e4a, e6a, hg, h20, hg3, ho3, fC, codeC, List.length_map, c3, hli, hx, u3, s1, s2, s3] at hK ⊢; exact hK))
          (apply det_store; (focus simp); (focus (intro fa ga oa K' hK; simp (config := { maxSteps := 1000000 }) only [go_sem,↓reduceIte,q0, q1, q2, q3, q9, q10, q11, q12, q13, hki, e4a, e6a, hg, h20, hg3, ho3, fC, codeC, List.length_map, c3, hli, hx, u3, s1, s2, s3] at hK ⊢; exact hK)))
          (apply det_pure; · (intro fa ga oa K' hK; simp (config := { maxSteps := 1000000 }) only [go_sem,↓reduceIte,q0, q1, q2, q3, q9, q10, q11, q12, q13, hki, e4a, e6a, hg, h20, hg3, ho3, fC, codeC, List.length_map, c3, hli, hx, u3, s1, s2, s3] at hK ⊢; exact hK))
          apply det_last
          intro K' hK'
          simp (config := { maxSteps := 1000000 }) only [go_sem,↓reduceIte,q0, q1, q2, q3, q9, q10, q11, q12, q13, hki, e4a, e6a, hg, h20, hg3, ho3, fC, codeC, List.length_map, c3, hli, hx, u3, s1, s2, s3]
          refine hK' _ ?_
          clear hK' K'
          simp (config := { maxSteps := 1000000 }) only [go_sem,↓reduceIte,q0, q1, q2, q3, q9, q10, q11, q12, q13, hki, e4a, e6a, hg, h20, hg3, ho3, fC, codeC, List.length_map, c3, hli, hx, u3, s1, s2, s3]
          refine hook_pure rfl (by simp (config := { maxSteps := 1000000 }) only [go_sem,↓reduceIte]; exact Enc_X _ _ _ _) (by simp (config := { maxSteps := 1000000 }) only [go_sem,↓reduceIte]; rfl) ?_
          rintro _ ⟨e, rfl⟩
          simp (config := { maxSteps := 1000000 }) only [go_sem,↓reduceIte,q0, q1, q2, q3, q9, q10, q11, q12, q13, hki, e4a, e6a, hg, h20, hg3, ho3, fC, codeC, List.length_map, c3, hli, hx, u3, s1, s2, s3, elemTy]
          refine ⟨Nat.le_refl _, ⟨by decide, by omega⟩, ?_⟩
          refine retF_at ⟨fun i hi => by (have := far hi; simp only [upd, this, if_false]; exact hgo i hi), fun i h5 hi => by (have := far hi; simp only [upd, this, h5, if_false]; exact hoo i h5 hi), rfl, ⟨by simp [upd, hg], _, lc, pc, _, rfl, ?_, hl, ?_⟩⟩
          · exact .inr ⟨by simp [addX], 3172, .inl rfl, by simp [upd, addX], by simp [upd, addX, codeC, List.take_of_length_le]⟩
          · exact .inr ⟨by simp [addX], by simp [upd, addX], by simp [upd, addX, flatR_take, useR]⟩
        · rw [hfx]
          simp (config := { maxSteps := 1000000 }) only [go_sem,↓reduceIte,q0, q1, q2, q3, q9, q10, q11, q12, q13, hki, e4a, e6a, hg, h20, hg3, ho3, fC, codeC, List.length_map, c3, hli, hx, u3, s1, s2, s3, buildA]
          refine draw_det Tt_ok mixed [3017] [([10], [], [], false), ([199], [], [], false), ([10], [0], [], false), ([201], [0], [], false), ([17], [], [], false), ([203, 200], [], [0], false), ([17], [], [], false), ([204, 202], [], [], true)] 1 (by decide +kernel) rfl (by decide) ?_
          simp (config := { maxSteps := 1000000 }) only [go_sem,↓reduceIte]
          iterate 5 (apply det_pure; · (intro fa ga oa K' hK; simp (config := { maxSteps := 1000000 }) only [go_sem,↓reduceIte,q0, q1, q2, q3, q9, q10, q11, q12, q13, hki, e4a, e6a, hg, h20, hg3, ho3, fC, codeC, List.length_map, c3, hli, hx, u3, s1, s2, s3] at hK ⊢; exact hK))
          (apply det_store; (focus simp); (focus (intro fa ga oa K' hK; simp (config := { maxSteps := 1000000 }) only [go_sem,↓reduceIte,q0, q1, q2, q3, q9, q10, q11, q12, q13, hki, e4a, e6a, hg, h20, hg3, ho3, fC, codeC, List.length_map, c3, hli, hx, u3, s1, s2, s3] at hK ⊢; exact hK)))
          (apply det_pure; · (intro fa ga oa K' hK; simp (config := { maxSteps := 1000000 }) only [go_sem,↓reduceIte,q0, q1, q2, q3, q9, q10, q11, q12, q13, hki, e4a, e6a, hg, h20, hg3, ho3, fC, codeC, List.length_map, c3, hli, hx, u3, s1, s2, s3] at hK ⊢; exact hK))
          apply det_last
          intro K' hK'
          simp (config := { maxSteps := 1000000 }) only [go_sem,↓reduceIte,q0, q1, q2, q3, q9, q10, q11, q12, q13, hki, e4a, e6a, hg, h20, hg3, ho3, fC, codeC, List.length_map, c3, hli, hx, u3, s1, s2, s3]
          refine hK' _ ?_
          clear hK' K'
          simp (config := { maxSteps := 1000000 }) only [go_sem,↓reduceIte,q0, q1, q2, q3, q9, q10, q11, q12, q13, hki, e4a, e6a, hg, h20, hg3, ho3, fC, codeC, List.length_map, c3, hli, hx, u3, s1, s2, s3]
          refine hook_pure rfl (by simp (config := { maxSteps := 1000000 }) only [go_sem,↓reduceIte]; exact Enc_X _ _ _ _) (by simp (config := { maxSteps := 1000000 }) only [go_sem,↓reduceIte]; rfl) ?_
          rintro _ ⟨e, rfl⟩
          simp (config := { maxSteps := 1000000 }) only [go_sem,↓reduceIte,q0, q1, q2, q3, q9, q10, q11, q12, q13, hki, e4a, e6a, hg, h20, hg3, ho3, fC, codeC, List.length_map, c3, hli, hx, u3, s1, s2, s3, elemTy]
          refine ⟨Nat.le_refl _, ⟨by decide, by omega⟩, ?_⟩
          refine retF_at ⟨fun i hi => by (have := far hi; simp only [upd, this, if_false]; exact hgo i hi), fun i h5 hi => by (have := far hi; simp only [upd, this, h5, if_false]; exact hoo i h5 hi), rfl, ⟨by simp [upd, hg], _, lc, pc, _, rfl, ?_, hl, ?_⟩⟩
          · exact .inr ⟨by simp [addX], 3172, .inl rfl, by simp [upd, addX], by simp [upd, addX, codeC, List.take_of_length_le]⟩
          · exact .inr ⟨by simp [addX], by simp [upd, addX], by simp [upd, addX, flatR_take, useR]⟩
        · rw [hfx]
          simp (config := { maxSteps := 1000000 }) only [go_sem,↓reduceIte,q0, q1, q2, q3, q9, q10, q11, q12, q13, hki, e4a, e6a, hg, h20, hg3, ho3, fC, codeC, List.length_map, c3, hli, hx, u3, s1, s2, s3, buildA]
          refine hook_pure rfl (by simp (config := { maxSteps := 1000000 }) only [go_sem,↓reduceIte]; exact Enc_X _ _ _ _) (by simp (config := { maxSteps := 1000000 }) only [go_sem,↓reduceIte]; rfl) ?_
          rintro _ ⟨e, rfl⟩
          simp (config := { maxSteps := 1000000 }) only [go_sem,↓reduceIte,q0, q1, q2, q3, q9, q10, q11, q12, q13, hki, e4a, e6a, hg, h20, hg3, ho3, fC, codeC, List.length_map, c3, hli, hx, u3, s1, s2, s3, elemTy]
          refine ⟨Nat.le_refl _, ⟨by decide, by omega⟩, ?_⟩
          refine retF_at ⟨fun i hi => by (have := far hi; simp only [upd, this, if_false]; exact hgo i hi), fun i h5 hi => by (have := far hi; simp only [upd, this, h5, if_false]; exact hoo i h5 hi), rfl, ⟨by simp [upd, hg], _, lc, pc, _, rfl, ?_, hl, ?_⟩⟩
          · exact .inr ⟨by simp [addX], 3172, .inl rfl, by simp [upd, addX], by simp [upd, addX, codeC, List.take_of_length_le]⟩
          · exact .inr ⟨by simp [addX], by simp [upd, addX], by simp [upd, addX, flatR_take, useR]⟩
        · rw [hfx]
          simp (config := { maxSteps := 1000000 }) only [go_sem,↓reduceIte,q0, q1, q2, q3, q9, q10, q11, q12, q13, hki, e4a, e6a, hg, h20, hg3, ho3, fC, codeC, List.length_map, c3, hli, hx, u3, s1, s2, s3, buildA]
          refine draw_det Tt_ok mixed [3017] [([10], [], [], false), ([180], [], [], false), ([10], [0], [], false), ([182], [0], [], false), ([10], [0], [], false), ([184], [0], [], false), ([17], [], [], false), ([186, 181], [], [0], false), ([17], [], [], false), ([187, 183], [], [0], false), ([17], [], [], false), ([188, 185], [], [], true)] 1 (by decide +kernel) rfl (by decide) ?_
          simp (config := { maxSteps := 1000000 }) only [go_sem,↓reduceIte]
          iterate 7 (apply det_pure; · (intro fa ga oa K' hK; simp (config := { maxSteps := 1000000 }) only [go_sem,↓reduceIte,q0, q1, q2, q3, q9, q10, q11, q12, q13, hki, e4a, e6a, hg, h20, hg3, ho3, fC, codeC, List.length_map, c3, hli, hx, u3, s1, s2, s3] at hK ⊢; exact hK))
          (apply det_store; (focus simp); (focus (intro fa ga oa K' hK; simp (config := { maxSteps := 1000000 }) only [go_sem,↓reduceIte,q0, q1, q2, q3, q9, q10, q11, q12, q13, hki, e4a, e6a, hg, h20, hg3, ho3, fC, codeC, List.length_map, c3, hli, hx, u3, s1, s2, s3] at hK ⊢; exact hK)))
          (apply det_pure; · (intro fa ga oa K' hK; simp (config := { maxSteps := 1000000 }) only [go_sem,↓reduceIte,q0, q1, q2, q3, q9, q10, q11, q12, q13, hki, e4a, e6a, hg, h20, hg3, ho3, fC, codeC, List.length_map, c3, hli, hx, u3, s1, s2, s3] at hK ⊢; exact hK))
          (apply det_store; (focus simp); (focus (intro fa ga oa K' hK; simp (config := { maxSteps := 1000000 }) only [go_sem,↓reduceIte,q0, q1, q2, q3, q9, q10, q11, q12, q13, hki, e4a, e6a, hg, h20, hg3, ho3, fC, codeC, List.length_map, c3, hli, hx, u3, s1, s2, s3] at hK ⊢; exact hK)))
          (apply det_pure; · (intro fa ga oa K' hK; simp (config := { maxSteps := 1000000 }) only [go_sem,↓reduceIte,q0, q1, q2, q3, q9, q10, q11, q12, q13, hki, e4a, e6a, hg, h20, hg3, ho3, fC, codeC, List.length_map, c3, hli, hx, u3, s1, s2, s3] at hK ⊢; exact hK))
          apply det_last
          intro K' hK'
          simp (config := { maxSteps := 1000000 }) only [go_sem,↓reduceIte,q0, q1, q2, q3, q9, q10, q11, q12, q13, hki, e4a, e6a, hg, h20, hg3, ho3, fC, codeC, List.length_map, c3, hli, hx, u3, s1, s2, s3]
          refine hK' _ ?_
          clear hK' K'
          simp (config := { maxSteps := 1000000 }) only [go_sem,↓reduceIte,q0, q1, q2, q3, q9, q10, q11, q12, q13, hki, e4a, e6a, hg, h20, hg3, ho3, fC, codeC, List.length_map, c3, hli, hx, u3, s1, s2, s3]
          refine hook_pure rfl (by simp (config := { maxSteps := 1000000 }) only [go_sem,↓reduceIte]; exact Enc_X _ _ _ _) (by simp (config := { maxSteps := 1000000 }) only [go_sem,↓reduceIte]; rfl) ?_
          rintro _ ⟨e, rfl⟩
          simp (config := { maxSteps := 1000000 }) only [go_sem,↓reduceIte,q0, q1, q2, q3, q9, q10, q11, q12, q13, hki, e4a, e6a, hg, h20, hg3, ho3, fC, codeC, List.length_map, c3, hli, hx, u3, s1, s2, s3, elemTy]
          refine ⟨Nat.le_refl _, ⟨by decide, by omega⟩, ?_⟩
          refine retF_at ⟨fun i hi => by (have := far hi; simp only [upd, this, if_false]; exact hgo i hi), fun i h5 hi => by (have := far hi; simp only [upd, this, h5, if_false]; exact hoo i h5 hi), rfl, ⟨by simp [upd, hg], _, lc, pc, _, rfl, ?_, hl, ?_⟩⟩
          · exact .inr ⟨by simp [addX], 3172, .inl rfl, by simp [upd, addX], by simp [upd, addX, codeC, List.take_of_length_le]⟩
          · exact .inr ⟨by simp [addX], by simp [upd, addX], by simp [upd, addX, flatR_take, useR]⟩
    · by_cases hlen : st.code.length = 16384
      · rw [endA_full e4 hlen] at hP
        subst hP
        have hli : ((st.code.length : Nat) : Int) = 16384 := by omega
        simp (config := { maxSteps := 1000000 }) only [go_sem,↓reduceIte,q0, q1, q2, q3, q9, q10, q11, q12, q13, hki, e4a, e6a, hg, h20, hg3, ho3, fC, codeC, List.length_map, c3, hli]
        exact retF_at ⟨hgo, hoo, rfl⟩
      have hli : ¬ ((st.code.length : Nat) : Int) = 16384 := by omega
      rw [endA_ins e6 e4 hlen, hsh] at hP
      subst hP
      by_cases hx : xl = []
      · rw [show useX st line xl = st from if_pos hx]
        subst hx
        simp (config := { maxSteps := 1000000 }) only [go_sem,↓reduceIte,q0, q1, q2, q3, q9, q10, q11, q12, q13, hki, e4a, e6a, hg, h20, hg3, ho3, fC, codeC, List.length_map, c3, hli]
        refine hook_pure rfl (by simp (config := { maxSteps := 1000000 }) only [go_sem,↓reduceIte]; exact OpR_A op) (by simp (config := { maxSteps := 1000000 }) only [go_sem,↓reduceIte]; rfl) ?_
        rintro _ rfl
        rcases hsc with ⟨s1, s2, s3, hfx⟩ | ⟨s1, s2, s3, hfx⟩ | ⟨s1, s2, s3, hfx⟩ | ⟨s1, s2, s3, hfx⟩
        · rw [hfx]
          simp (config := { maxSteps := 1000000 }) only [go_sem,↓reduceIte,q0, q1, q2, q3, q9, q10, q11, q12, q13, hki, e4a, e6a, hg, h20, hg3, ho3, fC, codeC, List.length_map, c3, hli, s1, s2, s3, buildA]
          refine draw_det Tt_ok mixed [3017] [([10], [], [], false), ([191], [], [], false), ([10], [0], [], false), ([193], [0], [], false), ([17], [], [], false), ([195, 192], [], [0], false), ([17], [], [], false), ([196, 194], [], [], true)] 1 (by decide +kernel) rfl (by decide) ?_
          simp (config := { maxSteps := 1000000 }) only [go_sem,↓reduceIte]
          iterate 5 (apply det_pure; · (intro fa ga oa K' hK; simp (config := { maxSteps := 1000000 }) only [go_sem,↓reduceIte,q0, q1, q2, q3, q9, q10, q11, q12, q13, hki, e4a, e6a, hg, h20, hg3, ho3, fC, codeC, List.length_map, c3, hli, s1, s2, s3] at hK ⊢; exact hK))
          (apply det_store; (focus simp); (focus (intro fa ga oa K' hK; simp (config := { maxSteps := 1000000 }) only [go_sem,↓reduceIte,q0, q1, q2, q3, q9, q10, q11, q12, q13, hki, e4a, e6a, hg, h20, hg3, ho3, fC, codeC, List.length_map, c3, hli, s1, s2, s3] at hK ⊢; exact hK)))
          (apply det_pure; · (intro fa ga oa K' hK; simp (config := { maxSteps := 1000000 }) only [go_sem,↓reduceIte,q0, q1, q2, q3, q9, q10, q11, q12, q13, hki, e4a, e6a, hg, h20, hg3, ho3, fC, codeC, List.length_map, c3, hli, s1, s2, s3] at hK ⊢; exact hK))
          apply det_last
          intro K' hK'
          simp (config := { maxSteps := 1000000 }) only [go_sem,↓reduceIte,q0, q1, q2, q3, q9, q10, q11, q12, q13, hki, e4a, e6a, hg, h20, hg3, ho3, fC, codeC, List.length_map, c3, hli, s1, s2, s3]
          refine hK' _ ?_
          clear hK' K'
          simp (config := { maxSteps := 1000000 }) only [go_sem,↓reduceIte,q0, q1, q2, q3, q9, q10, q11, q12, q13, hki, e4a, e6a, hg, h20, hg3, ho3, fC, codeC, List.length_map, c3, hli, s1, s2, s3]
          refine hook_pure rfl (by simp (config := { maxSteps := 1000000 }) only [go_sem,↓reduceIte]; exact Enc_X _ _ _ _) (by simp (config := { maxSteps := 1000000 }) only [go_sem,↓reduceIte]; rfl) ?_
          rintro _ ⟨e, rfl⟩
          simp (config := { maxSteps := 1000000 }) only [go_sem,↓reduceIte,q0, q1, q2, q3, q9, q10, q11, q12, q13, hki, e4a, e6a, hg, h20, hg3, ho3, fC, codeC, List.length_map, c3, hli, s1, s2, s3, elemTy]
          refine ⟨Nat.le_refl _, ⟨by decide, by omega⟩, ?_⟩
          refine retF_at ⟨fun i hi => by (have := far hi; simp only [upd, this, if_false]; exact hgo i hi), fun i h5 hi => by (have := far hi; simp only [upd, this, h5, if_false]; exact hoo i h5 hi), rfl, ⟨by simp [upd, hg], _, lc, pc, _, rfl, ?_, hl, ?_⟩⟩
          · exact .inr ⟨by simp [addX], 3223, .inr rfl, by simp [upd, addX], by simp [upd, addX, codeC, List.take_of_length_le]⟩
          · exact hu
        · rw [hfx]
          simp (config := { maxSteps := 1000000 }) only [go_sem,↓reduceIte,q0, q1, q2, q3, q9, q10, q11, q12, q13, hki, e4a, e6a, hg, h20, hg3, ho3, fC, codeC, List.length_map, c3, hli, s1, s2, s3, buildA]
          refine draw_det Tt_ok mixed [3017] [([10], [], [], false), ([199], [], [], false), ([10], [0], [], false), ([201], [0], [], false), ([17], [], [], false), ([203, 200], [], [0], false), ([17], [], [], false), ([204, 202], [], [], true)] 1 (by decide +kernel) rfl (by decide) ?_
          simp (config := { maxSteps := 1000000 }) only [go_sem,↓reduceIte]
          iterate 5 (apply det_pure; · (intro fa ga oa K' hK; simp (config := { maxSteps := 1000000 }) only [go_sem,↓reduceIte,q0, q1, q2, q3, q9, q10, q11, q12, q13, hki, e4a, e6a, hg, h20, hg3, ho3, fC, codeC, List.length_map, c3, hli, s1, s2, s3] at hK ⊢; exact hK))
          (apply det_store; (focus simp); (focus (intro fa ga oa K' hK; simp (config := { maxSteps := 1000000 }) only [go_sem,↓reduceIte,q0, q1, q2, q3, q9, q10, q11, q12, q13, hki, e4a, e6a, hg, h20, hg3, ho3, fC, codeC, List.length_map, c3, hli, s1, s2, s3] at hK ⊢; exact hK)))
          (apply det_pure; · (intro fa ga oa K' hK; simp (config := { maxSteps := 1000000 }) only [go_sem,↓reduceIte,q0, q1, q2, q3, q9, q10, q11, q12, q13, hki, e4a, e6a, hg, h20, hg3, ho3, fC, codeC, List.length_map, c3, hli, s1, s2, s3] at hK ⊢; exact hK))
          apply det_last
          intro K' hK'
          simp (config := { maxSteps := 1000000 }) only [go_sem,↓reduceIte,q0, q1, q2, q3, q9, q10, q11, q12, q13, hki, e4a, e6a, hg, h20, hg3, ho3, fC, codeC, List.length_map, c3, hli, s1, s2, s3]
          refine hK' _ ?_
          clear hK' K'
          simp (config := { maxSteps := 1000000 }) only [go_sem,↓reduceIte,q0, q1, q2, q3, q9, q10, q11, q12, q13, hki, e4a, e6a, hg, h20, hg3, ho3, fC, codeC, List.length_map, c3, hli, s1, s2, s3]
          refine hook_pure rfl (by simp (config := { maxSteps := 1000000 }) only [go_sem,↓reduceIte]; exact Enc_X _ _ _ _) (by simp (config := { maxSteps := 1000000 }) only [go_sem,↓reduceIte]; rfl) ?_
          rintro _ ⟨e, rfl⟩
          simp (config := { maxSteps := 1000000 }) only [go_sem,↓reduceIte,q0, q1, q2, q3, q9, q10, q11, q12, q13, hki, e4a, e6a, hg, h20, hg3, ho3, fC, codeC, List.length_map, c3, hli, s1, s2, s3, elemTy]
          refine ⟨Nat.le_refl _, ⟨by decide, by omega⟩, ?_⟩
          refine retF_at ⟨fun i hi => by (have := far hi; simp only [upd, this, if_false]; exact hgo i hi), fun i h5 hi => by (have := far hi; simp only [upd, this, h5, if_false]; exact hoo i h5 hi), rfl, ⟨by simp [upd, hg], _, lc, pc, _, rfl, ?_, hl, ?_⟩⟩
          · exact .inr ⟨by simp [addX], 3223, .inr rfl, by simp [upd, addX], by simp [upd, addX, codeC, List.take_of_length_le]⟩
          · exact hu
        · rw [hfx]
          simp (config := { maxSteps := 1000000 }) only [go_sem,↓reduceIte,q0, q1, q2, q3, q9, q10, q11, q12, q13, hki, e4a, e6a, hg, h20, hg3, ho3, fC, codeC, List.length_map, c3, hli, s1, s2, s3, buildA]
          refine hook_pure rfl (by simp (config := { maxSteps := 1000000 }) only [go_sem,↓reduceIte]; exact Enc_X _ _ _ _) (by simp (config := { maxSteps := 1000000 }) only [go_sem,↓reduceIte]; rfl) ?_
          rintro _ ⟨e, rfl⟩
          simp (config := { maxSteps := 1000000 }) only [go_sem,↓reduceIte,q0, q1, q2, q3, q9, q10, q11, q12, q13, hki, e4a, e6a, hg, h20, hg3, ho3, fC, codeC, List.length_map, c3, hli, s1, s2, s3, elemTy]
          refine ⟨Nat.le_refl _, ⟨by decide, by omega⟩, ?_⟩
          refine retF_at ⟨fun i hi => by (have := far hi; simp only [upd, this, if_false]; exact hgo i hi), fun i h5 hi => by (have := far hi; simp only [upd, this, h5, if_false]; exact hoo i h5 hi), rfl, ⟨by simp [upd, hg], _, lc, pc, _, rfl, ?_, hl, ?_⟩⟩
          · exact .inr ⟨by simp [addX], 3223, .inr rfl, by simp [upd, addX], by simp [upd, addX, codeC, List.take_of_length_le]⟩
          · exact hu
        · rw [hfx]
          simp (config := { maxSteps := 1000000 }) only [go_sem,↓reduceIte,q0, q1, q2, q3, q9, q10, q11, q12, q13, hki, e4a, e6a, hg, h20, hg3, ho3, fC, codeC, List.length_map, c3, hli, s1, s2, s3, buildA]
          refine draw_det Tt_ok mixed [3017] [([10], [], [], false), ([180], [], [], false), ([10], [0], [], false), ([182], [0], [], false), ([10], [0], [], false), ([184], [0], [], false), ([17], [], [], false), ([186, 181], [], [0], false), ([17], [], [], false), ([187, 183], [], [0], false), ([17], [], [], false), ([188, 185], [], [], true)] 1 (by decide +kernel) rfl (by decide) ?_
          simp (config := { maxSteps := 1000000 }) only [go_sem,↓reduceIte]
          iterate 7 (apply det_pure; · (intro fa ga oa K' hK; simp (config := { maxSteps := 1000000 }) only [go_sem,↓reduceIte,q0, q1, q2, q3, q9, q10, q11, q12, q13, hki, e4a, e6a, hg, h20, hg3, ho3, fC, codeC, List.length_map, c3, hli, s1, s2, s3] at hK ⊢; exact hK))
          (apply det_store; (focus simp); (focus (intro fa ga oa K' hK; simp (config := { maxSteps := 1000000 }) only [go_sem,↓reduceIte,q0, q1, q2, q3, q9, q10, q11, q12, q13, hki, e4a, e6a, hg, h20, hg3, ho3, fC, codeC, List.length_map, c3, hli, s1, s2, s3] at hK ⊢; exact hK)))
          (apply det_pure; · (intro fa ga oa K' hK; simp (config := { maxSteps := 1000000 }) only [go_sem,↓reduceIte,q0, q1, q2, q3, q9, q10, q11, q12, q13, hki, e4a, e6a, hg, h20, hg3, ho3, fC, codeC, List.length_map, c3, hli, s1, s2, s3] at hK ⊢; exact hK))
          (apply det_store; (focus simp); (focus (intro fa ga oa K' hK; simp (config := { maxSteps := 1000000 }) only [go_sem,↓reduceIte,q0, q1, q2, q3, q9, q10, q11, q12, q13, hki, e4a, e6a, hg, h20, hg3, ho3, fC, codeC, List.length_map, c3, hli, s1, s2, s3] at hK ⊢; exact hK)))
          (apply det_pure; · (intro fa ga oa K' hK; simp (config := { maxSteps := 1000000 }) only [go_sem,↓reduceIte,q0, q1, q2, q3, q9, q10, q11, q12, q13, hki, e4a, e6a, hg, h20, hg3, ho3, fC, codeC, List.length_map, c3, hli, s1, s2, s3] at hK ⊢; exact hK))
          apply det_last
          intro K' hK'
          simp (config := { maxSteps := 1000000 }) only [go_sem,↓reduceIte,q0, q1, q2, q3, q9, q10, q11, q12, q13, hki, e4a, e6a, hg, h20, hg3, ho3, fC, codeC, List.length_map, c3, hli, s1, s2, s3]
          refine hK' _ ?_
          clear hK' K'
          simp (config := { maxSteps := 1000000 }) only [go_sem,↓reduceIte,q0, q1, q2, q3, q9, q10, q11, q12, q13, hki, e4a, e6a, hg, h20, hg3, ho3, fC, codeC, List.length_map, c3, hli, s1, s2, s3]
          refine hook_pure rfl (by simp (config := { maxSteps := 1000000 }) only [go_sem,↓reduceIte]; exact Enc_X _ _ _ _) (by simp (config := { maxSteps := 1000000 }) only [go_sem,↓reduceIte]; rfl) ?_
          rintro _ ⟨e, rfl⟩
          simp (config := { maxSteps := 1000000 }) only [go_sem,↓reduceIte,q0, q1, q2, q3, q9, q10, q11, q12, q13, hki, e4a, e6a, hg, h20, hg3, ho3, fC, codeC, List.length_map, c3, hli, s1, s2, s3, elemTy]
          refine ⟨Nat.le_refl _, ⟨by decide, by omega⟩, ?_⟩
          refine retF_at ⟨fun i hi => by (have := far hi; simp only [upd, this, if_false]; exact hgo i hi), fun i h5 hi => by (have := far hi; simp only [upd, this, h5, if_false]; exact hoo i h5 hi), rfl, ⟨by simp [upd, hg], _, lc, pc, _, rfl, ?_, hl, ?_⟩⟩
          · exact .inr ⟨by simp [addX], 3223, .inr rfl, by simp [upd, addX], by simp [upd, addX, codeC, List.take_of_length_le]⟩
          · exact hu
      rw [show useX st line xl = { st with uses := st.uses ++ [(line, st.code.length, xl)] } from if_neg hx]
      rcases hu with ⟨u1, rfl⟩ | ⟨u1, rfl, u3⟩
      · simp (config := { maxSteps := 1000000 }) only [go_sem,↓reduceIte,q0, q1, q2, q3, q9, q10, q11, q12, q13, hki, e4a, e6a, hg, h20, hg3, ho3, fC, codeC, List.length_map, c3, hli, hx]
        refine draw_det Tt_ok mixed [3156, 3157, 20] [([0], [0, 1], [], false), ([0], [0], [], false), ([143], [0], [], false), ([144], [0], [], false), ([145], [0], [], false), ([12], [], [], false), ([3], [], [], false), ([0], [], [], false), ([149], [], [], false), ([150], [], [], false), ([151], [], [], false), ([152], [], [], false), ([153], [], [], false), ([147, 148, 154], [], [], false), ([155], [], [0], false), ([146, 156], [], [1], false), ([142], [], [], false), ([158], [], [], false), ([159, 157], [], [], true)] 3 (by decide +kernel) rfl (by decide) ?_
        simp (config := { maxSteps := 1000000 }) only [go_sem,↓reduceIte]
        iterate 13 (apply det_pure; · (intro fa ga oa K' hK; simp (config := { maxSteps := 1000000 }) only [go_sem,↓reduceIte,q0, q1, q2, q3, q9, q10, q11, q12, q13, hki, e4a, e6a, hg, h20, hg3, ho3, fC, codeC, List.length_map, c3, hli, hx] at hK ⊢; exact hK))
        (apply det_pure; · (intro fa ga oa K' hK; simp (config := { maxSteps := 1000000 }) only [go_sem,↓reduceIte,buildA] at hK ⊢; exact hK))
        (apply det_new; · (intro fa ga oa K' hK; simp (config := { maxSteps := 1000000 }) only [go_sem,↓reduceIte,q0, q1, q2, q3, q9, q10, q11, q12, q13, hki, e4a, e6a, hg, h20, hg3, ho3, fC, codeC, List.length_map, c3, hli, hx, elemTy] at hK ⊢; exact hK))
        (apply det_new; · (intro fa ga oa K' hK; simp (config := { maxSteps := 1000000 }) only [go_sem,↓reduceIte,q0, q1, q2, q3, q9, q10, q11, q12, q13, hki, e4a, e6a, hg, h20, hg3, ho3, fC, codeC, List.length_map, c3, hli, hx, elemTy] at hK ⊢; first | exact ⟨⟨by decide, by decide⟩, hK⟩ | exact ⟨⟨by decide, by omega⟩, hK⟩ | exact ⟨Nat.le_of_eq (flatR_len _).symm, ⟨by decide, by omega⟩, hK⟩ | exact ⟨Nat.le_refl _, ⟨by decide, by omega⟩, hK⟩))
        iterate 2 (apply det_pure; · (intro fa ga oa K' hK; simp (config := { maxSteps := 1000000 }) only [go_sem,↓reduceIte,q0, q1, q2, q3, q9, q10, q11, q12, q13, hki, e4a, e6a, hg, h20, hg3, ho3, fC, codeC, List.length_map, c3, hli, hx] at hK ⊢; exact hK))
        apply det_last
        intro K' hK'
        simp (config := { maxSteps := 1000000 }) only [go_sem,↓reduceIte,q0, q1, q2, q3, q9, q10, q11, q12, q13, hki, e4a, e6a, hg, h20, hg3, ho3, fC, codeC, List.length_map, c3, hli, hx]
        refine hK' _ ?_
        clear hK' K'
        simp (config := { maxSteps := 1000000 }) only [go_sem,↓reduceIte,q0, q1, q2, q3, q9, q10, q11, q12, q13, hki, e4a, e6a, hg, h20, hg3, ho3, fC, codeC, List.length_map, c3, hli, hx]
        refine hook_pure rfl (by simp (config := { maxSteps := 1000000 }) only [go_sem,↓reduceIte]; exact OpR_A op) (by simp (config := { maxSteps := 1000000 }) only [go_sem,↓reduceIte]; rfl) ?_
        rintro _ rfl
        rcases hsc with ⟨s1, s2, s3, hfx⟩ | ⟨s1, s2, s3, hfx⟩ | ⟨s1, s2, s3, hfx⟩ | ⟨s1, s2, s3, hfx⟩
        · rw [hfx]
          simp (config := { maxSteps := 1000000 }) only [go_sem,↓reduceIte,q0, q1, q2, q3, q9, q10, q11, q12, q13, hki, e4a, e6a, hg, h20, hg3, ho3, fC, codeC, List.length_map, c3, hli, hx, s1, s2, s3, buildA]
          refine draw_det Tt_ok mixed [3017] [([10], [], [], false), ([191], [], [], false), ([10], [0], [], false), ([193], [0], [], false), ([17], [], [], false), ([195, 192], [], [0], false), ([17], [], [], false), ([196, 194], [], [], true)] 1 (by decide +kernel) rfl (by decide) ?_
          simp (config := { maxSteps := 1000000 }) only [go_sem,↓reduceIte]
          iterate 5 (apply det_pure; · (intro fa ga oa K' hK; simp (config := { maxSteps := 1000000 }) only [go_sem,↓reduceIte,q0, q1, q2, q3, q9, q10, q11, q12, q13, hki, e4a, e6a, hg, h20, hg3, ho3, fC, codeC, List.length_map, c3, hli, hx, s1, s2, s3] at hK ⊢; exact hK))
          (apply det_store; (focus simp); (focus (intro fa ga oa K' hK; simp (config := { maxSteps := 1000000 }) only [go_sem,↓reduceIte,q0, q1, q2, q3, q9, q10, q11, q12, q13, hki, e4a, e6a, hg, h20, hg3, ho3, fC, codeC, List.length_map, c3, hli, hx, s1, s2, s3] at hK ⊢; exact hK)))
          (apply det_pure; · (intro fa ga oa K' hK; simp (config := { maxSteps := 1000000 }) only [go_sem,↓reduceIte,q0, q1, q2, q3, q9, q10, q11, q12, q13, hki, e4a, e6a, hg, h20, hg3, ho3, fC, codeC, List.length_map, c3, hli, hx, s1, s2, s3] at hK ⊢; exact hK))
          apply det_last
          intro K' hK'
          simp (config := { maxSteps := 1000000 }) only [go_sem,↓reduceIte,q0, q1, q2, q3, q9, q10, q11, q12, q13, hki, e4a, e6a, hg, h20, hg3, ho3, fC, codeC, List.length_map, c3, hli, hx, s1, s2, s3]
          refine hK' _ ?_
          clear hK' K'
          simp (config := { maxSteps := 1000000 }) only [go_sem,↓reduceIte,q0, q1, q2, q3, q9, q10, q11, q12, q13, hki, e4a, e6a, hg, h20, hg3, ho3, fC, codeC, List.length_map, c3, hli, hx, s1, s2, s3]
          refine hook_pure rfl (by simp (config := { maxSteps := 1000000 }) only [go_sem,↓reduceIte]; exact Enc_X _ _ _ _) (by simp (config := { maxSteps := 1000000 }) only [go_sem,↓reduceIte]; rfl) ?_
          rintro _ ⟨e, rfl⟩
          simp (config := { maxSteps := 1000000 }) only [go_sem,↓reduceIte,q0, q1, q2, q3, q9, q10, q11, q12, q13, hki, e4a, e6a, hg, h20, hg3, ho3, fC, codeC, List.length_map, c3, hli, hx, s1, s2, s3, elemTy]
          refine ⟨Nat.le_refl _, ⟨by decide, by omega⟩, ?_⟩
          refine retF_at ⟨fun i hi => by (have := far hi; simp only [upd, this, if_false]; exact hgo i hi), fun i h5 hi => by (have := far hi; simp only [upd, this, h5, if_false]; exact hoo i h5 hi), rfl, ⟨by simp [upd, hg], _, lc, pc, _, rfl, ?_, hl, ?_⟩⟩
          · exact .inr ⟨by simp [addX], 3223, .inr rfl, by simp [upd, addX], by simp [upd, addX, codeC, List.take_of_length_le]⟩
          · exact .inr ⟨by simp [addX], by simp [upd, u1, addX], by simp [upd, u1, addX, useR]⟩
        · rw [hfx]
          simp (config := { maxSteps := 1000000 }) only [go_sem,↓reduceIte,q0, q1, q2, q3, q9, q10, q11, q12, q13, hki, e4a, e6a, hg, h20, hg3, ho3, fC, codeC, List.length_map, c3, hli, hx, s1, s2, s3, buildA]
          refine draw_det Tt_ok mixed [3017] [([10], [], [], false), ([199], [], [], false), ([10], [0], [], false), ([201], [0], [], false), ([17], [], [], false), ([203, 200], [], [0], false), ([17], [], [], false), ([204, 202], [], [], true)] 1 (by decide +kernel) rfl (by decide) ?_
          simp (config := { maxSteps := 1000000 }) only [go_sem,↓reduceIte]
          iterate 5 (apply det_pure; · (intro fa ga oa K' hK; simp (config := { maxSteps := 1000000 }) only [go_sem,↓reduceIte,q0, q1, q2, q3, q9, q10, q11, q12, q13, hki, e4a, e6a, hg, h20, hg3, ho3, fC, codeC, List.length_map, c3, hli, hx, s1, s2, s3] at hK ⊢; exact hK))
          (apply det_store; (focus simp); (focus (intro fa ga oa K' hK; simp (config := { maxSteps := 1000000 }) only [go_sem,↓reduceIte,q0, q1, q2, q3, q9, q10, q11, q12, q13, hki, e4a, e6a, hg, h20, hg3, ho3, fC, codeC, List.length_map, c3, hli, hx, s1, s2, s3] at hK ⊢; exact hK)))
          (apply det_pure; · (intro fa ga oa K' hK; simp (config := { maxSteps := 1000000 }) only [go_sem,↓reduceIte,q0, q1, q2, q3, q9, q10, q11, q12, q13, hki, e4a, e6a, hg, h20, hg3, ho3, fC, codeC, List.length_map, c3, hli, hx, s1, s2, s3] at hK ⊢; exact hK))
          apply det_last
          intro K' hK'
          simp (config := { maxSteps := 1000000 }) only [go_sem,↓reduceIte,q0, q1, q2, q3, q9, q10, q11, q12, q13, hki, e4a, e6a, hg, h20, hg3, ho3, fC, codeC, List.length_map, c3, hli, hx, s1, s2, s3]
          refine hK' _ ?_
          clear hK' K'
          simp (config := { maxSteps := 1000000 }) only [go_sem,↓reduceIte,q0, q1, q2, q3, q9, q10, q11, q12, q13, hki, e4a, e6a, hg, h20, hg3, ho3, fC, codeC, List.length_map, c3, hli, hx, s1, s2, s3]
          refine hook_pure rfl (by simp (config := { maxSteps := 1000000 }) only [go_sem,↓reduceIte]; exact Enc_X _ _ _ _) (by simp (config := { maxSteps := 1000000 }) only [go_sem,↓reduceIte]; rfl) ?_
          rintro _ ⟨e, rfl⟩
          simp (config := { maxSteps := 1000000 }) only [go_sem,↓reduceIte,q0, q1, q2, q3, q9, q10, q11, q12, q13, hki, e4a, e6a, hg, h20, hg3, ho3, fC, codeC, List.length_map, c3, hli, hx, s1, s2, s3, elemTy]
          refine ⟨Nat.le_refl _, ⟨by decide, by omega⟩, ?_⟩
          refine retF_at ⟨fun i hi => by (have := far hi; simp only [upd, this, if_false]; exact hgo i hi), fun i h5 hi => by (have := far hi; simp only [upd, this, h5, if_false]; exact hoo i h5 hi), rfl, ⟨by simp [upd, hg], _, lc, pc, _, rfl, ?_, hl, ?_⟩⟩
          · exact .inr ⟨by simp [addX], 3223, .inr rfl, by simp [upd, addX], by simp [upd, addX, codeC, List.take_of_length_le]⟩
          · exact .inr ⟨by simp [addX], by simp [upd, u1, addX], by simp [upd, u1, addX, useR]⟩
        · rw [hfx]
          simp (config := { maxSteps := 1000000 }) only [go_sem,↓reduceIte,q0, q1, q2, q3, q9, q10, q11, q12, q13, hki, e4a, e6a, hg, h20, hg3, ho3, fC, codeC, List.length_map, c3, hli, hx, s1, s2, s3, buildA]
          refine hook_pure rfl (by simp (config := { maxSteps := 1000000 }) only [go_sem,↓reduceIte]; exact Enc_X _ _ _ _) (by simp (config := { maxSteps := 1000000 }) only [go_sem,↓reduceIte]; rfl) ?_
          rintro _ ⟨e, rfl⟩
          simp (config := { maxSteps := 1000000 }) only [go_sem,↓reduceIte,q0, q1, q2, q3, q9, q10, q11, q12, q13, hki, e4a, e6a, hg, h20, hg3, ho3, fC, codeC, List.length_map, c3, hli, hx, s1, s2, s3, elemTy]
          refine ⟨Nat.le_refl _, ⟨by decide, by omega⟩, ?_⟩
          refine retF_at ⟨fun i hi => by (have := far hi; simp only [upd, this, if_false]; exact hgo i hi), fun i h5 hi => by (have := far hi; simp only [upd, this, h5, if_false]; exact hoo i h5 hi), rfl, ⟨by simp [upd, hg], _, lc, pc, _, rfl, ?_, hl, ?_⟩⟩
          · exact .inr ⟨by simp [addX], 3223, .inr rfl, by simp [upd, addX], by simp [upd, addX, codeC, List.take_of_length_le]⟩
          · exact .inr ⟨by simp [addX], by simp [upd, u1, addX], by simp [upd, u1, addX, useR]⟩
        · rw [hfx]
          simp (config := { maxSteps := 1000000 }) only [go_sem,↓reduceIte,q0, q1, q2, q3, q9, q10, q11, q12, q13, hki, e4a, e6a, hg, h20, hg3, ho3, fC, codeC, List.length_map, c3, hli, hx, s1, s2, s3, buildA]
          refine draw_det Tt_ok mixed [3017] [([10], [], [], false), ([180], [], [], false), ([10], [0], [], false), ([182], [0], [], false), ([10], [0], [], false), ([184], [0], [], false), ([17], [], [], false), ([186, 181], [], [0], false), ([17], [], [], false), ([187, 183], [], [0], false), ([17], [], [], false), ([188, 185], [], [], true)] 1 (by decide +kernel) rfl (by decide) ?_
          simp (config := { maxSteps := 1000000 }) only [go_sem,↓reduceIte]
          iterate 7 (apply det_pure; · (intro fa ga oa K' hK; simp (config := { maxSteps := 1000000 }) only [go_sem,↓reduceIte,q0, q1, q2, q3, q9, q10, q11, q12, q13, hki, e4a, e6a, hg, h20, hg3, ho3, fC, codeC, List.length_map, c3, hli, hx, s1, s2, s3] at hK ⊢; exact hK))
          (apply det_store; (focus simp); (focus (intro fa ga oa K' hK; simp (config := { maxSteps := 1000000 }) only [go_sem,↓reduceIte,q0, q1, q2, q3, q9, q10, q11, q12, q13, hki, e4a, e6a, hg, h20, hg3, ho3, fC, codeC, List.length_map, c3, hli, hx, s1, s2, s3] at hK ⊢; exact hK)))
          (apply det_pure; · (intro fa ga oa K' hK; simp (config := { maxSteps := 1000000 }) only [go_sem,↓reduceIte,q0, q1, q2, q3, q9, q10, q11, q12, q13, hki, e4a, e6a, hg, h20, hg3, ho3, fC, codeC, List.length_map, c3, hli, hx, s1, s2, s3] at hK ⊢; exact hK))
          (apply det_store; (focus simp); (focus (intro fa ga oa K' hK; simp (config := { maxSteps := 1000000 }) only [go_sem,↓reduceIte,q0, q1, q2, q3, q9, q10, q11, q12, q13, hki, e4a, e6a, hg, h20, hg3, ho3, fC, codeC, List.length_map, c3, hli, hx, s1, s2, s3] at hK ⊢; exact hK)))
          (apply det_pure; · (intro fa ga oa K' hK; simp (config := { maxSteps := 1000000 }) only [go_sem,↓reduceIte,q0, q1, q2, q3, q9, q10, q11, q12, q13, hki, e4a, e6a, hg, h20, hg3, ho3, fC, codeC, List.length_map, c3, hli, hx, s1, s2, s3] at hK ⊢; exact hK))
          apply det_last
          intro K' hK'
          simp (config := { maxSteps := 1000000 }) only [go_sem,↓reduceIte,q0, q1, q2, q3, q9, q10, q11, q12, q13, hki, e4a, e6a, hg, h20, hg3, ho3, fC, codeC, List.length_map, c3, hli, hx, s1, s2, s3]
          refine hK' _ ?_
          clear hK' K'
          simp (config := { maxSteps := 1000000 }) only [go_sem,↓reduceIte,q0, q1, q2, q3, q9, q10, q11, q12, q13, hki, e4a, e6a, hg, h20, hg3, ho3, fC, codeC, List.length_map, c3, hli, hx, s1, s2, s3]
          refine hook_pure rfl (by simp (config := { maxSteps := 1000000 }) only [go_sem,↓reduceIte]; exact Enc_X _ _ _ _) (by simp (config := { maxSteps := 1000000 }) only [go_sem,↓reduceIte]; rfl) ?_
          rintro _ ⟨e, rfl⟩
          simp (config := { maxSteps := 1000000 }) only [go_sem,↓reduceIte,q0, q1, q2, q3, q9, q10, q11, q12, q13, hki, e4a, e6a, hg, h20, hg3, ho3, fC, codeC, List.length_map, c3, hli, hx, s1, s2, s3, elemTy]
          refine ⟨Nat.le_refl _, ⟨by decide, by omega⟩, ?_⟩
          refine retF_at ⟨fun i hi => by (have := far hi; simp only [upd, this, if_false]; exact hgo i hi), fun i h5 hi => by (have := far hi; simp only [upd, this, h5, if_false]; exact hoo i h5 hi), rfl, ⟨by simp [upd, hg], _, lc, pc, _, rfl, ?_, hl, ?_⟩⟩
          · exact .inr ⟨by simp [addX], 3223, .inr rfl, by simp [upd, addX], by simp [upd, addX, codeC, List.take_of_length_le]⟩
          · exact .inr ⟨by simp [addX], by simp [upd, u1, addX], by simp [upd, u1, addX, useR]⟩
      · simp (config := { maxSteps := 1000000 }) only [go_sem,↓reduceIte,q0, q1, q2, q3, q9, q10, q11, q12, q13, hki, e4a, e6a, hg, h20, hg3, ho3, fC, codeC, List.length_map, c3, hli, hx, u3]
        refine draw_det Tt_ok mixed [3156, 3157, 20] [([0], [0, 1], [], false), ([0], [0], [], false), ([143], [0], [], false), ([144], [0], [], false), ([145], [0], [], false), ([12], [], [], false), ([3], [], [], false), ([0], [], [], false), ([149], [], [], false), ([150], [], [], false), ([151], [], [], false), ([152], [], [], false), ([153], [], [], false), ([147, 148, 154], [], [], false), ([155], [], [0], false), ([146, 156], [], [1], false), ([142], [], [], false), ([158], [], [], false), ([159, 157], [], [], true)] 3 (by decide +kernel) rfl (by decide) ?_
        simp (config := { maxSteps := 1000000 }) only [go_sem,↓reduceIte]
        iterate 13 (apply det_pure; · (intro fa ga oa K' hK; simp (config := { maxSteps := 1000000 }) only [go_sem,↓reduceIte,q0, q1, q2, q3, q9, q10, q11, q12, q13, hki, e4a, e6a, hg, h20, hg3, ho3, fC, codeC, List.length_map, c3, hli, hx, u3] at hK ⊢; exact hK))
        (apply det_pure; · (intro fa ga oa K' hK; simp (config := { maxSteps := 1000000 }) only [go_sem,↓reduceIte,buildA] at hK ⊢; exact hK))
        (apply det_new; · (intro fa ga oa K' hK; simp (config := { maxSteps := 1000000 }) only [go_sem,↓reduceIte,q0, q1, q2, q3, q9, q10, q11, q12, q13, hki, e4a, e6a, hg, h20, hg3, ho3, fC, codeC, List.length_map, c3, hli, hx, u3, elemTy] at hK ⊢; exact hK))
        (apply det_new; · (intro fa ga oa K' hK; simp (config := { maxSteps := 1000000 }) only [go_sem,↓reduceIte,q0, q1, q2, q3, q9, q10, q11, q12, q13, hki, e4a, e6a, hg, h20, hg3, ho3, fC, codeC, List.length_map, c3, hli, hx, u3, elemTy] at hK ⊢; first | exact ⟨⟨by decide, by decide⟩, hK⟩ | exact ⟨⟨by decide, by omega⟩, hK⟩ | exact ⟨Nat.le_of_eq (flatR_len _).symm, ⟨by decide, by omega⟩, hK⟩ | exact ⟨Nat.le_refl _, ⟨by decide, by omega⟩, hK⟩))
        iterate 2 (apply det_pure; · (intro fa ga oa K' hK; simp (config := { maxSteps := 1000000 }) only [go_sem,↓reduceIte,q0, q1, q2, q3, q9, q10, q11, q12, q13, hki, e4a, e6a, hg, h20, hg3, ho3, fC, codeC, List.length_map, c3, hli, hx, u3] at hK ⊢; exact hK))
        apply det_last
        intro K' hK'
        simp (config := { maxSteps := 1000000 }) only [go_sem,↓reduceIte,q0, q1, q2, q3, q9, q10, q11, q12, q13, hki, e4a, e6a, hg, h20, hg3, ho3, fC, codeC, List.length_map, c3, hli, hx, u3]
        refine hK' _ ?_
        clear hK' K'
        simp (config := { maxSteps := 1000000 }) only [go_sem,↓reduceIte,q0, q1, q2, q3, q9, q10, q11, q12, q13, hki, e4a, e6a, hg, h20, hg3, ho3, fC, codeC, List.length_map, c3, hli, hx, u3]
        refine hook_pure rfl (by simp (config := { maxSteps := 1000000 }) only [go_sem,↓reduceIte]; exact OpR_A op) (by simp (config := { maxSteps := 1000000 }) only [go_sem,↓reduceIte]; rfl) ?_
        rintro _ rfl
        rcases hsc with ⟨s1, s2, s3, hfx⟩ | ⟨s1, s2, s3, hfx⟩ | ⟨s1, s2, s3, hfx⟩ | ⟨s1, s2, s3, hfx⟩
        · rw [hfx]
          simp (config := { maxSteps := 1000000 }) only [go_sem,↓reduceIte,q0, q1, q2, q3, q9, q10, q11, q12, q13, hki, e4a, e6a, hg, h20, hg3, ho3, fC, codeC, List.length_map, c3, hli, hx, u3, s1, s2, s3, buildA]
          refine draw_det Tt_ok mixed [3017] [([10], [], [], false), ([191], [], [], false), ([10], [0], [], false), ([193], [0], [], false), ([17], [], [], false), ([195, 192], [], [0], false), ([17], [], [], false), ([196, 194], [], [], true)] 1 (by decide +kernel) rfl (by decide) ?_
          simp (config := { maxSteps := 1000000 }) only [go_sem,↓reduceIte]
          iterate 5 (apply det_pure; · (intro fa ga oa K' hK; simp (config := { maxSteps := 1000000 }) only [go_sem,↓reduceIte,q0, q1, q2, q3, q9, q10, q11, q12, q13, hki, e4a, e6a, hg, h20, hg3, ho3, fC, codeC, List.length_map, c3, hli, hx, u3, s1, s2, s3] at hK ⊢; exact hK))
          (apply det_store; (focus simp); (focus (intro fa ga oa K' hK; simp (config := { maxSteps := 1000000 }) only [go_sem,↓reduceIte,q0, q1, q2, q3, q9, q10, q11, q12, q13, hki, e4a, e6a, hg, h20, hg3, ho3, fC, codeC, List.length_map, c3, hli, hx, u3, s1, s2, s3] at hK ⊢; exact hK)))
          (apply det_pure; · (intro fa ga oa K' hK; simp (config := { maxSteps := 1000000 }) only [go_sem,↓reduceIte,q0, q1, q2, q3, q9, q10, q11, q12, q13, hki, e4a, e6a, hg, h20, hg3, ho3, fC, codeC, List.length_map, c3, hli, hx, u3, s1, s2, s3] at hK ⊢; exact hK))
          apply det_last
          intro K' hK'
          simp (config := { maxSteps := 1000000 }) only [go_sem,↓reduceIte,q0, q1, q2, q3, q9, q10, q11, q12, q13, hki, e4a, e6a, hg, h20, hg3, ho3, fC, codeC, List.length_map, c3, hli, hx, u3, s1, s2, s3]
          refine hK' _ ?_
          clear hK' K'
          simp (config := { maxSteps := 1000000 }) only [go_sem,↓reduceIte,q0, q1, q2, q3, q9, q10, q11, q12, q13, hki, e4a, e6a, hg, h20, hg3, ho3, fC, codeC, List.length_map, c3, hli, hx, u3, s1, s2, s3]
          refine hook_pure rfl (by simp (config := { maxSteps := 1000000 }) only [go_sem,↓reduceIte]; exact Enc_X _ _ _ _) (by simp (config := { maxSteps := 1000000 }) only [go_sem,↓reduceIte]; rfl) ?_
          rintro _ ⟨e, rfl⟩
          simp (config := { maxSteps := 1000000 }) only [go_sem,↓reduceIte,q0, q1, q2, q3, q9, q10, q11, q12, q13, hki, e4a, e6a, hg, h20, hg3, ho3, fC, codeC, List.length_map, c3, hli, hx, u3, s1, s2, s3, elemTy]
          refine ⟨Nat.le_refl _, ⟨by decide, by omega⟩, ?_⟩
          refine retF_at ⟨fun i hi => by (have := far hi; simp only [upd, this, if_false]; exact hgo i hi), fun i h5 hi => by (have := far hi; simp only [upd, this, h5, if_false]; exact hoo i h5 hi), rfl, ⟨by simp [upd, hg], _, lc, pc, _, rfl, ?_, hl, ?_⟩⟩
          · exact .inr ⟨by simp [addX], 3223, .inr rfl, by simp [upd, addX], by simp [upd, addX, codeC, List.take_of_length_le]⟩
          · exact .inr ⟨by simp [addX], by simp [upd, addX], by simp [upd, addX, flatR_take, useR]⟩
        · rw [hfx]
          simp (config := { maxSteps := 1000000 }) only [go_sem,↓reduceIte,q0, q1, q2, q3, q9, q10, q11, q12, q13, hki, e4a, e6a, hg, h20, hg3, ho3, fC, codeC, List.length_map, c3, hli, hx, u3, s1, s2, s3, buildA]
          refine draw_det Tt_ok mixed [3017] [([10], [], [], false), ([199], [], [], false), ([10], [0], [], false), ([201], [0], [], false), ([17], [], [], false), ([203, 200], [], [0], false), ([17], [], [], false), ([204, 202], [], [], true)] 1 (by decide +kernel) rfl (by decide) ?_
          simp (config := { maxSteps := 1000000 }) only [go_sem,↓reduceIte]
          iterate 5 (apply det_pure; · (intro fa ga oa K' hK; simp (config := { maxSteps := 1000000 }) only [go_sem,↓reduceIte,q0, q1, q2, q3, q9, q10, q11, q12, q13, hki, e4a, e6a, hg, h20, hg3, ho3, fC, codeC, List.length_map, c3, hli, hx, u3, s1, s2, s3] at hK ⊢; exact hK))
          (apply det_store; (focus simp); (focus (intro fa ga oa K' hK; simp (config := { maxSteps := 1000000 }) only [go_sem,↓reduceIte,q0, q1, q2, q3, q9, q10, q11, q12, q13, hki, e4a, e6a, hg, h20, hg3, ho3, fC, codeC, List.length_map, c3, hli, hx, u3, s1, s2, s3] at hK ⊢; exact hK)))
          (apply det_pure; · (intro fa ga oa K' hK; simp (config := { maxSteps := 1000000 }) only [go_sem,↓reduceIte,q0, q1, q2, q3, q9, q10, q11, q12, q13, hki, e4a, e6a, hg, h20, hg3, ho3, fC, codeC, List.length_map, c3, hli, hx, u3, s1, s2, s3] at hK ⊢; exact hK))
          apply det_last
          intro K' hK'
          simp (config := { maxSteps := 1000000 }) only [go_sem,↓reduceIte,q0, q1, q2, q3, q9, q10, q11, q12, q13, hki, e4a, e6a, hg, h20, hg3, ho3, fC, codeC, List.length_map, c3, hli, hx, u3, s1, s2, s3]
          refine hK' _ ?_
          clear hK' K'
          simp (config := { maxSteps := 1000000 }) only [go_sem,↓reduceIte,q0, q1, q2, q3, q9, q10, q11, q12, q13, hki, e4a, e6a, hg, h20, hg3, ho3, fC, codeC, List.length_map, c3, hli, hx, u3, s1, s2, s3]
          refine hook_pure rfl (by simp (config := { maxSteps := 1000000 }) only [go_sem,↓reduceIte]; exact Enc_X _ _ _ _) (by simp (config := { maxSteps := 1000000 }) only [go_sem,↓reduceIte]; rfl) ?_
          rintro _ ⟨e, rfl⟩
          simp (config := { maxSteps := 1000000 }) only [go_sem,↓reduceIte,q0, q1, q2, q3, q9, q10, q11, q12, q13, hki, e4a, e6a, hg, h20, hg3, ho3, fC, codeC, List.length_map, c3, hli, hx, u3, s1, s2, s3, elemTy]
          refine ⟨Nat.le_refl _, ⟨by decide, by omega⟩, ?_⟩
          refine retF_at ⟨fun i hi => by (have := far hi; simp only [upd, this, if_false]; exact hgo i hi), fun i h5 hi => by (have := far hi; simp only [upd, this, h5, if_false]; exact hoo i h5 hi), rfl, ⟨by simp [upd, hg], _, lc, pc, _, rfl, ?_, hl, ?_⟩⟩
          · exact .inr ⟨by simp [addX], 3223, .inr rfl, by simp [upd, addX], by simp [upd, addX, codeC, List.take_of_length_le]⟩
          · exact .inr ⟨by simp [addX], by simp [upd, addX], by simp [upd, addX, flatR_take, useR]⟩
        · rw [hfx]
          simp (config := { maxSteps := 1000000 }) only [go_sem,↓reduceIte,q0, q1, q2, q3, q9, q10, q11, q12, q13, hki, e4a, e6a, hg, h20, hg3, ho3, fC, codeC, List.length_map, c3, hli, hx, u3, s1, s2, s3, buildA]
          refine hook_pure rfl (by simp (config := { maxSteps := 1000000 }) only [go_sem,↓reduceIte]; exact Enc_X _ _ _ _) (by simp (config := { maxSteps := 1000000 }) only [go_sem,↓reduceIte]; rfl) ?_
          rintro _ ⟨e, rfl⟩
          simp (config := { maxSteps := 1000000 }) only [go_sem,↓reduceIte,q0, q1, q2, q3, q9, q10, q11, q12, q13, hki, e4a, e6a, hg, h20, hg3, ho3, fC, codeC, List.length_map, c3, hli, hx, u3, s1, s2, s3, elemTy]
          refine ⟨Nat.le_refl _, ⟨by decide, by omega⟩, ?_⟩
          refine retF_at ⟨fun i hi => by (have := far hi; simp only [upd, this, if_false]; exact hgo i hi), fun i h5 hi => by (have := far hi; simp only [upd, this, h5, if_false]; exact hoo i h5 hi), rfl, ⟨by simp [upd, hg], _, lc, pc, _, rfl, ?_, hl, ?_⟩⟩
          · exact .inr ⟨by simp [addX], 3223, .inr rfl, by simp [upd, addX], by simp [upd, addX, codeC, List.take_of_length_le]⟩
          · exact .inr ⟨by simp [addX], by simp [upd, addX], by simp [upd, addX, flatR_take, useR]⟩
        · rw [hfx]
          simp (config := { maxSteps := 1000000 }) only [go_sem,↓reduceIte,q0, q1, q2, q3, q9, q10, q11, q12, q13, hki, e4a, e6a, hg, h20, hg3, ho3, fC, codeC, List.length_map, c3, hli, hx, u3, s1, s2, s3, buildA]
          refine draw_det Tt_ok mixed [3017] [([10], [], [], false), ([180], [], [], false), ([10], [0], [], false), ([182], [0], [], false), ([10], [0], [], false), ([184], [0], [], false), ([17], [], [], false), ([186, 181], [], [0], false), ([17], [], [], false), ([187, 183], [], [0], false), ([17], [], [], false), ([188, 185], [], [], true)] 1 (by decide +kernel) rfl (by decide) ?_
          simp (config := { maxSteps := 1000000 }) only [go_sem,↓reduceIte]
          iterate 7 (apply det_pure; · (intro fa ga oa K' hK; simp (config := { maxSteps := 1000000 }) only [go_sem,↓reduceIte,q0, q1, q2, q3, q9, q10, q11, q12, q13, hki, e4a, e6a, hg, h20, hg3, ho3, fC, codeC, List.length_map, c3, hli, hx, u3, s1, s2, s3] at hK ⊢; exact hK))
          (apply det_store; (focus simp); (focus (intro fa ga oa K' hK; simp (config := { maxSteps := 1000000 }) only [go_sem,↓reduceIte,q0, q1, q2, q3, q9, q10, q11, q12, q13, hki, e4a, e6a, hg, h20, hg3, ho3, fC, codeC, List.length_map, c3, hli, hx, u3, s1, s2, s3] at hK ⊢; exact hK)))
          (apply det_pure; · (intro fa ga oa K' hK; simp (config := { maxSteps := 1000000 }) only [go_sem,↓reduceIte,q0, q1, q2, q3, q9, q10, q11, q12, q13, hki, e4a, e6a, hg, h20, hg3, ho3, fC, codeC, List.length_map, c3, hli, hx, u3, s1, s2, s3] at hK ⊢; exact hK))
          (apply det_store; (focus simp); (focus (intro fa ga oa K' hK; simp (config := { maxSteps := 1000000 }) only [go_sem,↓reduceIte,q0, q1, q2, q3, q9, q10, q11, q12, q13, hki, e4a, e6a, hg, h20, hg3, ho3, fC, codeC, List.length_map, c3, hli, hx, u3, s1, s2, s3] at hK ⊢; exact hK)))
          (apply det_pure; · (intro fa ga oa K' hK; simp (config := { maxSteps := 1000000 }) only [go_sem,↓reduceIte,q0, q1, q2, q3, q9, q10, q11, q12, q13, hki, e4a, e6a, hg, h20, hg3, ho3, fC, codeC, List.length_map, c3, hli, hx, u3, s1, s2, s3] at hK ⊢; exact hK))
          apply det_last
          intro K' hK'
          simp (config := { maxSteps := 1000000 }) only [go_sem,↓reduceIte,q0, q1, q2, q3, q9, q10, q11, q12, q13, hki, e4a, e6a, hg, h20, hg3, ho3, fC, codeC, List.length_map, c3, hli, hx, u3, s1, s2, s3]
          refine hK' _ ?_
          clear hK' K'
          simp (config := { maxSteps := 1000000 }) only [go_sem,↓reduceIte,q0, q1, q2, q3, q9, q10, q11, q12, q13, hki, e4a, e6a, hg, h20, hg3, ho3, fC, codeC, List.length_map, c3, hli, hx, u3, s1, s2, s3]
          refine hook_pure rfl (by simp (config := { maxSteps := 1000000 }) only [go_sem,↓reduceIte]; exact Enc_X _ _ _ _) (by simp (config := { maxSteps := 1000000 }) only [go_sem,↓reduceIte]; rfl) ?_
          rintro _ ⟨e, rfl⟩
          simp (config := { maxSteps := 1000000 }) only [go_sem,↓reduceIte,q0, q1, q2, q3, q9, q10, q11, q12, q13, hki, e4a, e6a, hg, h20, hg3, ho3, fC, codeC, List.length_map, c3, hli, hx, u3, s1, s2, s3, elemTy]
          refine ⟨Nat.le_refl _, ⟨by decide, by omega⟩, ?_⟩
          refine retF_at ⟨fun i hi => by (have := far hi; simp only [upd, this, if_false]; exact hgo i hi), fun i h5 hi => by (have := far hi; simp only [upd, this, h5, if_false]; exact hoo i h5 hi), rfl, ⟨by simp [upd, hg], _, lc, pc, _, rfl, ?_, hl, ?_⟩⟩
          · exact .inr ⟨by simp [addX], 3223, .inr rfl, by simp [upd, addX], by simp [upd, addX, codeC, List.take_of_length_le]⟩
          · exact .inr ⟨by simp [addX], by simp [upd, addX], by simp [upd, addX, flatR_take, useR]⟩
  · -- .word
    have hwa : IntKind.u32.wrap (a : Int) = (a : Int) := by rw [IntKind.wrap_u32]; omega
    rcases hc with ⟨c1, rfl⟩ | ⟨c1, ci, rfl | rfl, rfl, c3⟩
    · have hlen : ¬ st.code.length = 16384 := by rw [c1]; decide
      rw [endA_word e6 hlen] at hP
      subst hP
      by_cases hx : xl = []
      · rw [show useX st line xl = st from if_pos hx]
        subst hx
        simp (config := { maxSteps := 1000000 }) only [go_sem,↓reduceIte,q0, q1, q2, q3, q9, q10, q11, q12, q13, hki, e4a, e6a, hg, h20, hg3, ho3, fC, hwa, codeC, List.length_map]
        refine draw_det Tt_ok mixed [3171, 3172, 20] [([0], [0, 1], [], false), ([0], [0], [], false), ([163], [0], [], false), ([164], [0], [], false), ([165], [0], [], false), ([166], [0], [], false), ([10], [], [], false), ([168], [], [], false), ([169], [], [], false), ([170], [], [0], false), ([167, 171], [], [1], false), ([162], [], [], false), ([173], [], [], false), ([174], [], [], false), ([175, 172], [], [], true)] 3 (by decide +kernel) rfl (by decide) ?_
        simp (config := { maxSteps := 1000000 }) only [go_sem,↓reduceIte]
        iterate 9 (apply det_pure; · (intro fa ga oa K' hK; simp (config := { maxSteps := 1000000 }) only [go_sem,↓reduceIte,q0, q1, q2, q3, q9, q10, q11, q12, q13, hki, e4a, e6a, hg, h20, hg3, ho3, fC, hwa, codeC, List.length_map] at hK ⊢; exact hK))
        (apply det_new; · (intro fa ga oa K' hK; simp (config := { maxSteps := 1000000 }) only [go_sem,↓reduceIte,q0, q1, q2, q3, q9, q10, q11, q12, q13, hki, e4a, e6a, hg, h20, hg3, ho3, fC, hwa, codeC, List.length_map, elemTy] at hK ⊢; exact hK))
        (apply det_new; · (intro fa ga oa K' hK; simp (config := { maxSteps := 1000000 }) only [go_sem,↓reduceIte,q0, q1, q2, q3, q9, q10, q11, q12, q13, hki, e4a, e6a, hg, h20, hg3, ho3, fC, hwa, codeC, List.length_map, elemTy] at hK ⊢; first | exact ⟨⟨by decide, by decide⟩, hK⟩ | exact ⟨⟨by decide, by omega⟩, hK⟩ | exact ⟨Nat.le_of_eq (flatR_len _).symm, ⟨by decide, by omega⟩, hK⟩ | exact ⟨Nat.le_refl _, ⟨by decide, by omega⟩, hK⟩))
        iterate 3 (apply det_pure; · (intro fa ga oa K' hK; simp (config := { maxSteps := 1000000 }) only [go_sem,↓reduceIte,q0, q1, q2, q3, q9, q10, q11, q12, q13, hki, e4a, e6a, hg, h20, hg3, ho3, fC, hwa, codeC, List.length_map] at hK ⊢; exact hK))
        apply det_last
        intro K' hK'
        simp (config := { maxSteps := 1000000 }) only [go_sem,↓reduceIte,q0, q1, q2, q3, q9, q10, q11, q12, q13, hki, e4a, e6a, hg, h20, hg3, ho3, fC, hwa, codeC, List.length_map]
        refine hK' _ ?_
        clear hK' K'
        simp (config := { maxSteps := 1000000 }) only [go_sem,↓reduceIte,q0, q1, q2, q3, q9, q10, q11, q12, q13, hki, e4a, e6a, hg, h20, hg3, ho3, fC, hwa, codeC, List.length_map]
        refine retF_at ⟨fun i hi => by (have := far hi; simp only [upd, this, if_false]; exact hgo i hi), fun i h5 hi => by (have := far hi; simp only [upd, this, h5, if_false]; exact hoo i h5 hi), rfl, ⟨by simp [upd, hg], _, lc, pc, _, rfl, ?_, hl, ?_⟩⟩
        · exact .inr ⟨by simp [addX], 3172, .inl rfl, by simp [upd, c1, addX], by simp [upd, c1, addX, codeC]⟩
        · exact hu
      rw [show useX st line xl = { st with uses := st.uses ++ [(line, st.code.length, xl)] } from if_neg hx]
      rcases hu with ⟨u1, rfl⟩ | ⟨u1, rfl, u3⟩
      · simp (config := { maxSteps := 1000000 }) only [go_sem,↓reduceIte,q0, q1, q2, q3, q9, q10, q11, q12, q13, hki, e4a, e6a, hg, h20, hg3, ho3, fC, hwa, codeC, List.length_map, hx]
        refine draw_det Tt_ok mixed [3156, 3157, 20] [([0], [0, 1], [], false), ([0], [0], [], false), ([143], [0], [], false), ([144], [0], [], false), ([145], [0], [], false), ([12], [], [], false), ([3], [], [], false), ([0], [], [], false), ([149], [], [], false), ([150], [], [], false), ([151], [], [], false), ([152], [], [], false), ([153], [], [], false), ([147, 148, 154], [], [], false), ([155], [], [0], false), ([146, 156], [], [1], false), ([142], [], [], false), ([158], [], [], false), ([159, 157], [], [], true)] 3 (by decide +kernel) rfl (by decide) ?_
        simp (config := { maxSteps := 1000000 }) only [go_sem,↓reduceIte]
        iterate 13 (apply det_pure; · (intro fa ga oa K' hK; simp (config := { maxSteps := 1000000 }) only [go_sem,↓reduceIte,q0, q1, q2, q3, q9, q10, q11, q12, q13, hki, e4a, e6a, hg, h20, hg3, ho3, fC, hwa, codeC, List.length_map, hx] at hK ⊢; exact hK))
        (apply det_pure; · (intro fa ga oa K' hK; simp (config := { maxSteps := 1000000 }) only [go_sem,↓reduceIte,buildA] at hK ⊢; exact hK))
        (apply det_new; · (intro fa ga oa K' hK; simp (config := { maxSteps := 1000000 }) only [go_sem,↓reduceIte,q0, q1, q2, q3, q9, q10, q11, q12, q13, hki, e4a, e6a, hg, h20, hg3, ho3, fC, hwa, codeC, List.length_map, hx, elemTy] at hK ⊢; exact hK))
        (apply det_new; · (intro fa ga oa K' hK; simp (config := { maxSteps := 1000000 }) only [go_sem,↓reduceIte,q0, q1, q2, q3, q9, q10, q11, q12, q13, hki, e4a, e6a, hg, h20, hg3, ho3, fC, hwa, codeC, List.length_map, hx, elemTy] at hK ⊢; first | exact ⟨⟨by decide, by decide⟩, hK⟩ | exact ⟨⟨by decide, by omega⟩, hK⟩ | exact ⟨Nat.le_of_eq (flatR_len _).symm, ⟨by decide, by omega⟩, hK⟩ | exact ⟨Nat.le_refl _, ⟨by decide, by omega⟩, hK⟩))
        iterate 2 (apply det_pure; · (intro fa ga oa K' hK; simp (config := { maxSteps := 1000000 }) only [go_sem,↓reduceIte,q0, q1, q2, q3, q9, q10, q11, q12, q13, hki, e4a, e6a, hg, h20, hg3, ho3, fC, hwa, codeC, List.length_map, hx] at hK ⊢; exact hK))
        apply det_last
        intro K' hK'
        simp (config := { maxSteps := 1000000 }) only [go_sem,↓reduceIte,q0, q1, q2, q3, q9, q10, q11, q12, q13, hki, e4a, e6a, hg, h20, hg3, ho3, fC, hwa, codeC, List.length_map, hx]
        refine hK' _ ?_
        clear hK' K'
        simp (config := { maxSteps := 1000000 }) only [go_sem,↓reduceIte,q0, q1, q2, q3, q9, q10, q11, q12, q13, hki, e4a, e6a, hg, h20, hg3, ho3, fC, hwa, codeC, List.length_map, hx]
        refine draw_det Tt_ok mixed [3171, 3172, 20] [([0], [0, 1], [], false), ([0], [0], [], false), ([163], [0], [], false), ([164], [0], [], false), ([165], [0], [], false), ([166], [0], [], false), ([10], [], [], false), ([168], [], [], false), ([169], [], [], false), ([170], [], [0], false), ([167, 171], [], [1], false), ([162], [], [], false), ([173], [], [], false), ([174], [], [], false), ([175, 172], [], [], true)] 3 (by decide +kernel) rfl (by decide) ?_
        simp (config := { maxSteps := 1000000 }) only [go_sem,↓reduceIte]
        iterate 9 (apply det_pure; · (intro fa ga oa K' hK; simp (config := { maxSteps := 1000000 }) only [go_sem,↓reduceIte,q0, q1, q2, q3, q9, q10, q11, q12, q13, hki, e4a, e6a, hg, h20, hg3, ho3, fC, hwa, codeC, List.length_map, hx] at hK ⊢; exact hK))
        (apply det_new; · (intro fa ga oa K' hK; simp (config := { maxSteps := 1000000 }) only [go_sem,↓reduceIte,q0, q1, q2, q3, q9, q10, q11, q12, q13, hki, e4a, e6a, hg, h20, hg3, ho3, fC, hwa, codeC, List.length_map, hx, elemTy] at hK ⊢; exact hK))
        (apply det_new; · (intro fa ga oa K' hK; simp (config := { maxSteps := 1000000 }) only [go_sem,↓reduceIte,q0, q1, q2, q3, q9, q10, q11, q12, q13, hki, e4a, e6a, hg, h20, hg3, ho3, fC, hwa, codeC, List.length_map, hx, elemTy] at hK ⊢; first | exact ⟨⟨by decide, by decide⟩, hK⟩ | exact ⟨⟨by decide, by omega⟩, hK⟩ | exact ⟨Nat.le_of_eq (flatR_len _).symm, ⟨by decide, by omega⟩, hK⟩ | exact ⟨Nat.le_refl _, ⟨by decide, by omega⟩, hK⟩))
        iterate 3 (apply det_pure; · (intro fa ga oa K' hK; simp (config := { maxSteps := 1000000 }) only [go_sem,↓reduceIte,q0, q1, q2, q3, q9, q10, q11, q12, q13, hki, e4a, e6a, hg, h20, hg3, ho3, fC, hwa, codeC, List.length_map, hx] at hK ⊢; exact hK))
        apply det_last
        intro K' hK'
        simp (config := { maxSteps := 1000000 }) only [go_sem,↓reduceIte,q0, q1, q2, q3, q9, q10, q11, q12, q13, hki, e4a, e6a, hg, h20, hg3, ho3, fC, hwa, codeC, List.length_map, hx]
        refine hK' _ ?_
        clear hK' K'
        simp (config := { maxSteps := 1000000 }) only [go_sem,↓reduceIte,q0, q1, q2, q3, q9, q10, q11, q12, q13, hki, e4a, e6a, hg, h20, hg3, ho3, fC, hwa, codeC, List.length_map, hx]
        refine retF_at ⟨fun i hi => by (have := far hi; simp only [upd, this, if_false]; exact hgo i hi), fun i h5 hi => by (have := far hi; simp only [upd, this, h5, if_false]; exact hoo i h5 hi), rfl, ⟨by simp [upd, hg], _, lc, pc, _, rfl, ?_, hl, ?_⟩⟩
        · exact .inr ⟨by simp [addX], 3172, .inl rfl, by simp [upd, c1, addX], by simp [upd, c1, addX, codeC]⟩
        · exact .inr ⟨by simp [addX], by simp [upd, u1, addX], by simp [upd, u1, addX, useR, c1]⟩
      · simp (config := { maxSteps := 1000000 }) only [go_sem,↓reduceIte,q0, q1, q2, q3, q9, q10, q11, q12, q13, hki, e4a, e6a, hg, h20, hg3, ho3, fC, hwa, codeC, List.length_map, hx, u3]
        refine draw_det Tt_ok mixed [3156, 3157, 20] [([0], [0, 1], [], false), ([0], [0], [], false), ([143], [0], [], false), ([144], [0], [], false), ([145], [0], [], false), ([12], [], [], false), ([3], [], [], false), ([0], [], [], false), ([149], [], [], false), ([150], [], [], false), ([151], [], [], false), ([152], [], [], false), ([153], [], [], false), ([147, 148, 154], [], [], false), ([155], [], [0], false), ([146, 156], [], [1], false), ([142], [], [], false), ([158], [], [], false), ([159, 157], [], [], true)] 3 (by decide +kernel) rfl (by decide) ?_
        simp (config := { maxSteps := 1000000 }) only [go_sem,↓reduceIte]
        iterate 13 (apply det_pure; · (intro fa ga oa K' hK; simp (config := { maxSteps := 1000000 }) only [go_sem,↓reduceIte,q0, q1, q2, q3, q9, q10, q11, q12, q13, hki, e4a, e6a, hg, h20, hg3, ho3, fC, hwa, codeC, List.length_map, hx, u3] at hK ⊢; exact hK))
        (apply det_pure; · (intro fa ga oa K' hK; simp (config := { maxSteps := 1000000 }) only [go_sem,↓reduceIte,buildA] at hK ⊢; exact hK))
        (apply det_new; · (intro fa ga oa K' hK; simp (config := { maxSteps := 1000000 }) only [go_sem,↓reduceIte,q0, q1, q2, q3, q9, q10, q11, q12, q13, hki, e4a, e6a, hg, h20, hg3, ho3, fC, hwa, codeC, List.length_map, hx, u3, elemTy] at hK ⊢; exact hK))
        (apply det_new; · (intro fa ga oa K' hK; simp (config := { maxSteps := 1000000 }) only [go_sem,↓reduceIte,q0, q1, q2, q3, q9, q10, q11, q12, q13, hki, e4a, e6a, hg, h20, hg3, ho3, fC, hwa, codeC, List.length_map, hx, u3, elemTy] at hK ⊢; first | exact ⟨⟨by decide, by decide⟩, hK⟩ | exact ⟨⟨by decide, by omega⟩, hK⟩ | exact ⟨Nat.le_of_eq (flatR_len _).symm, ⟨by decide, by omega⟩, hK⟩ | exact ⟨Nat.le_refl _, ⟨by decide, by omega⟩, hK⟩))
        iterate 2 (apply det_pure; · (intro fa ga oa K' hK; simp (config := { maxSteps := 1000000 }) only [go_sem,↓reduceIte,q0, q1, q2, q3, q9, q10, q11, q12, q13, hki, e4a, e6a, hg, h20, hg3, ho3, fC, hwa, codeC, List.length_map, hx, u3] at hK ⊢; exact hK))
        apply det_last
        intro K' hK'
        simp (config := { maxSteps := 1000000 }) only [go_sem,↓reduceIte,q0, q1, q2, q3, q9, q10, q11, q12, q13, hki, e4a, e6a, hg, h20, hg3, ho3, fC, hwa, codeC, List.length_map, hx, u3]
        refine hK' _ ?_
        clear hK' K'
        simp (config := { maxSteps := 1000000 }) only [go_sem,↓reduceIte,q0, q1, q2, q3, q9, q10, q11, q12, q13, hki, e4a, e6a, hg, h20, hg3, ho3, fC, hwa, codeC, List.length_map, hx, u3]
        refine draw_det Tt_ok mixed [3171, 3172, 20] [([0], [0, 1], [], false), ([0], [0], [], false), ([163], [0], [], false), ([164], [0], [], false), ([165], [0], [], false), ([166], [0], [], false), ([10], [], [], false), ([168], [], [], false), ([169], [], [], false), ([170], [], [0], false), ([167, 171], [], [1], false), ([162], [], [], false), ([173], [], [], false), ([174], [], [], false), ([175, 172], [], [], true)] 3 (by decide +kernel) rfl (by decide) ?_
        simp (config := { maxSteps := 1000000 }) only [go_sem,↓reduceIte]
        iterate 9 (apply det_pure; · (intro fa ga oa K' hK; simp (config := { maxSteps := 1000000 }) only [go_sem,↓reduceIte,q0, q1, q2, q3, q9, q10, q11, q12, q13, hki, e4a, e6a, hg, h20, hg3, ho3, fC, hwa, codeC, List.length_map, hx, u3] at hK ⊢; exact hK))
        (apply det_new; · (intro fa ga oa K' hK; simp (config := { maxSteps := 1000000 }) only [go_sem,↓reduceIte,q0, q1, q2, q3, q9, q10, q11, q12, q13, hki, e4a, e6a, hg, h20, hg3, ho3, fC, hwa, codeC, List.length_map, hx, u3, elemTy] at hK ⊢; exact hK))
        (apply det_new; · (intro fa ga oa K' hK; simp (config := { maxSteps := 1000000 }) only [go_sem,↓reduceIte,q0, q1, q2, q3, q9, q10, q11, q12, q13, hki, e4a, e6a, hg, h20, hg3, ho3, fC, hwa, codeC, List.length_map, hx, u3, elemTy] at hK ⊢; first | exact ⟨⟨by decide, by decide⟩, hK⟩ | exact ⟨⟨by decide, by omega⟩, hK⟩ | exact ⟨Nat.le_of_eq (flatR_len _).symm, ⟨by decide, by omega⟩, hK⟩ | exact ⟨Nat.le_refl _, ⟨by decide, by omega⟩, hK⟩))
        iterate 3 (apply det_pure; · (intro fa ga oa K' hK; simp (config := { maxSteps := 1000000 }) only [go_sem,↓reduceIte,q0, q1, q2, q3, q9, q10, q11, q12, q13, hki, e4a, e6a, hg, h20, hg3, ho3, fC, hwa, codeC, List.length_map, hx, u3] at hK ⊢; exact hK))
        apply det_last
        intro K' hK'
        simp (config := { maxSteps := 1000000 }) only [go_sem,↓reduceIte,q0, q1, q2, q3, q9, q10, q11, q12, q13, hki, e4a, e6a, hg, h20, hg3, ho3, fC, hwa, codeC, List.length_map, hx, u3]
        refine hK' _ ?_
        clear hK' K'
        simp (config := { maxSteps := 1000000 }) only [go_sem,↓reduceIte,q0, q1, q2, q3, q9, q10, q11, q12, q13, hki, e4a, e6a, hg, h20, hg3, ho3, fC, hwa, codeC, List.length_map, hx, u3]
        refine retF_at ⟨fun i hi => by (have := far hi; simp only [upd, this, if_false]; exact hgo i hi), fun i h5 hi => by (have := far hi; simp only [upd, this, h5, if_false]; exact hoo i h5 hi), rfl, ⟨by simp [upd, hg], _, lc, pc, _, rfl, ?_, hl, ?_⟩⟩
        · exact .inr ⟨by simp [addX], 3172, .inl rfl, by simp [upd, c1, addX], by simp [upd, c1, addX, codeC]⟩
        · exact .inr ⟨by simp [addX], by simp [upd, addX], by simp [upd, addX, flatR_take, useR, c1]⟩
    · by_cases hlen : st.code.length = 16384
      · rw [endA_full e4 hlen] at hP
        subst hP
        have hli : ((st.code.length : Nat) : Int) = 16384 := by omega
        simp (config := { maxSteps := 1000000 }) only [go_sem,↓reduceIte,q0, q1, q2, q3, q9, q10, q11, q12, q13, hki, e4a, e6a, hg, h20, hg3, ho3, fC, hwa, codeC, List.length_map, c3, hli]
        exact retF_at ⟨hgo, hoo, rfl⟩
      have hli : ¬ ((st.code.length : Nat) : Int) = 16384 := by omega
      rw [endA_word e6 hlen] at hP
      subst hP
      by_cases hx : xl = []
      · rw [show useX st line xl = st from if_pos hx]
        subst hx
        simp (config := { maxSteps := 1000000 }) only [go_sem,↓reduceIte,q0, q1, q2, q3, q9, q10, q11, q12, q13, hki, e4a, e6a, hg, h20, hg3, ho3, fC, hwa, codeC, List.length_map, c3, hli]
        refine draw_det Tt_ok mixed [3171, 3172, 20] [([0], [0, 1], [], false), ([0], [0], [], false), ([163], [0], [], false), ([164], [0], [], false), ([165], [0], [], false), ([166], [0], [], false), ([10], [], [], false), ([168], [], [], false), ([169], [], [], false), ([170], [], [0], false), ([167, 171], [], [1], false), ([162], [], [], false), ([173], [], [], false), ([174], [], [], false), ([175, 172], [], [], true)] 3 (by decide +kernel) rfl (by decide) ?_
        simp (config := { maxSteps := 1000000 }) only [go_sem,↓reduceIte]
        iterate 9 (apply det_pure; · (intro fa ga oa K' hK; simp (config := { maxSteps := 1000000 }) only [go_sem,↓reduceIte,q0, q1, q2, q3, q9, q10, q11, q12, q13, hki, e4a, e6a, hg, h20, hg3, ho3, fC, hwa, codeC, List.length_map, c3, hli] at hK ⊢; exact hK))
        (apply det_new; · (intro fa ga oa K' hK; simp (config := { maxSteps := 1000000 }) only [go_sem,↓reduceIte,q0, q1, q2, q3, q9, q10, q11, q12, q13, hki, e4a, e6a, hg, h20, hg3, ho3, fC, hwa, codeC, List.length_map, c3, hli, elemTy] at hK ⊢; exact hK))
        (apply det_new; · (intro fa ga oa K' hK; simp (config := { maxSteps := 1000000 }) only [go_sem,↓reduceIte,q0, q1, q2, q3, q9, q10, q11, q12, q13, hki, e4a, e6a, hg, h20, hg3, ho3, fC, hwa, codeC, List.length_map, c3, hli, elemTy] at hK ⊢; first | exact ⟨⟨by decide, by decide⟩, hK⟩ | exact ⟨⟨by decide, by omega⟩, hK⟩ | exact ⟨Nat.le_of_eq (flatR_len _).symm, ⟨by decide, by omega⟩, hK⟩ | exact ⟨Nat.le_refl _, ⟨by decide, by omega⟩, hK⟩))
        iterate 3 (apply det_pure; · (intro fa ga oa K' hK; simp (config := { maxSteps := 1000000 }) only [go_sem,↓reduceIte,q0, q1, q2, q3, q9, q10, q11, q12, q13, hki, e4a, e6a, hg, h20, hg3, ho3, fC, hwa, codeC, List.length_map, c3, hli] at hK ⊢; exact hK))
        apply det_last
        intro K' hK'
        simp (config := { maxSteps := 1000000 }) only [go_sem,↓reduceIte,q0, q1, q2, q3, q9, q10, q11, q12, q13, hki, e4a, e6a, hg, h20, hg3, ho3, fC, hwa, codeC, List.length_map, c3, hli]
        refine hK' _ ?_
        clear hK' K'
        simp (config := { maxSteps := 1000000 }) only [go_sem,↓reduceIte,q0, q1, q2, q3, q9, q10, q11, q12, q13, hki, e4a, e6a, hg, h20, hg3, ho3, fC, hwa, codeC, List.length_map, c3, hli]
        refine retF_at ⟨fun i hi => by (have := far hi; simp only [upd, this, if_false]; exact hgo i hi), fun i h5 hi => by (have := far hi; simp only [upd, this, h5, if_false]; exact hoo i h5 hi), rfl, ⟨by simp [upd, hg], _, lc, pc, _, rfl, ?_, hl, ?_⟩⟩
        · exact .inr ⟨by simp [addX], 3172, .inl rfl, by simp [upd, addX], by simp [upd, addX, codeC, List.take_of_length_le]⟩
        · exact hu
      rw [show useX st line xl = { st with uses := st.uses ++ [(line, st.code.length, xl)] } from if_neg hx]
      rcases hu with ⟨u1, rfl⟩ | ⟨u1, rfl, u3⟩
      · simp (config := { maxSteps := 1000000 }) only [go_sem,↓reduceIte,q0, q1, q2, q3, q9, q10, q11, q12, q13, hki, e4a, e6a, hg, h20, hg3, ho3, fC, hwa, codeC, List.length_map, c3, hli, hx]
        refine draw_det Tt_ok mixed [3156, 3157, 20] [([0], [0, 1], [], false), ([0], [0], [], false), ([143], [0], [], false), ([144], [0], [], false), ([145], [0], [], false), ([12], [], [], false), ([3], [], [], false), ([0], [], [], false), ([149], [], [], false), ([150], [], [], false), ([151], [], [], false), ([152], [], [], false), ([153], [], [], false), ([147, 148, 154], [], [], false), ([155], [], [0], false), ([146, 156], [], [1], false), ([142], [], [], false), ([158], [], [], false), ([159, 157], [], [], true)] 3 (by decide +kernel) rfl (by decide) ?_
        simp (config := { maxSteps := 1000000 }) only [go_sem,↓reduceIte]
        iterate 13 (apply det_pure; · (intro fa ga oa K' hK; simp (config := { maxSteps := 1000000 }) only [go_sem,↓reduceIte,q0, q1, q2, q3, q9, q10, q11, q12, q13, hki, e4a, e6a, hg, h20, hg3, ho3, fC, hwa, codeC, List.length_map, c3, hli, hx] at hK ⊢; exact hK))
        (apply det_pure; · (intro fa ga oa K' hK; simp (config := { maxSteps := 1000000 }) only [go_sem,↓reduceIte,buildA] at hK ⊢; exact hK))
        (apply det_new; · (intro fa ga oa K' hK; simp (config := { maxSteps := 1000000 }) only [go_sem,↓reduceIte,q0, q1, q2, q3, q9, q10, q11, q12, q13, hki, e4a, e6a, hg, h20, hg3, ho3, fC, hwa, codeC, List.length_map, c3, hli, hx, elemTy] at hK ⊢; exact hK))
        (apply det_new; · (intro fa ga oa K' hK; simp (config := { maxSteps := 1000000 }) only [go_sem,↓reduceIte,q0, q1, q2, q3, q9, q10, q11, q12, q13, hki, e4a, e6a, hg, h20, hg3, ho3, fC, hwa, codeC, List.length_map, c3, hli, hx, elemTy] at hK ⊢; first | exact ⟨⟨by decide, by decide⟩, hK⟩ | exact ⟨⟨by decide, by omega⟩, hK⟩ | exact ⟨Nat.le_of_eq (flatR_len _).symm, ⟨by decide, by omega⟩, hK⟩ | exact ⟨Nat.le_refl _, ⟨by decide, by omega⟩, hK⟩))
        iterate 2 (apply det_pure; · (intro fa ga oa K' hK; simp (config := { maxSteps := 1000000 }) only [go_sem,↓reduceIte,q0, q1, q2, q3, q9, q10, q11, q12, q13, hki, e4a, e6a, hg, h20, hg3, ho3, fC, hwa, codeC, List.length_map, c3, hli, hx] at hK ⊢; exact hK))
        apply det_last
        intro K' hK'
        simp (config := { maxSteps := 1000000 }) only [go_sem,↓reduceIte,q0, q1, q2, q3, q9, q10, q11, q12, q13, hki, e4a, e6a, hg, h20, hg3, ho3, fC, hwa, codeC, List.length_map, c3, hli, hx]
        refine hK' _ ?_
        clear hK' K'
        simp (config := { maxSteps := 1000000 }) only [go_sem,↓reduceIte,q0, q1, q2, q3, q9, q10, q11, q12, q13, hki, e4a, e6a, hg, h20, hg3, ho3, fC, hwa, codeC, List.length_map, c3, hli, hx]
        refine draw_det Tt_ok mixed [3171, 3172, 20] [([0], [0, 1], [], false), ([0], [0], [], false), ([163], [0], [], false), ([164], [0], [], false), ([165], [0], [], false), ([166], [0], [], false), ([10], [], [], false), ([168], [], [], false), ([169], [], [], false), ([170], [], [0], false), ([167, 171], [], [1], false), ([162], [], [], false), ([173], [], [], false), ([174], [], [], false), ([175, 172], [], [], true)] 3 (by decide +kernel) rfl (by decide) ?_
        simp (config := { maxSteps := 1000000 }) only [go_sem,↓reduceIte]
        iterate 9 (apply det_pure; · (intro fa ga oa K' hK; simp (config := { maxSteps := 1000000 }) only [go_sem,↓reduceIte,q0, q1, q2, q3, q9, q10, q11, q12, q13, hki, e4a, e6a, hg, h20, hg3, ho3, fC, hwa, codeC, List.length_map, c3, hli, hx] at hK ⊢; exact hK))
        (apply det_new; · (intro fa ga oa K' hK; simp (config := { maxSteps := 1000000 }) only [go_sem,↓reduceIte,q0, q1, q2, q3, q9, q10, q11, q12, q13, hki, e4a, e6a, hg, h20, hg3, ho3, fC, hwa, codeC, List.length_map, c3, hli, hx, elemTy] at hK ⊢; exact hK))
        (apply det_new; · (intro fa ga oa K' hK; simp (config := { maxSteps := 1000000 }) only [go_sem,↓reduceIte,q0, q1, q2, q3, q9, q10, q11, q12, q13, hki, e4a, e6a, hg, h20, hg3, ho3, fC, hwa, codeC, List.length_map, c3, hli, hx, elemTy] at hK ⊢; first | exact ⟨⟨by decide, by decide⟩, hK⟩ | exact ⟨⟨by decide, by omega⟩, hK⟩ | exact ⟨Nat.le_of_eq (flatR_len _).symm, ⟨by decide, by omega⟩, hK⟩ | exact ⟨Nat.le_refl _, ⟨by decide, by omega⟩, hK⟩))
        iterate 3 (apply det_pure; · (intro fa ga oa K' hK; simp (config := { maxSteps := 1000000 }) only [go_sem,↓reduceIte,q0, q1, q2, q3, q9, q10, q11, q12, q13, hki, e4a, e6a, hg, h20, hg3, ho3, fC, hwa, codeC, List.length_map, c3, hli, hx] at hK ⊢; exact hK))
        apply det_last
        intro K' hK'
        simp (config := { maxSteps := 1000000 }) only [go_sem,↓reduceIte,q0, q1, q2, q3, q9, q10, q11, q12, q13, hki, e4a, e6a, hg, h20, hg3, ho3, fC, hwa, codeC, List.length_map, c3, hli, hx]
        refine hK' _ ?_
        clear hK' K'
        simp (config := { maxSteps := 1000000 }) only [go_sem,↓reduceIte,q0, q1, q2, q3, q9, q10, q11, q12, q13, hki, e4a, e6a, hg, h20, hg3, ho3, fC, hwa, codeC, List.length_map, c3, hli, hx]
        refine retF_at ⟨fun i hi => by (have := far hi; simp only [upd, this, if_false]; exact hgo i hi), fun i h5 hi => by (have := far hi; simp only [upd, this, h5, if_false]; exact hoo i h5 hi), rfl, ⟨by simp [upd, hg], _, lc, pc, _, rfl, ?_, hl, ?_⟩⟩
        · exact .inr ⟨by simp [addX], 3172, .inl rfl, by simp [upd, addX], by simp [upd, addX, codeC, List.take_of_length_le]⟩
        · exact .inr ⟨by simp [addX], by simp [upd, u1, addX], by simp [upd, u1, addX, useR]⟩
      · simp (config := { maxSteps := 1000000 }) only [go_sem,↓reduceIte,q0, q1, q2, q3, q9, q10, q11, q12, q13, hki, e4a, e6a, hg, h20, hg3, ho3, fC, hwa, codeC, List.length_map, c3, hli, hx, u3]
        refine draw_det Tt_ok mixed [3156, 3157, 20] [([0], [0, 1], [], false), ([0], [0], [], false), ([143], [0], [], false), ([144], [0], [], false), ([145], [0], [], false), ([12], [], [], false), ([3], [], [], false), ([0], [], [], false), ([149], [], [], false), ([150], [], [], false), ([151], [], [], false), ([152], [], [], false), ([153], [], [], false), ([147, 148, 154], [], [], false), ([155], [], [0], false), ([146, 156], [], [1], false), ([142], [], [], false), ([158], [], [], false), ([159, 157], [], [], true)] 3 (by decide +kernel) rfl (by decide) ?_
        simp (config := { maxSteps := 1000000 }) only [go_sem,↓reduceIte]
        iterate 13 (apply det_pure; · (intro fa ga oa K' hK; simp (config := { maxSteps := 1000000 }) only [go_sem,↓reduceIte,q0, q1, q2, q3, q9, q10, q11, q12, q13, hki, e4a, e6a, hg, h20, hg3, ho3, fC, hwa, codeC, List.length_map, c3, hli, hx, u3] at hK ⊢; exact hK))
        (apply det_pure; · (intro fa ga oa K' hK; simp (config := { maxSteps := 1000000 }) only [go_sem,↓reduceIte,buildA] at hK ⊢; exact hK))
        (apply det_new; · (intro fa ga oa K' hK; simp (config := { maxSteps := 1000000 }) only [go_sem,↓reduceIte,q0, q1, q2, q3, q9, q10, q11, q12, q13, hki, e4a, e6a, hg, h20, hg3, ho3, fC, hwa, codeC, List.length_map, c3, hli, hx, u3, elemTy] at hK ⊢; exact hK))
        (apply det_new; · (intro fa ga oa K' hK; simp (config := { maxSteps := 1000000 }) only [go_sem,↓reduceIte,q0, q1, q2, q3, q9, q10, q11, q12, q13, hki, e4a, e6a, hg, h20, hg3, ho3, fC, hwa, codeC, List.length_map, c3, hli, hx, u3, elemTy] at hK ⊢; first | exact ⟨⟨by decide, by decide⟩, hK⟩ | exact ⟨⟨by decide, by omega⟩, hK⟩ | exact ⟨Nat.le_of_eq (flatR_len _).symm, ⟨by decide, by omega⟩, hK⟩ | exact ⟨Nat.le_refl _, ⟨by decide, by omega⟩, hK⟩))
        iterate 2 (apply det_pure; · (intro fa ga oa K' hK; simp (config := { maxSteps := 1000000 }) only [go_sem,↓reduceIte,q0, q1, q2, q3, q9, q10, q11, q12, q13, hki, e4a, e6a, hg, h20, hg3, ho3, fC, hwa, codeC, List.length_map, c3, hli, hx, u3] at hK ⊢; exact hK))
        apply det_last
        intro K' hK'
        simp (config := { maxSteps := 1000000 }) only [go_sem,↓reduceIte,q0, q1, q2, q3, q9, q10, q11, q12, q13, hki, e4a, e6a, hg, h20, hg3, ho3, fC, hwa, codeC, List.length_map, c3, hli, hx, u3]
        refine hK' _ ?_
        clear hK' K'
        simp (config := { maxSteps := 1000000 }) only [go_sem,↓reduceIte,q0, q1, q2, q3, q9, q10, q11, q12, q13, hki, e4a, e6a, hg, h20, hg3, ho3, fC, hwa, codeC, List.length_map, c3, hli, hx, u3]
        refine draw_det Tt_ok mixed [3171, 3172, 20] [([0], [0, 1], [], false), ([0], [0], [], false), ([163], [0], [], false), ([164], [0], [], false), ([165], [0], [], false), ([166], [0], [], false), ([10], [], [], false), ([168], [], [], false), ([169], [], [], false), ([170], [], [0], false), ([167, 171], [], [1], false), ([162], [], [], false), ([173], [], [], false), ([174], [], [], false), ([175, 172], [], [], true)] 3 (by decide +kernel) rfl (by decide) ?_
        simp (config := { maxSteps := 1000000 }) only [go_sem,↓reduceIte]
        iterate 9 (apply det_pure; · (intro fa ga oa K' hK; simp (config := { maxSteps := 1000000 }) only [go_sem,↓reduceIte,q0, q1, q2, q3, q9, q10, q11, q12, q13, hki, e4a, e6a, hg, h20, hg3, ho3, fC, hwa, codeC, List.length_map, c3, hli, hx, u3] at hK ⊢; exact hK))
        (apply det_new; · (intro fa ga oa K' hK; simp (config := { maxSteps := 1000000 }) only [go_sem,↓reduceIte,q0, q1, q2, q3, q9, q10, q11, q12, q13, hki, e4a, e6a, hg, h20, hg3, ho3, fC, hwa, codeC, List.length_map, c3, hli, hx, u3, elemTy] at hK ⊢; exact hK))
        (apply det_new; · (intro fa ga oa K' hK; simp (config := { maxSteps := 1000000 }) only [go_sem,↓reduceIte,q0, q1, q2, q3, q9, q10, q11, q12, q13, hki, e4a, e6a, hg, h20, hg3, ho3, fC, hwa, codeC, List.length_map, c3, hli, hx, u3, elemTy] at hK ⊢; first | exact ⟨⟨by decide, by decide⟩, hK⟩ | exact ⟨⟨by decide, by omega⟩, hK⟩ | exact ⟨Nat.le_of_eq (flatR_len _).symm, ⟨by decide, by omega⟩, hK⟩ | exact ⟨Nat.le_refl _, ⟨by decide, by omega⟩, hK⟩))
        iterate 3 (apply det_pure; · (intro fa ga oa K' hK; simp (config := { maxSteps := 1000000 }) only [go_sem,↓reduceIte,q0, q1, q2, q3, q9, q10, q11, q12, q13, hki, e4a, e6a, hg, h20, hg3, ho3, fC, hwa, codeC, List.length_map, c3, hli, hx, u3] at hK ⊢; exact hK))
        apply det_last
        intro K' hK'
        simp (config := { maxSteps := 1000000 }) only [go_sem,↓reduceIte,q0, q1, q2, q3, q9, q10, q11, q12, q13, hki, e4a, e6a, hg, h20, hg3, ho3, fC, hwa, codeC, List.length_map, c3, hli, hx, u3]
        refine hK' _ ?_
        clear hK' K'
        simp (config := { maxSteps := 1000000 }) only [go_sem,↓reduceIte,q0, q1, q2, q3, q9, q10, q11, q12, q13, hki, e4a, e6a, hg, h20, hg3, ho3, fC, hwa, codeC, List.length_map, c3, hli, hx, u3]
        refine retF_at ⟨fun i hi => by (have := far hi; simp only [upd, this, if_false]; exact hgo i hi), fun i h5 hi => by (have := far hi; simp only [upd, this, h5, if_false]; exact hoo i h5 hi), rfl, ⟨by simp [upd, hg], _, lc, pc, _, rfl, ?_, hl, ?_⟩⟩
        · exact .inr ⟨by simp [addX], 3172, .inl rfl, by simp [upd, addX], by simp [upd, addX, codeC, List.take_of_length_le]⟩
        · exact .inr ⟨by simp [addX], by simp [upd, addX], by simp [upd, addX, flatR_take, useR]⟩
    · by_cases hlen : st.code.length = 16384
      · rw [endA_full e4 hlen] at hP
        subst hP
        have hli : ((st.code.length : Nat) : Int) = 16384 := by omega
        simp (config := { maxSteps := 1000000 }) only [go_sem,↓reduceIte,q0, q1, q2, q3, q9, q10, q11, q12, q13, hki, e4a, e6a, hg, h20, hg3, ho3, fC, hwa, codeC, List.length_map, c3, hli]
        exact retF_at ⟨hgo, hoo, rfl⟩
      have hli : ¬ ((st.code.length : Nat) : Int) = 16384 := by omega
      rw [endA_word e6 hlen] at hP
      subst hP
      by_cases hx : xl = []
      · rw [show useX st line xl = st from if_pos hx]
        subst hx
        simp (config := { maxSteps := 1000000 }) only [go_sem,↓reduceIte,q0, q1, q2, q3, q9, q10, q11, q12, q13, hki, e4a, e6a, hg, h20, hg3, ho3, fC, hwa, codeC, List.length_map, c3, hli]
        refine draw_det Tt_ok mixed [3171, 3223, 20] [([0], [0, 1], [], false), ([0], [0], [], false), ([163], [0], [], false), ([164], [0], [], false), ([165], [0], [], false), ([166], [0], [], false), ([10], [], [], false), ([168], [], [], false), ([169], [], [], false), ([170], [], [0], false), ([167, 171], [], [1], false), ([162], [], [], false), ([173], [], [], false), ([174], [], [], false), ([175, 172], [], [], true)] 3 (by decide +kernel) rfl (by decide) ?_
        simp (config := { maxSteps := 1000000 }) only [go_sem,↓reduceIte]
        iterate 9 (apply det_pure; · (intro fa ga oa K' hK; simp (config := { maxSteps := 1000000 }) only [go_sem,↓reduceIte,q0, q1, q2, q3, q9, q10, q11, q12, q13, hki, e4a, e6a, hg, h20, hg3, ho3, fC, hwa, codeC, List.length_map, c3, hli] at hK ⊢; exact hK))
        (apply det_new; · (intro fa ga oa K' hK; simp (config := { maxSteps := 1000000 }) only [go_sem,↓reduceIte,q0, q1, q2, q3, q9, q10, q11, q12, q13, hki, e4a, e6a, hg, h20, hg3, ho3, fC, hwa, codeC, List.length_map, c3, hli, elemTy] at hK ⊢; exact hK))
        (apply det_new; · (intro fa ga oa K' hK; simp (config := { maxSteps := 1000000 }) only [go_sem,↓reduceIte,q0, q1, q2, q3, q9, q10, q11, q12, q13, hki, e4a, e6a, hg, h20, hg3, ho3, fC, hwa, codeC, List.length_map, c3, hli, elemTy] at hK ⊢; first | exact ⟨⟨by decide, by decide⟩, hK⟩ | exact ⟨⟨by decide, by omega⟩, hK⟩ | exact ⟨Nat.le_of_eq (flatR_len _).symm, ⟨by decide, by omega⟩, hK⟩ | exact ⟨Nat.le_refl _, ⟨by decide, by omega⟩, hK⟩))
        iterate 3 (apply det_pure; · (intro fa ga oa K' hK; simp (config := { maxSteps := 1000000 }) only [go_sem,↓reduceIte,q0, q1, q2, q3, q9, q10, q11, q12, q13, hki, e4a, e6a, hg, h20, hg3, ho3, fC, hwa, codeC, List.length_map, c3, hli] at hK ⊢; exact hK))
        apply det_last
        intro K' hK'
        simp (config := { maxSteps := 1000000 }) only [go_sem,↓reduceIte,q0, q1, q2, q3, q9, q10, q11, q12, q13, hki, e4a, e6a, hg, h20, hg3, ho3, fC, hwa, codeC, List.length_map, c3, hli]
        refine hK' _ ?_
        clear hK' K'
        simp (config := { maxSteps := 1000000 }) only [go_sem,↓reduceIte,q0, q1, q2, q3, q9, q10, q11, q12, q13, hki, e4a, e6a, hg, h20, hg3, ho3, fC, hwa, codeC, List.length_map, c3, hli]
        refine retF_at ⟨fun i hi => by (have := far hi; simp only [upd, this, if_false]; exact hgo i hi), fun i h5 hi => by (have := far hi; simp only [upd, this, h5, if_false]; exact hoo i h5 hi), rfl, ⟨by simp [upd, hg], _, lc, pc, _, rfl, ?_, hl, ?_⟩⟩
        · exact .inr ⟨by simp [addX], 3223, .inr rfl, by simp [upd, addX], by simp [upd, addX, codeC, List.take_of_length_le]⟩
        · exact hu
      rw [show useX st line xl = { st with uses := st.uses ++ [(line, st.code.length, xl)] } from if_neg hx]
      rcases hu with ⟨u1, rfl⟩ | ⟨u1, rfl, u3⟩
      · simp (config := { maxSteps := 1000000 }) only [go_sem,↓reduceIte,q0, q1, q2, q3, q9, q10, q11, q12, q13, hki, e4a, e6a, hg, h20, hg3, ho3, fC, hwa, codeC, List.length_map, c3, hli, hx]
        refine draw_det Tt_ok mixed [3156, 3157, 20] [([0], [0, 1], [], false), ([0], [0], [], false), ([143], [0], [], false), ([144], [0], [], false), ([145], [0], [], false), ([12], [], [], false), ([3], [], [], false), ([0], [], [], false), ([149], [], [], false), ([150], [], [], false), ([151], [], [], false), ([152], [], [], false), ([153], [], [], false), ([147, 148, 154], [], [], false), ([155], [], [0], false), ([146, 156], [], [1], false), ([142], [], [], false), ([158], [], [], false), ([159, 157], [], [], true)] 3 (by decide +kernel) rfl (by decide) ?_
        simp (config := { maxSteps := 1000000 }) only [go_sem,↓reduceIte]
        iterate 13 (apply det_pure; · (intro fa ga oa K' hK; simp (config := { maxSteps := 1000000 }) only [go_sem,↓reduceIte,q0, q1, q2, q3, q9, q10, q11, q12, q13, hki, e4a, e6a, hg, h20, hg3, ho3, fC, hwa, codeC, List.length_map, c3, hli, hx] at hK ⊢; exact hK))
        (apply det_pure; · (intro fa ga oa K' hK; simp (config := { maxSteps := 1000000 }) only [go_sem,↓reduceIte,buildA] at hK ⊢; exact hK))
        (apply det_new; · (intro fa ga oa K' hK; simp (config := { maxSteps := 1000000 }) only [go_sem,↓reduceIte,q0, q1, q2, q3, q9, q10, q11, q12, q13, hki, e4a, e6a, hg, h20, hg3, ho3, fC, hwa, codeC, List.length_map, c3, hli, hx, elemTy] at hK ⊢; exact hK))
        (apply det_new; · (intro fa ga oa K' hK; simp (config := { maxSteps := 1000000 }) only [go_sem,↓reduceIte,q0, q1, q2, q3, q9, q10, q11, q12, q13, hki, e4a, e6a, hg, h20, hg3, ho3, fC, hwa, codeC, List.length_map, c3, hli, hx, elemTy] at hK ⊢; first | exact ⟨⟨by decide, by decide⟩, hK⟩ | exact ⟨⟨by decide, by omega⟩, hK⟩ | exact ⟨Nat.le_of_eq (flatR_len _).symm, ⟨by decide, by omega⟩, hK⟩ | exact ⟨Nat.le_refl _, ⟨by decide, by omega⟩, hK⟩))
        iterate 2 (apply det_pure; · (intro fa ga oa K' hK; simp (config := { maxSteps := 1000000 }) only [go_sem,↓reduceIte,q0, q1, q2, q3, q9, q10, q11, q12, q13, hki, e4a, e6a, hg, h20, hg3, ho3, fC, hwa, codeC, List.length_map, c3, hli, hx] at hK ⊢; exact hK))
        apply det_last
        intro K' hK'
        simp (config := { maxSteps := 1000000 }) only [go_sem,↓reduceIte,q0, q1, q2, q3, q9, q10, q11, q12, q13, hki, e4a, e6a, hg, h20, hg3, ho3, fC, hwa, codeC, List.length_map, c3, hli, hx]
        refine hK' _ ?_
        clear hK' K'
        simp (config := { maxSteps := 1000000 }) only [go_sem,↓reduceIte,q0, q1, q2, q3, q9, q10, q11, q12, q13, hki, e4a, e6a, hg, h20, hg3, ho3, fC, hwa, codeC, List.length_map, c3, hli, hx]
        refine draw_det Tt_ok mixed [3171, 3223, 20] [([0], [0, 1], [], false), ([0], [0], [], false), ([163], [0], [], false), ([164], [0], [], false), ([165], [0], [], false), ([166], [0], [], false), ([10], [], [], false), ([168], [], [], false), ([169], [], [], false), ([170], [], [0], false), ([167, 171], [], [1], false), ([162], [], [], false), ([173], [], [], false), ([174], [], [], false), ([175, 172], [], [], true)] 3 (by decide +kernel) rfl (by decide) ?_
        simp (config := { maxSteps := 1000000 }) only [go_sem,↓reduceIte]
        iterate 9 (apply det_pure; · (intro fa ga oa K' hK; simp (config := { maxSteps := 1000000 }) only [go_sem,↓reduceIte,q0, q1, q2, q3, q9, q10, q11, q12, q13, hki, e4a, e6a, hg, h20, hg3, ho3, fC, hwa, codeC, List.length_map, c3, hli, hx] at hK ⊢; exact hK))
        (apply det_new; · (intro fa ga oa K' hK; simp (config := { maxSteps := 1000000 }) only [go_sem,↓reduceIte,q0, q1, q2, q3, q9, q10, q11, q12, q13, hki, e4a, e6a, hg, h20, hg3, ho3, fC, hwa, codeC, List.length_map, c3, hli, hx, elemTy] at hK ⊢; exact hK))
        (apply det_new; · (intro fa ga oa K' hK; simp (config := { maxSteps := 1000000 }) only [go_sem,↓reduceIte,q0, q1, q2, q3, q9, q10, q11, q12, q13, hki, e4a, e6a, hg, h20, hg3, ho3, fC, hwa, codeC, List.length_map, c3, hli, hx, elemTy] at hK ⊢; first | exact ⟨⟨by decide, by decide⟩, hK⟩ | exact ⟨⟨by decide, by omega⟩, hK⟩ | exact ⟨Nat.le_of_eq (flatR_len _).symm, ⟨by decide, by omega⟩, hK⟩ | exact ⟨Nat.le_refl _, ⟨by decide, by omega⟩, hK⟩))
        iterate 3 (apply det_pure; · (intro fa ga oa K' hK; simp (config := { maxSteps := 1000000 }) only [go_sem,↓reduceIte,q0, q1, q2, q3, q9, q10, q11, q12, q13, hki, e4a, e6a, hg, h20, hg3, ho3, fC, hwa, codeC, List.length_map, c3, hli, hx] at hK ⊢; exact hK))
        apply det_last
        intro K' hK'
        simp (config := { maxSteps := 1000000 }) only [go_sem,↓reduceIte,q0, q1, q2, q3, q9, q10, q11, q12, q13, hki, e4a, e6a, hg, h20, hg3, ho3, fC, hwa, codeC, List.length_map, c3, hli, hx]
        refine hK' _ ?_
        clear hK' K'
        simp (config := { maxSteps := 1000000 }) only [go_sem,↓reduceIte,q0, q1, q2, q3, q9, q10, q11, q12, q13, hki, e4a, e6a, hg, h20, hg3, ho3, fC, hwa, codeC, List.length_map, c3, hli, hx]
        refine retF_at ⟨fun i hi => by (have := far hi; simp only [upd, this, if_false]; exact hgo i hi), fun i h5 hi => by (have := far hi; simp only [upd, this, h5, if_false]; exact hoo i h5 hi), rfl, ⟨by simp [upd, hg], _, lc, pc, _, rfl, ?_, hl, ?_⟩⟩
        · exact .inr ⟨by simp [addX], 3223, .inr rfl, by simp [upd, addX], by simp [upd, addX, codeC, List.take_of_length_le]⟩
        · exact .inr ⟨by simp [addX], by simp [upd, u1, addX], by simp [upd, u1, addX, useR]⟩
      · simp (config := { maxSteps := 1000000 }) only [go_sem,↓reduceIte,q0, q1, q2, q3, q9, q10, q11, q12, q13, hki, e4a, e6a, hg, h20, hg3, ho3, fC, hwa, codeC, List.length_map, c3, hli, hx, u3]
        refine draw_det Tt_ok mixed [3156, 3157, 20] [([0], [0, 1], [], false), ([0], [0], [], false), ([143], [0], [], false), ([144], [0], [], false), ([145], [0], [], false), ([12], [], [], false), ([3], [], [], false), ([0], [], [], false), ([149], [], [], false), ([150], [], [], false), ([151], [], [], false), ([152], [], [], false), ([153], [], [], false), ([147, 148, 154], [], [], false), ([155], [], [0], false), ([146, 156], [], [1], false), ([142], [], [], false), ([158], [], [], false), ([159, 157], [], [], true)] 3 (by decide +kernel) rfl (by decide) ?_
        simp (config := { maxSteps := 1000000 }) only [go_sem,↓reduceIte]
        iterate 13 (apply det_pure; · (intro fa ga oa K' hK; simp (config := { maxSteps := 1000000 }) only [go_sem,↓reduceIte,q0, q1, q2, q3, q9, q10, q11, q12, q13, hki, e4a, e6a, hg, h20, hg3, ho3, fC, hwa, codeC, List.length_map, c3, hli, hx, u3] at hK ⊢; exact hK))
        (apply det_pure; · (intro fa ga oa K' hK; simp (config := { maxSteps := 1000000 }) only [go_sem,↓reduceIte,buildA] at hK ⊢; exact hK))
        (apply det_new; · (intro fa ga oa K' hK; simp (config := { maxSteps := 1000000 }) only [go_sem,↓reduceIte,q0, q1, q2, q3, q9, q10, q11, q12, q13, hki, e4a, e6a, hg, h20, hg3, ho3, fC, hwa, codeC, List.length_map, c3, hli, hx, u3, elemTy] at hK ⊢; exact hK))
        (apply det_new; · (intro fa ga oa K' hK; simp (config := { maxSteps := 1000000 }) only [go_sem,↓reduceIte,q0, q1, q2, q3, q9, q10, q11, q12, q13, hki, e4a, e6a, hg, h20, hg3, ho3, fC, hwa, codeC, List.length_map, c3, hli, hx, u3, elemTy] at hK ⊢; first | exact ⟨⟨by decide, by decide⟩, hK⟩ | exact ⟨⟨by decide, by omega⟩, hK⟩ | exact ⟨Nat.le_of_eq (flatR_len _).symm, ⟨by decide, by omega⟩, hK⟩ | exact ⟨Nat.le_refl _, ⟨by decide, by omega⟩, hK⟩))
        iterate 2 (apply det_pure; · (intro fa ga oa K' hK; simp (config := { maxSteps := 1000000 }) only [go_sem,↓reduceIte,q0, q1, q2, q3, q9, q10, q11, q12, q13, hki, e4a, e6a, hg, h20, hg3, ho3, fC, hwa, codeC, List.length_map, c3, hli, hx, u3] at hK ⊢; exact hK))
        apply det_last
        intro K' hK'
        simp (config := { maxSteps := 1000000 }) only [go_sem,↓reduceIte,q0, q1, q2, q3, q9, q10, q11, q12, q13, hki, e4a, e6a, hg, h20, hg3, ho3, fC, hwa, codeC, List.length_map, c3, hli, hx, u3]
        refine hK' _ ?_
        clear hK' K'
        simp (config := { maxSteps := 1000000 }) only [go_sem,↓reduceIte,q0, q1, q2, q3, q9, q10, q11, q12, q13, hki, e4a, e6a, hg, h20, hg3, ho3, fC, hwa, codeC, List.length_map, c3, hli, hx, u3]
        refine draw_det Tt_ok mixed [3171, 3223, 20] [([0], [0, 1], [], false), ([0], [0], [], false), ([163], [0], [], false), ([164], [0], [], false), ([165], [0], [], false), ([166], [0], [], false), ([10], [], [], false), ([168], [], [], false), ([169], [], [], false), ([170], [], [0], false), ([167, 171], [], [1], false), ([162], [], [], false), ([173], [], [], false), ([174], [], [], false), ([175, 172], [], [], true)] 3 (by decide +kernel) rfl (by decide) ?_
        simp (config := { maxSteps := 1000000 }) only [go_sem,↓reduceIte]
        iterate 9 (apply det_pure; · (intro fa ga oa K' hK; simp (config := { maxSteps := 1000000 }) only [go_sem,↓reduceIte,q0, q1, q2, q3, q9, q10, q11, q12, q13, hki, e4a, e6a, hg, h20, hg3, ho3, fC, hwa, codeC, List.length_map, c3, hli, hx, u3] at hK ⊢; exact hK))
        (apply det_new; · (intro fa ga oa K' hK; simp (config := { maxSteps := 1000000 }) only [go_sem,↓reduceIte,q0, q1, q2, q3, q9, q10, q11, q12, q13, hki, e4a, e6a, hg, h20, hg3, ho3, fC, hwa, codeC, List.length_map, c3, hli, hx, u3, elemTy] at hK ⊢; exact hK))
        (apply det_new; · (intro fa ga oa K' hK; simp (config := { maxSteps := 1000000 }) only [go_sem,↓reduceIte,q0, q1, q2, q3, q9, q10, q11, q12, q13, hki, e4a, e6a, hg, h20, hg3, ho3, fC, hwa, codeC, List.length_map, c3, hli, hx, u3, elemTy] at hK ⊢; first | exact ⟨⟨by decide, by decide⟩, hK⟩ | exact ⟨⟨by decide, by omega⟩, hK⟩ | exact ⟨Nat.le_of_eq (flatR_len _).symm, ⟨by decide, by omega⟩, hK⟩ | exact ⟨Nat.le_refl _, ⟨by decide, by omega⟩, hK⟩))
        iterate 3 (apply det_pure; · (intro fa ga oa K' hK; simp (config := { maxSteps := 1000000 }) only [go_sem,↓reduceIte,q0, q1, q2, q3, q9, q10, q11, q12, q13, hki, e4a, e6a, hg, h20, hg3, ho3, fC, hwa, codeC, List.length_map, c3, hli, hx, u3] at hK ⊢; exact hK))
        apply det_last
        intro K' hK'
        simp (config := { maxSteps := 1000000 }) only [go_sem,↓reduceIte,q0, q1, q2, q3, q9, q10, q11, q12, q13, hki, e4a, e6a, hg, h20, hg3, ho3, fC, hwa, codeC, List.length_map, c3, hli, hx, u3]
        refine hK' _ ?_
        clear hK' K'
        simp (config := { maxSteps := 1000000 }) only [go_sem,↓reduceIte,q0, q1, q2, q3, q9, q10, q11, q12, q13, hki, e4a, e6a, hg, h20, hg3, ho3, fC, hwa, codeC, List.length_map, c3, hli, hx, u3]
        refine retF_at ⟨fun i hi => by (have := far hi; simp only [upd, this, if_false]; exact hgo i hi), fun i h5 hi => by (have := far hi; simp only [upd, this, h5, if_false]; exact hoo i h5 hi), rfl, ⟨by simp [upd, hg], _, lc, pc, _, rfl, ?_, hl, ?_⟩⟩
        · exact .inr ⟨by simp [addX], 3223, .inr rfl, by simp [upd, addX], by simp [upd, addX, codeC, List.take_of_length_le]⟩
        · exact .inr ⟨by simp [addX], by simp [upd, addX], by simp [upd, addX, flatR_take, useR]⟩
  · -- .data
    rw [endA_data e4] at hP
    subst hP
    simp (config := { maxSteps := 1000000 }) only [go_sem,↓reduceIte,q0, q1, q2, q3, q9, q10, q11, q12, q13, hki, e4a, e6a, hg, h20, hg3, ho3, fC, List.map_cons, List.map_nil]
    refine retF_at ⟨hgo, fun i h5 hi => by simp only [upd]; rw [if_neg h5, if_neg h5]; exact hoo i h5 hi, rfl, ⟨hg, cc, lc, pc, uc, by simp [upd], CodeAt.of hc (fun i hi => rfl) (fun i hi => by simp only [upd]; rw [if_neg (by omega), if_neg (by omega)]), hl, hu⟩⟩

end Go.Proofs.YthclfagbojkbjabGreatDoor

namespace Go.Proofs.YthclfagbojkbjabGreatDoor
open Go Go.Am Go.Asm

set_option maxHeartbeats 2000000 in
theorem LinesR_A (s : Str) (hl : s.length ≤ 1000000000) : PureR Tryz.prog 16 [sv s] (· = .one (.d (strs (splitC 10 s)))) := by
  refine pure_of_wp Tt_ok mixed Tryz.func16 rfl (by rfl) [2] rfl (by kernel_rfl) (by simp [Tryz.ntmps16]) fun g => ?_
  simp (config := { maxSteps := 1000000 }) only [go_sem,↓reduceIte]
  refine loop_intro (fun n st => ∃ (t : Str) (done : List Str), t.length = n ∧ st.f 0 = sv t ∧ AllW 3 [20] done st ∧ t.length ≤ s.length ∧ done.length + t.length ≤ s.length ∧ splitC 10 s = done ++ splitC 10 t) s.length ?_ ?_
  · refine ⟨s, [], rfl, ?_⟩
    simp (config := { maxSteps := 1000000 }) only [go_sem,↓reduceIte]
    first | exact ⟨.inl ⟨by simp [upd], rfl⟩, Nat.le_refl _, Nat.le_of_eq (by simp)⟩ | (simp [AllW, upd]; done)
  rintro n f g ob ⟨t, done, rfl, q0, hW, htl, hdl, hsp⟩
  simp only at q0
  have hul := upto_len 10 t
  simp (config := { maxSteps := 1000000 }) only [go_sem,↓reduceIte,q0]
  refine hook_call rfl (by simp (config := { maxSteps := 1000000 }) only [go_sem,↓reduceIte]; exact find_A t 10 (by omega)) (by simp (config := { maxSteps := 1000000 }) only [go_sem,↓reduceIte]; rfl) ?_
  rintro _ rfl
  simp (config := { maxSteps := 1000000 }) only [go_sem,↓reduceIte,q0]
  refine ⟨fun he => ?_, fun he => ?_⟩
  · have hm : (10 : UInt8) ∉ t := fun h => by have := (upto_lt 10 t).2 h; omega
    rw [hsp, splitC_none hm]
    rcases hW with ⟨q3, qL⟩ | ⟨id, hid, q3, qo⟩
    · simp only at q3
      simp (config := { maxSteps := 1000000 }) only [go_sem,↓reduceIte,q3, elemTy]
      refine ⟨⟨by decide, by decide⟩, _, ⟨_, frz_strs (L := done ++ [t]) rfl (by simp [upd, qL]) (by simp [qL]), rfl⟩, rfl⟩
    · simp only [List.mem_singleton] at hid
      subst hid
      simp only at q3 qo
      simp (config := { maxSteps := 1000000 }) only [go_sem,↓reduceIte,q3, qo, elemTy]
      refine ⟨Nat.le_refl _, ⟨by decide, by omega⟩, _, ⟨_, frz_strs (L := done ++ [t]) rfl (by simp [upd, List.take_of_length_le]) (by simp), rfl⟩, rfl⟩
  · have hm : (10 : UInt8) ∈ t := (upto_lt 10 t).1 (by omega)
    have hlt := (upto_lt 10 t).2 hm
    have hwp := wrap_succ (k := (upto 10 t).length) (by omega)
    have hnext : splitC 10 s = (done ++ [upto 10 t]) ++ splitC 10 (t.drop ((upto 10 t).length + 1)) := by rw [hsp, splitC_upto hm]; simp
    refine ⟨by omega, by omega, ?_⟩
    rw [upto_take]
    rcases hW with ⟨q3, qL⟩ | ⟨id, hid, q3, qo⟩
    · simp only at q3
      simp (config := { maxSteps := 1000000 }) only [go_sem,↓reduceIte,q3, elemTy, hwp]
      refine ⟨⟨by decide, by decide⟩, ?_⟩
      simp (config := { maxSteps := 1000000 }) only [go_sem,↓reduceIte,q0, hwp]
      refine ⟨by omega, Nat.le_refl _, ?_⟩
      refine round_end (t.drop ((upto 10 t).length + 1)).length (by rw [List.length_drop]; omega) ⟨t.drop ((upto 10 t).length + 1), done ++ [upto 10 t], rfl, ?_⟩
      simp (config := { maxSteps := 1000000 }) only [go_sem,↓reduceIte]
      exact ⟨.inr ⟨20, by simp, by simp [upd, qL], by simp [upd, qL]⟩, by rw [List.length_drop]; omega, by simp only [List.length_append, List.length_cons, List.length_nil, List.length_drop]; omega, hnext⟩
    · simp only [List.mem_singleton] at hid
      subst hid
      simp only at q3 qo
      simp (config := { maxSteps := 1000000 }) only [go_sem,↓reduceIte,q3, qo, elemTy, hwp]
      refine ⟨Nat.le_refl _, ⟨by decide, by omega⟩, ?_⟩
      simp (config := { maxSteps := 1000000 }) only [go_sem,↓reduceIte,q0, hwp]
      refine ⟨by omega, Nat.le_refl _, ?_⟩
      refine round_end (t.drop ((upto 10 t).length + 1)).length (by rw [List.length_drop]; omega) ⟨t.drop ((upto 10 t).length + 1), done ++ [upto 10 t], rfl, ?_⟩
      simp (config := { maxSteps := 1000000 }) only [go_sem,↓reduceIte]
      exact ⟨.inr ⟨20, by simp, by simp [upd], by simp [upd, List.take_of_length_le]⟩, by rw [List.length_drop]; omega, by simp only [List.length_append, List.length_cons, List.length_nil, List.length_drop]; omega, hnext⟩

end Go.Proofs.YthclfagbojkbjabGreatDoor

namespace Go.Proofs.YthclfagbojkbjabGreatDoor
open Go Go.Am Go.Asm

theorem addW_labs {st st' : Sta} {w : Nat} (h : addW st w = .ok st') : st'.labs = st.labs := by
  unfold addW at h; split at h <;> cases h; rfl
theorem opA_labs {n : Nat} {st st' : Sta} {op : Str} {args : List Str} (h : Asm.opA n st op args = .ok st') : st'.labs = st.labs := by
  unfold Asm.opA at h
  have hd : ∀ b, dirA st b args = .ok st' → st'.labs = st.labs := by
    intro b h
    unfold dirA at h
    repeat' split at h
    all_goals first | (cases h; rfl) | (cases h; done) | exact addW_labs h
  split at h
  · cases h; rfl
  · split at h
    · exact hd _ h
    · split at h
      · exact hd _ h
      · split at h
        · cases h
        · unfold insA at h
          repeat' split at h
          all_goals first | (cases h; done) | exact addW_labs h | exact (addW_labs h : _)
theorem stepA_labs {n : Nat} {st st' : Sta} {s : Str} (h : stepA n st s = .ok st') : st'.labs.length ≤ st.labs.length + 1 := by
  unfold stepA at h
  repeat' split at h
  · cases h
  · rw [opA_labs h]; omega
  · cases h
  · rw [opA_labs h]; simp

end Go.Proofs.YthclfagbojkbjabGreatDoor

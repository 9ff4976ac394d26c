/- A part of the proof; no conditions. -/
import Derived.Test.YtifciocionlciaaGreatDoorPart4
set_option linter.unusedSimpArgs false
set_option linter.unusedVariables false
namespace Go.Proofs.YtifciocionlciaaGreatDoor
open Go Go.Am Go.Asm

theorem OpR_A (s : Str) : PureR Tryz.prog 34 [sv s] (· = iv .i64 (opNum s)) := by
  refine pure_of_wp Tt_ok mixed Tryz.func34 rfl (by rfl) [2] rfl (by kernel_rfl) (by simp [Tryz.ntmps34]) fun g => ?_
  simp (config := { maxSteps := 1000000 }) only [go_sem,↓reduceIte]
  refine loop_intro (fun n st => ∃ k : Nat, n + k = 27 ∧ st.f 0 = sv s ∧ st.f 3 = iv .i64 ((k + 1 : Nat) : Int) ∧ ∀ j, j < k → names.getD j [] ≠ s) 27 ?_ ?_
  · refine ⟨0, by omega, ?_⟩
    simp (config := { maxSteps := 1000000 }) only [go_sem,↓reduceIte]
    exact fun j hj => absurd hj (by omega)
  rintro n f g ob ⟨k, hk, q0, q3, hno⟩
  simp only at q0 q3
  have hw := wrap_succ (k := k + 1) (by omega)
  by_cases hlt : k < 27
  · have hle : ((k + 1 : Nat) : Int) ≤ 27 := by omega
    simp (config := { maxSteps := 1000000 }) only [go_sem,↓reduceIte,q0, q3, hle]
    refine hook_call rfl (by simp (config := { maxSteps := 1000000 }) only [go_sem,↓reduceIte]; exact NameR_A ((k + 1 : Nat) : Int)) (by simp (config := { maxSteps := 1000000 }) only [go_sem,↓reduceIte]; rfl) ?_
    rintro _ rfl
    rw [Int.toNat_natCast, show nameOf (k + 1) = names.getD k [] from rfl]
    simp (config := { maxSteps := 1000000 }) only [go_sem,↓reduceIte,q0, q3]
    refine ⟨fun e => ?_, fun e => ?_⟩
    · rw [opNum_hit hlt e hno]
    · simp (config := { maxSteps := 1000000 }) only [go_sem,↓reduceIte,q3, hw]
      refine round_end (n - 1) (by omega) ⟨k + 1, by omega, ?_⟩
      simp (config := { maxSteps := 1000000 }) only [go_sem,↓reduceIte,q0]
      intro j hj
      by_cases hjk : j = k
      · rw [hjk]; exact e
      · exact hno j (by omega)
  · have hle : ¬ ((k + 1 : Nat) : Int) ≤ 27 := by omega
    simp (config := { maxSteps := 1000000 }) only [go_sem,↓reduceIte,q0, q3, hle]
    rw [opNum_none (fun j hj => hno j (by omega))]; rfl

def regI (s : Str) : Int := match regOf s with | some n => (n : Int) | none => -1
set_option maxHeartbeats 2000000 in
theorem register_A (s : Str) (hl : s.length ≤ 1000000) : PureR Tryz.prog 32 [sv s] (· = iv .i64 (regI s)) := by
  refine pure_of_wp Tt_ok mixed Tryz.func32 rfl (by rfl) [2] rfl (by kernel_rfl) (by simp [Tryz.ntmps32]) fun g => ?_
  match s, hl with
  | [], _ =>
    simp (config := { maxSteps := 1000000 }) only [go_sem,↓reduceIte]
    rfl
  | [a], _ =>
    have : regI [a] = -1 := by
      unfold regI regOf
      split
      · rename_i n h; split at h
        · rename_i d e; cases e; rw [show parseN [] = .syn from rfl] at h; cases h
        · cases h
      · rfl
    rw [this]
    simp (config := { maxSteps := 1000000 }) only [go_sem,↓reduceIte]
  | a :: b :: d, hl =>
    have hli : ¬ ((d.length + 1 + 1 : Nat) : Int) < 2 := by omega
    by_cases ha : a = 114
    · subst ha
      have z : ((114 : UInt8).toNat : Int) = 114 := rfl
      simp (config := { maxSteps := 1000000 }) only [go_sem,↓reduceIte,hli, z, List.length_cons]
      refine ⟨by omega, ?_⟩
      refine hook_call rfl (by simp (config := { maxSteps := 1000000 }) only [go_sem,↓reduceIte]; exact ParseR_A (b :: d) (by simp only [List.length_cons] at hl ⊢; omega)) (by simp (config := { maxSteps := 1000000 }) only [go_sem,↓reduceIte]; rfl) ?_
      rintro _ rfl
      rw [show regI (114 :: b :: d) = (match parseN (b :: d) with | .ok n => if n ≤ 15 then (n : Int) else -1 | _ => -1) by
        unfold regI regOf; simp only
        cases parseN (b :: d) with
        | ok n =>
          simp only
          by_cases h15 : n ≤ 15
          · rw [if_pos h15, if_pos h15]
          · rw [if_neg h15, if_neg h15]
        | syn => rfl
        | rng => rfl]
      cases parseN (b :: d) with
      | ok n =>
        simp only
        unfold prV
        by_cases h15 : n ≤ 15
        · have h : ¬ (15 : Int) < (n : Int) := by omega
          have hw : IntKind.i64.wrap (n : Int) = (n : Int) := by rw [IntKind.wrap_i64] <;> omega
          rw [if_pos h15]
          simp (config := { maxSteps := 1000000 }) only [go_sem,↓reduceIte,h, hw]
        · have h : (15 : Int) < (n : Int) := by omega
          rw [if_neg h15]
          simp (config := { maxSteps := 1000000 }) only [go_sem,↓reduceIte,h]
      | syn => unfold prV; simp (config := { maxSteps := 1000000 }) only [go_sem,↓reduceIte]
      | rng => unfold prV; simp (config := { maxSteps := 1000000 }) only [go_sem,↓reduceIte]
    · have ha2 : ¬ (a.toNat : Int) = 114 := u8_ne (d := 114) ha
      have : regI (a :: b :: d) = -1 := by
        unfold regI regOf
        split
        · rename_i n h; split at h
          · rename_i e; cases e; exact absurd rfl ha
          · cases h
        · rfl
      rw [this]
      simp (config := { maxSteps := 1000000 }) only [go_sem,↓reduceIte,hli, ha2]

def shI (op : Nat) : Str := (if (Asm.shape op).1 = true then [114] else []) ++ (if (Asm.shape op).2.1 = true then [114] else []) ++ (if (Asm.shape op).2.2 = 2 then [114] else if (Asm.shape op).2.2 = 1 then [110] else [])
def shapeS (s : Str) : Str := if s = wordW ∨ s = dataW then [119] else if opNum s = 0 then [63] else shI (opNum s)
theorem opNum_get {s : Str} {k : Nat} (h : opNum s = k + 1) : names.getD k [] = s := by
  unfold opNum at h
  split at h
  · rename_i i hi
    obtain rfl : i = k := by omega
    obtain ⟨h1, h2, _⟩ := List.idxOf?_eq_some_iff.1 hi
    rw [names_get h1]; exact h2
  · cases h
theorem opNum_mem {s : Str} (h : opNum s = 0) : ∀ x ∈ names, s ≠ x := by
  rintro x hx rfl
  unfold opNum at h
  split at h
  · cases h
  · rename_i hi; exact List.idxOf?_eq_none_iff.1 hi hx
theorem names_inj : ∀ j, j < 27 → ∀ k, k < 27 → names.getD j [] = names.getD k [] → j = k := by decide +kernel
set_option maxHeartbeats 8000000 in
theorem Shape_A (s : Str) : PureR Tryz.prog 31 [sv s] (· = sv (shapeS s)) := by
  refine pure_of_wp Tt_ok mixed Tryz.func31 rfl (by rfl) [2] rfl (by kernel_rfl) (by simp [Tryz.ntmps31]) fun g => ?_
  have hle := opNum_le s
  by_cases h1 : s = wordW
  · have hs : s = [46, 119, 111, 114, 100] := h1
    rw [show shapeS s = [119] by rw [hs]; rfl]
    have m0 : (s = [108, 105]) = False := eq_false (by rw [hs]; decide)
    have m1 : (s = [108, 117, 105]) = False := eq_false (by rw [hs]; decide)
    have m2 : (s = [106, 122]) = False := eq_false (by rw [hs]; decide)
    have m3 : (s = [106, 110, 122]) = False := eq_false (by rw [hs]; decide)
    have m4 : (s = [99, 97, 108, 108]) = False := eq_false (by rw [hs]; decide)
    have m5 : (s = [99, 104, 107]) = False := eq_false (by rw [hs]; decide)
    have m6 : (s = [109, 111, 118]) = False := eq_false (by rw [hs]; decide)
    have m7 : (s = [108, 100]) = False := eq_false (by rw [hs]; decide)
    have m8 : (s = [115, 116]) = False := eq_false (by rw [hs]; decide)
    have m9 : (s = [108, 100, 99]) = False := eq_false (by rw [hs]; decide)
    have m10 : (s = [106, 109, 112]) = False := eq_false (by rw [hs]; decide)
    have m11 : (s = [114, 101, 116]) = False := eq_false (by rw [hs]; decide)
    have m12 : (s = [103, 101, 116]) = False := eq_false (by rw [hs]; decide)
    have m13 : (s = [112, 117, 116]) = False := eq_false (by rw [hs]; decide)
    have m14 : (s = [104, 97, 108, 116]) = False := eq_false (by rw [hs]; decide)
    have m15 : (s = [46, 119, 111, 114, 100]) = True := eq_true hs
    have m16 : (s = [46, 100, 97, 116, 97]) = False := eq_false (by rw [hs]; decide)
    simp (config := { maxSteps := 1000000 }) only [go_sem,↓reduceIte,m0, m1, m2, m3, m4, m5, m6, m7, m8, m9, m10, m11, m12, m13, m14, m15, m16]
  by_cases h2 : s = dataW
  · have hs : s = [46, 100, 97, 116, 97] := h2
    rw [show shapeS s = [119] by rw [hs]; rfl]
    have m0 : (s = [108, 105]) = False := eq_false (by rw [hs]; decide)
    have m1 : (s = [108, 117, 105]) = False := eq_false (by rw [hs]; decide)
    have m2 : (s = [106, 122]) = False := eq_false (by rw [hs]; decide)
    have m3 : (s = [106, 110, 122]) = False := eq_false (by rw [hs]; decide)
    have m4 : (s = [99, 97, 108, 108]) = False := eq_false (by rw [hs]; decide)
    have m5 : (s = [99, 104, 107]) = False := eq_false (by rw [hs]; decide)
    have m6 : (s = [109, 111, 118]) = False := eq_false (by rw [hs]; decide)
    have m7 : (s = [108, 100]) = False := eq_false (by rw [hs]; decide)
    have m8 : (s = [115, 116]) = False := eq_false (by rw [hs]; decide)
    have m9 : (s = [108, 100, 99]) = False := eq_false (by rw [hs]; decide)
    have m10 : (s = [106, 109, 112]) = False := eq_false (by rw [hs]; decide)
    have m11 : (s = [114, 101, 116]) = False := eq_false (by rw [hs]; decide)
    have m12 : (s = [103, 101, 116]) = False := eq_false (by rw [hs]; decide)
    have m13 : (s = [112, 117, 116]) = False := eq_false (by rw [hs]; decide)
    have m14 : (s = [104, 97, 108, 116]) = False := eq_false (by rw [hs]; decide)
    have m15 : (s = [46, 119, 111, 114, 100]) = False := eq_false (by rw [hs]; decide)
    have m16 : (s = [46, 100, 97, 116, 97]) = True := eq_true hs
    simp (config := { maxSteps := 1000000 }) only [go_sem,↓reduceIte,m0, m1, m2, m3, m4, m5, m6, m7, m8, m9, m10, m11, m12, m13, m14, m15, m16]
  have hsh : shapeS s = if opNum s = 0 then [63] else shI (opNum s) := by unfold shapeS; rw [if_neg (by simp [h1, h2])]
  rw [hsh]
  unfold wordW at h1
  unfold dataW at h2
  by_cases h0 : opNum s = 0
  · rw [if_pos h0]
    have hm := opNum_mem h0
    unfold names at hm
    simp only [List.forall_mem_cons] at hm
    obtain ⟨n1, n2, n3, n4, n5, n6, n7, n8, n9, n10, n11, n12, n13, n14, n15, n16, n17, n18, n19, n20, n21, n22, n23, n24, n25, n26, n27, _⟩ := hm
    simp (config := { maxSteps := 1000000 }) only [go_sem,↓reduceIte,n1, n2, n3, n16, n17, n18, n19, n20, n21, n22, n23, n24, n25, n26, n27, h1, h2]
    refine hook_call rfl (by simp (config := { maxSteps := 1000000 }) only [go_sem,↓reduceIte]; exact OpR_A s) (by simp (config := { maxSteps := 1000000 }) only [go_sem,↓reduceIte]; rfl) ?_
    rintro _ rfl
    rw [h0]
    simp (config := { maxSteps := 1000000 }) only [go_sem,↓reduceIte]
  · rw [if_neg h0]
    obtain ⟨k, hk⟩ : ∃ k, opNum s = k + 1 := ⟨opNum s - 1, by omega⟩
    have hs := opNum_get hk
    have hkl : k < 27 := by omega
    by_cases hmid : 3 ≤ k ∧ k ≤ 14
    · have hsh : shI (opNum s) = [114, 114, 114] := by
        have : Asm.shape (opNum s) = (true, true, 2) := by unfold Asm.shape; rw [if_neg (by omega), if_neg (by omega), if_pos (by omega)]
        unfold shI; rw [this]; rfl
      rw [hsh]
      have hne : ∀ j, j < 27 → j ≠ k → s ≠ names.getD j [] := by
        intro j hj hjk e
        exact hjk (names_inj j hj k hkl (by rw [hs]; exact e.symm))
      have n1 : ¬ s = [108, 105] := hne 0 (by omega) (by omega)
      have n2 : ¬ s = [108, 117, 105] := hne 1 (by omega) (by omega)
      have n3 : ¬ s = [109, 111, 118] := hne 2 (by omega) (by omega)
      have n16 : ¬ s = [108, 100] := hne 15 (by omega) (by omega)
      have n17 : ¬ s = [115, 116] := hne 16 (by omega) (by omega)
      have n18 : ¬ s = [106, 109, 112] := hne 17 (by omega) (by omega)
      have n19 : ¬ s = [106, 122] := hne 18 (by omega) (by omega)
      have n20 : ¬ s = [106, 110, 122] := hne 19 (by omega) (by omega)
      have n21 : ¬ s = [99, 97, 108, 108] := hne 20 (by omega) (by omega)
      have n22 : ¬ s = [114, 101, 116] := hne 21 (by omega) (by omega)
      have n23 : ¬ s = [103, 101, 116] := hne 22 (by omega) (by omega)
      have n24 : ¬ s = [112, 117, 116] := hne 23 (by omega) (by omega)
      have n25 : ¬ s = [99, 104, 107] := hne 24 (by omega) (by omega)
      have n26 : ¬ s = [104, 97, 108, 116] := hne 25 (by omega) (by omega)
      have n27 : ¬ s = [108, 100, 99] := hne 26 (by omega) (by omega)
      have i1 : (4 : Int) ≤ (opNum s : Int) := by omega
      have i2 : (opNum s : Int) ≤ 15 := by omega
      simp (config := { maxSteps := 1000000 }) only [go_sem,↓reduceIte,n1, n2, n3, n16, n17, n18, n19, n20, n21, n22, n23, n24, n25, n26, n27, h1, h2]
      refine hook_call rfl (by simp (config := { maxSteps := 1000000 }) only [go_sem,↓reduceIte]; exact OpR_A s) (by simp (config := { maxSteps := 1000000 }) only [go_sem,↓reduceIte]; rfl) ?_
      rintro _ rfl
      simp (config := { maxSteps := 1000000 }) only [go_sem,↓reduceIte,i1, i2]
    · rw [hk]
      clear hsh h0 hk hle h1 h2
      rcases (show k = 0 ∨ k = 1 ∨ k = 2 ∨ k = 15 ∨ k = 16 ∨ k = 17 ∨ k = 18 ∨ k = 19 ∨ k = 20 ∨ k = 21 ∨ k = 22 ∨ k = 23 ∨ k = 24 ∨ k = 25 ∨ k = 26 by omega) with rfl | rfl | rfl | rfl | rfl | rfl | rfl | rfl | rfl | rfl | rfl | rfl | rfl | rfl | rfl
      · have hs : s = [108, 105] := hs.symm
        have m0 : (s = [108, 105]) = True := eq_true hs
        have m1 : (s = [108, 117, 105]) = False := eq_false (by rw [hs]; decide)
        have m2 : (s = [106, 122]) = False := eq_false (by rw [hs]; decide)
        have m3 : (s = [106, 110, 122]) = False := eq_false (by rw [hs]; decide)
        have m4 : (s = [99, 97, 108, 108]) = False := eq_false (by rw [hs]; decide)
        have m5 : (s = [99, 104, 107]) = False := eq_false (by rw [hs]; decide)
        have m6 : (s = [109, 111, 118]) = False := eq_false (by rw [hs]; decide)
        have m7 : (s = [108, 100]) = False := eq_false (by rw [hs]; decide)
        have m8 : (s = [115, 116]) = False := eq_false (by rw [hs]; decide)
        have m9 : (s = [108, 100, 99]) = False := eq_false (by rw [hs]; decide)
        have m10 : (s = [106, 109, 112]) = False := eq_false (by rw [hs]; decide)
        have m11 : (s = [114, 101, 116]) = False := eq_false (by rw [hs]; decide)
        have m12 : (s = [103, 101, 116]) = False := eq_false (by rw [hs]; decide)
        have m13 : (s = [112, 117, 116]) = False := eq_false (by rw [hs]; decide)
        have m14 : (s = [104, 97, 108, 116]) = False := eq_false (by rw [hs]; decide)
        have m15 : (s = [46, 119, 111, 114, 100]) = False := eq_false (by rw [hs]; decide)
        have m16 : (s = [46, 100, 97, 116, 97]) = False := eq_false (by rw [hs]; decide)
        rw [show shI (0 + 1) = shI 1 from rfl]
        simp (config := { maxSteps := 1000000 }) only [go_sem,↓reduceIte,m0, m1, m2, m3, m4, m5, m6, m7, m8, m9, m10, m11, m12, m13, m14, m15, m16]
        rfl
      · have hs : s = [108, 117, 105] := hs.symm
        have m0 : (s = [108, 105]) = False := eq_false (by rw [hs]; decide)
        have m1 : (s = [108, 117, 105]) = True := eq_true hs
        have m2 : (s = [106, 122]) = False := eq_false (by rw [hs]; decide)
        have m3 : (s = [106, 110, 122]) = False := eq_false (by rw [hs]; decide)
        have m4 : (s = [99, 97, 108, 108]) = False := eq_false (by rw [hs]; decide)
        have m5 : (s = [99, 104, 107]) = False := eq_false (by rw [hs]; decide)
        have m6 : (s = [109, 111, 118]) = False := eq_false (by rw [hs]; decide)
        have m7 : (s = [108, 100]) = False := eq_false (by rw [hs]; decide)
        have m8 : (s = [115, 116]) = False := eq_false (by rw [hs]; decide)
        have m9 : (s = [108, 100, 99]) = False := eq_false (by rw [hs]; decide)
        have m10 : (s = [106, 109, 112]) = False := eq_false (by rw [hs]; decide)
        have m11 : (s = [114, 101, 116]) = False := eq_false (by rw [hs]; decide)
        have m12 : (s = [103, 101, 116]) = False := eq_false (by rw [hs]; decide)
        have m13 : (s = [112, 117, 116]) = False := eq_false (by rw [hs]; decide)
        have m14 : (s = [104, 97, 108, 116]) = False := eq_false (by rw [hs]; decide)
        have m15 : (s = [46, 119, 111, 114, 100]) = False := eq_false (by rw [hs]; decide)
        have m16 : (s = [46, 100, 97, 116, 97]) = False := eq_false (by rw [hs]; decide)
        rw [show shI (1 + 1) = shI 2 from rfl]
        simp (config := { maxSteps := 1000000 }) only [go_sem,↓reduceIte,m0, m1, m2, m3, m4, m5, m6, m7, m8, m9, m10, m11, m12, m13, m14, m15, m16]
        rfl
      · have hs : s = [109, 111, 118] := hs.symm
        have m0 : (s = [108, 105]) = False := eq_false (by rw [hs]; decide)
        have m1 : (s = [108, 117, 105]) = False := eq_false (by rw [hs]; decide)
        have m2 : (s = [106, 122]) = False := eq_false (by rw [hs]; decide)
        have m3 : (s = [106, 110, 122]) = False := eq_false (by rw [hs]; decide)
        have m4 : (s = [99, 97, 108, 108]) = False := eq_false (by rw [hs]; decide)
        have m5 : (s = [99, 104, 107]) = False := eq_false (by rw [hs]; decide)
        have m6 : (s = [109, 111, 118]) = True := eq_true hs
        have m7 : (s = [108, 100]) = False := eq_false (by rw [hs]; decide)
        have m8 : (s = [115, 116]) = False := eq_false (by rw [hs]; decide)
        have m9 : (s = [108, 100, 99]) = False := eq_false (by rw [hs]; decide)
        have m10 : (s = [106, 109, 112]) = False := eq_false (by rw [hs]; decide)
        have m11 : (s = [114, 101, 116]) = False := eq_false (by rw [hs]; decide)
        have m12 : (s = [103, 101, 116]) = False := eq_false (by rw [hs]; decide)
        have m13 : (s = [112, 117, 116]) = False := eq_false (by rw [hs]; decide)
        have m14 : (s = [104, 97, 108, 116]) = False := eq_false (by rw [hs]; decide)
        have m15 : (s = [46, 119, 111, 114, 100]) = False := eq_false (by rw [hs]; decide)
        have m16 : (s = [46, 100, 97, 116, 97]) = False := eq_false (by rw [hs]; decide)
        rw [show shI (2 + 1) = shI 3 from rfl]
        simp (config := { maxSteps := 1000000 }) only [go_sem,↓reduceIte,m0, m1, m2, m3, m4, m5, m6, m7, m8, m9, m10, m11, m12, m13, m14, m15, m16]
        rfl
      · have hs : s = [108, 100] := hs.symm
        have m0 : (s = [108, 105]) = False := eq_false (by rw [hs]; decide)
        have m1 : (s = [108, 117, 105]) = False := eq_false (by rw [hs]; decide)
        have m2 : (s = [106, 122]) = False := eq_false (by rw [hs]; decide)
        have m3 : (s = [106, 110, 122]) = False := eq_false (by rw [hs]; decide)
        have m4 : (s = [99, 97, 108, 108]) = False := eq_false (by rw [hs]; decide)
        have m5 : (s = [99, 104, 107]) = False := eq_false (by rw [hs]; decide)
        have m6 : (s = [109, 111, 118]) = False := eq_false (by rw [hs]; decide)
        have m7 : (s = [108, 100]) = True := eq_true hs
        have m8 : (s = [115, 116]) = False := eq_false (by rw [hs]; decide)
        have m9 : (s = [108, 100, 99]) = False := eq_false (by rw [hs]; decide)
        have m10 : (s = [106, 109, 112]) = False := eq_false (by rw [hs]; decide)
        have m11 : (s = [114, 101, 116]) = False := eq_false (by rw [hs]; decide)
        have m12 : (s = [103, 101, 116]) = False := eq_false (by rw [hs]; decide)
        have m13 : (s = [112, 117, 116]) = False := eq_false (by rw [hs]; decide)
        have m14 : (s = [104, 97, 108, 116]) = False := eq_false (by rw [hs]; decide)
        have m15 : (s = [46, 119, 111, 114, 100]) = False := eq_false (by rw [hs]; decide)
        have m16 : (s = [46, 100, 97, 116, 97]) = False := eq_false (by rw [hs]; decide)
        rw [show shI (15 + 1) = shI 16 from rfl]
        simp (config := { maxSteps := 1000000 }) only [go_sem,↓reduceIte,m0, m1, m2, m3, m4, m5, m6, m7, m8, m9, m10, m11, m12, m13, m14, m15, m16]
        rfl
      · have hs : s = [115, 116] := hs.symm
        have m0 : (s = [108, 105]) = False := eq_false (by rw [hs]; decide)
        have m1 : (s = [108, 117, 105]) = False := eq_false (by rw [hs]; decide)
        have m2 : (s = [106, 122]) = False := eq_false (by rw [hs]; decide)
        have m3 : (s = [106, 110, 122]) = False := eq_false (by rw [hs]; decide)
        have m4 : (s = [99, 97, 108, 108]) = False := eq_false (by rw [hs]; decide)
        have m5 : (s = [99, 104, 107]) = False := eq_false (by rw [hs]; decide)
        have m6 : (s = [109, 111, 118]) = False := eq_false (by rw [hs]; decide)
        have m7 : (s = [108, 100]) = False := eq_false (by rw [hs]; decide)
        have m8 : (s = [115, 116]) = True := eq_true hs
        have m9 : (s = [108, 100, 99]) = False := eq_false (by rw [hs]; decide)
        have m10 : (s = [106, 109, 112]) = False := eq_false (by rw [hs]; decide)
        have m11 : (s = [114, 101, 116]) = False := eq_false (by rw [hs]; decide)
        have m12 : (s = [103, 101, 116]) = False := eq_false (by rw [hs]; decide)
        have m13 : (s = [112, 117, 116]) = False := eq_false (by rw [hs]; decide)
        have m14 : (s = [104, 97, 108, 116]) = False := eq_false (by rw [hs]; decide)
        have m15 : (s = [46, 119, 111, 114, 100]) = False := eq_false (by rw [hs]; decide)
        have m16 : (s = [46, 100, 97, 116, 97]) = False := eq_false (by rw [hs]; decide)
        rw [show shI (16 + 1) = shI 17 from rfl]
        simp (config := { maxSteps := 1000000 }) only [go_sem,↓reduceIte,m0, m1, m2, m3, m4, m5, m6, m7, m8, m9, m10, m11, m12, m13, m14, m15, m16]
        rfl
      · have hs : s = [106, 109, 112] := hs.symm
        have m0 : (s = [108, 105]) = False := eq_false (by rw [hs]; decide)
        have m1 : (s = [108, 117, 105]) = False := eq_false (by rw [hs]; decide)
        have m2 : (s = [106, 122]) = False := eq_false (by rw [hs]; decide)
        have m3 : (s = [106, 110, 122]) = False := eq_false (by rw [hs]; decide)
        have m4 : (s = [99, 97, 108, 108]) = False := eq_false (by rw [hs]; decide)
        have m5 : (s = [99, 104, 107]) = False := eq_false (by rw [hs]; decide)
        have m6 : (s = [109, 111, 118]) = False := eq_false (by rw [hs]; decide)
        have m7 : (s = [108, 100]) = False := eq_false (by rw [hs]; decide)
        have m8 : (s = [115, 116]) = False := eq_false (by rw [hs]; decide)
        have m9 : (s = [108, 100, 99]) = False := eq_false (by rw [hs]; decide)
        have m10 : (s = [106, 109, 112]) = True := eq_true hs
        have m11 : (s = [114, 101, 116]) = False := eq_false (by rw [hs]; decide)
        have m12 : (s = [103, 101, 116]) = False := eq_false (by rw [hs]; decide)
        have m13 : (s = [112, 117, 116]) = False := eq_false (by rw [hs]; decide)
        have m14 : (s = [104, 97, 108, 116]) = False := eq_false (by rw [hs]; decide)
        have m15 : (s = [46, 119, 111, 114, 100]) = False := eq_false (by rw [hs]; decide)
        have m16 : (s = [46, 100, 97, 116, 97]) = False := eq_false (by rw [hs]; decide)
        rw [show shI (17 + 1) = shI 18 from rfl]
        simp (config := { maxSteps := 1000000 }) only [go_sem,↓reduceIte,m0, m1, m2, m3, m4, m5, m6, m7, m8, m9, m10, m11, m12, m13, m14, m15, m16]
        rfl
      · have hs : s = [106, 122] := hs.symm
        have m0 : (s = [108, 105]) = False := eq_false (by rw [hs]; decide)
        have m1 : (s = [108, 117, 105]) = False := eq_false (by rw [hs]; decide)
        have m2 : (s = [106, 122]) = True := eq_true hs
        have m3 : (s = [106, 110, 122]) = False := eq_false (by rw [hs]; decide)
        have m4 : (s = [99, 97, 108, 108]) = False := eq_false (by rw [hs]; decide)
        have m5 : (s = [99, 104, 107]) = False := eq_false (by rw [hs]; decide)
        have m6 : (s = [109, 111, 118]) = False := eq_false (by rw [hs]; decide)
        have m7 : (s = [108, 100]) = False := eq_false (by rw [hs]; decide)
        have m8 : (s = [115, 116]) = False := eq_false (by rw [hs]; decide)
        have m9 : (s = [108, 100, 99]) = False := eq_false (by rw [hs]; decide)
        have m10 : (s = [106, 109, 112]) = False := eq_false (by rw [hs]; decide)
        have m11 : (s = [114, 101, 116]) = False := eq_false (by rw [hs]; decide)
        have m12 : (s = [103, 101, 116]) = False := eq_false (by rw [hs]; decide)
        have m13 : (s = [112, 117, 116]) = False := eq_false (by rw [hs]; decide)
        have m14 : (s = [104, 97, 108, 116]) = False := eq_false (by rw [hs]; decide)
        have m15 : (s = [46, 119, 111, 114, 100]) = False := eq_false (by rw [hs]; decide)
        have m16 : (s = [46, 100, 97, 116, 97]) = False := eq_false (by rw [hs]; decide)
        rw [show shI (18 + 1) = shI 19 from rfl]
        simp (config := { maxSteps := 1000000 }) only [go_sem,↓reduceIte,m0, m1, m2, m3, m4, m5, m6, m7, m8, m9, m10, m11, m12, m13, m14, m15, m16]
        rfl
      · have hs : s = [106, 110, 122] := hs.symm
        have m0 : (s = [108, 105]) = False := eq_false (by rw [hs]; decide)
        have m1 : (s = [108, 117, 105]) = False := eq_false (by rw [hs]; decide)
        have m2 : (s = [106, 122]) = False := eq_false (by rw [hs]; decide)
        have m3 : (s = [106, 110, 122]) = True := eq_true hs
        have m4 : (s = [99, 97, 108, 108]) = False := eq_false (by rw [hs]; decide)
        have m5 : (s = [99, 104, 107]) = False := eq_false (by rw [hs]; decide)
        have m6 : (s = [109, 111, 118]) = False := eq_false (by rw [hs]; decide)
        have m7 : (s = [108, 100]) = False := eq_false (by rw [hs]; decide)
        have m8 : (s = [115, 116]) = False := eq_false (by rw [hs]; decide)
        have m9 : (s = [108, 100, 99]) = False := eq_false (by rw [hs]; decide)
        have m10 : (s = [106, 109, 112]) = False := eq_false (by rw [hs]; decide)
        have m11 : (s = [114, 101, 116]) = False := eq_false (by rw [hs]; decide)
        have m12 : (s = [103, 101, 116]) = False := eq_false (by rw [hs]; decide)
        have m13 : (s = [112, 117, 116]) = False := eq_false (by rw [hs]; decide)
        have m14 : (s = [104, 97, 108, 116]) = False := eq_false (by rw [hs]; decide)
        have m15 : (s = [46, 119, 111, 114, 100]) = False := eq_false (by rw [hs]; decide)
        have m16 : (s = [46, 100, 97, 116, 97]) = False := eq_false (by rw [hs]; decide)
        rw [show shI (19 + 1) = shI 20 from rfl]
        simp (config := { maxSteps := 1000000 }) only [go_sem,↓reduceIte,m0, m1, m2, m3, m4, m5, m6, m7, m8, m9, m10, m11, m12, m13, m14, m15, m16]
        rfl
      · have hs : s = [99, 97, 108, 108] := hs.symm
        have m0 : (s = [108, 105]) = False := eq_false (by rw [hs]; decide)
        have m1 : (s = [108, 117, 105]) = False := eq_false (by rw [hs]; decide)
        have m2 : (s = [106, 122]) = False := eq_false (by rw [hs]; decide)
        have m3 : (s = [106, 110, 122]) = False := eq_false (by rw [hs]; decide)
        have m4 : (s = [99, 97, 108, 108]) = True := eq_true hs
        have m5 : (s = [99, 104, 107]) = False := eq_false (by rw [hs]; decide)
        have m6 : (s = [109, 111, 118]) = False := eq_false (by rw [hs]; decide)
        have m7 : (s = [108, 100]) = False := eq_false (by rw [hs]; decide)
        have m8 : (s = [115, 116]) = False := eq_false (by rw [hs]; decide)
        have m9 : (s = [108, 100, 99]) = False := eq_false (by rw [hs]; decide)
        have m10 : (s = [106, 109, 112]) = False := eq_false (by rw [hs]; decide)
        have m11 : (s = [114, 101, 116]) = False := eq_false (by rw [hs]; decide)
        have m12 : (s = [103, 101, 116]) = False := eq_false (by rw [hs]; decide)
        have m13 : (s = [112, 117, 116]) = False := eq_false (by rw [hs]; decide)
        have m14 : (s = [104, 97, 108, 116]) = False := eq_false (by rw [hs]; decide)
        have m15 : (s = [46, 119, 111, 114, 100]) = False := eq_false (by rw [hs]; decide)
        have m16 : (s = [46, 100, 97, 116, 97]) = False := eq_false (by rw [hs]; decide)
        rw [show shI (20 + 1) = shI 21 from rfl]
        simp (config := { maxSteps := 1000000 }) only [go_sem,↓reduceIte,m0, m1, m2, m3, m4, m5, m6, m7, m8, m9, m10, m11, m12, m13, m14, m15, m16]
        rfl
      · have hs : s = [114, 101, 116] := hs.symm
        have m0 : (s = [108, 105]) = False := eq_false (by rw [hs]; decide)
        have m1 : (s = [108, 117, 105]) = False := eq_false (by rw [hs]; decide)
        have m2 : (s = [106, 122]) = False := eq_false (by rw [hs]; decide)
        have m3 : (s = [106, 110, 122]) = False := eq_false (by rw [hs]; decide)
        have m4 : (s = [99, 97, 108, 108]) = False := eq_false (by rw [hs]; decide)
        have m5 : (s = [99, 104, 107]) = False := eq_false (by rw [hs]; decide)
        have m6 : (s = [109, 111, 118]) = False := eq_false (by rw [hs]; decide)
        have m7 : (s = [108, 100]) = False := eq_false (by rw [hs]; decide)
        have m8 : (s = [115, 116]) = False := eq_false (by rw [hs]; decide)
        have m9 : (s = [108, 100, 99]) = False := eq_false (by rw [hs]; decide)
        have m10 : (s = [106, 109, 112]) = False := eq_false (by rw [hs]; decide)
        have m11 : (s = [114, 101, 116]) = True := eq_true hs
        have m12 : (s = [103, 101, 116]) = False := eq_false (by rw [hs]; decide)
        have m13 : (s = [112, 117, 116]) = False := eq_false (by rw [hs]; decide)
        have m14 : (s = [104, 97, 108, 116]) = False := eq_false (by rw [hs]; decide)
        have m15 : (s = [46, 119, 111, 114, 100]) = False := eq_false (by rw [hs]; decide)
        have m16 : (s = [46, 100, 97, 116, 97]) = False := eq_false (by rw [hs]; decide)
        rw [show shI (21 + 1) = shI 22 from rfl]
        simp (config := { maxSteps := 1000000 }) only [go_sem,↓reduceIte,m0, m1, m2, m3, m4, m5, m6, m7, m8, m9, m10, m11, m12, m13, m14, m15, m16]
        rfl
      · have hs : s = [103, 101, 116] := hs.symm
        have m0 : (s = [108, 105]) = False := eq_false (by rw [hs]; decide)
        have m1 : (s = [108, 117, 105]) = False := eq_false (by rw [hs]; decide)
        have m2 : (s = [106, 122]) = False := eq_false (by rw [hs]; decide)
        have m3 : (s = [106, 110, 122]) = False := eq_false (by rw [hs]; decide)
        have m4 : (s = [99, 97, 108, 108]) = False := eq_false (by rw [hs]; decide)
        have m5 : (s = [99, 104, 107]) = False := eq_false (by rw [hs]; decide)
        have m6 : (s = [109, 111, 118]) = False := eq_false (by rw [hs]; decide)
        have m7 : (s = [108, 100]) = False := eq_false (by rw [hs]; decide)
        have m8 : (s = [115, 116]) = False := eq_false (by rw [hs]; decide)
        have m9 : (s = [108, 100, 99]) = False := eq_false (by rw [hs]; decide)
        have m10 : (s = [106, 109, 112]) = False := eq_false (by rw [hs]; decide)
        have m11 : (s = [114, 101, 116]) = False := eq_false (by rw [hs]; decide)
        have m12 : (s = [103, 101, 116]) = True := eq_true hs
        have m13 : (s = [112, 117, 116]) = False := eq_false (by rw [hs]; decide)
        have m14 : (s = [104, 97, 108, 116]) = False := eq_false (by rw [hs]; decide)
        have m15 : (s = [46, 119, 111, 114, 100]) = False := eq_false (by rw [hs]; decide)
        have m16 : (s = [46, 100, 97, 116, 97]) = False := eq_false (by rw [hs]; decide)
        rw [show shI (22 + 1) = shI 23 from rfl]
        simp (config := { maxSteps := 1000000 }) only [go_sem,↓reduceIte,m0, m1, m2, m3, m4, m5, m6, m7, m8, m9, m10, m11, m12, m13, m14, m15, m16]
        rfl
      · have hs : s = [112, 117, 116] := hs.symm
        have m0 : (s = [108, 105]) = False := eq_false (by rw [hs]; decide)
        have m1 : (s = [108, 117, 105]) = False := eq_false (by rw [hs]; decide)
        have m2 : (s = [106, 122]) = False := eq_false (by rw [hs]; decide)
        have m3 : (s = [106, 110, 122]) = False := eq_false (by rw [hs]; decide)
        have m4 : (s = [99, 97, 108, 108]) = False := eq_false (by rw [hs]; decide)
        have m5 : (s = [99, 104, 107]) = False := eq_false (by rw [hs]; decide)
        have m6 : (s = [109, 111, 118]) = False := eq_false (by rw [hs]; decide)
        have m7 : (s = [108, 100]) = False := eq_false (by rw [hs]; decide)
        have m8 : (s = [115, 116]) = False := eq_false (by rw [hs]; decide)
        have m9 : (s = [108, 100, 99]) = False := eq_false (by rw [hs]; decide)
        have m10 : (s = [106, 109, 112]) = False := eq_false (by rw [hs]; decide)
        have m11 : (s = [114, 101, 116]) = False := eq_false (by rw [hs]; decide)
        have m12 : (s = [103, 101, 116]) = False := eq_false (by rw [hs]; decide)
        have m13 : (s = [112, 117, 116]) = True := eq_true hs
        have m14 : (s = [104, 97, 108, 116]) = False := eq_false (by rw [hs]; decide)
        have m15 : (s = [46, 119, 111, 114, 100]) = False := eq_false (by rw [hs]; decide)
        have m16 : (s = [46, 100, 97, 116, 97]) = False := eq_false (by rw [hs]; decide)
        rw [show shI (23 + 1) = shI 24 from rfl]
        simp (config := { maxSteps := 1000000 }) only [go_sem,↓reduceIte,m0, m1, m2, m3, m4, m5, m6, m7, m8, m9, m10, m11, m12, m13, m14, m15, m16]
        rfl
      · have hs : s = [99, 104, 107] := hs.symm
        have m0 : (s = [108, 105]) = False := eq_false (by rw [hs]; decide)
        have m1 : (s = [108, 117, 105]) = False := eq_false (by rw [hs]; decide)
        have m2 : (s = [106, 122]) = False := eq_false (by rw [hs]; decide)
        have m3 : (s = [106, 110, 122]) = False := eq_false (by rw [hs]; decide)
        have m4 : (s = [99, 97, 108, 108]) = False := eq_false (by rw [hs]; decide)
        have m5 : (s = [99, 104, 107]) = True := eq_true hs
        have m6 : (s = [109, 111, 118]) = False := eq_false (by rw [hs]; decide)
        have m7 : (s = [108, 100]) = False := eq_false (by rw [hs]; decide)
        have m8 : (s = [115, 116]) = False := eq_false (by rw [hs]; decide)
        have m9 : (s = [108, 100, 99]) = False := eq_false (by rw [hs]; decide)
        have m10 : (s = [106, 109, 112]) = False := eq_false (by rw [hs]; decide)
        have m11 : (s = [114, 101, 116]) = False := eq_false (by rw [hs]; decide)
        have m12 : (s = [103, 101, 116]) = False := eq_false (by rw [hs]; decide)
        have m13 : (s = [112, 117, 116]) = False := eq_false (by rw [hs]; decide)
        have m14 : (s = [104, 97, 108, 116]) = False := eq_false (by rw [hs]; decide)
        have m15 : (s = [46, 119, 111, 114, 100]) = False := eq_false (by rw [hs]; decide)
        have m16 : (s = [46, 100, 97, 116, 97]) = False := eq_false (by rw [hs]; decide)
        rw [show shI (24 + 1) = shI 25 from rfl]
        simp (config := { maxSteps := 1000000 }) only [go_sem,↓reduceIte,m0, m1, m2, m3, m4, m5, m6, m7, m8, m9, m10, m11, m12, m13, m14, m15, m16]
        rfl
      · have hs : s = [104, 97, 108, 116] := hs.symm
        have m0 : (s = [108, 105]) = False := eq_false (by rw [hs]; decide)
        have m1 : (s = [108, 117, 105]) = False := eq_false (by rw [hs]; decide)
        have m2 : (s = [106, 122]) = False := eq_false (by rw [hs]; decide)
        have m3 : (s = [106, 110, 122]) = False := eq_false (by rw [hs]; decide)
        have m4 : (s = [99, 97, 108, 108]) = False := eq_false (by rw [hs]; decide)
        have m5 : (s = [99, 104, 107]) = False := eq_false (by rw [hs]; decide)
        have m6 : (s = [109, 111, 118]) = False := eq_false (by rw [hs]; decide)
        have m7 : (s = [108, 100]) = False := eq_false (by rw [hs]; decide)
        have m8 : (s = [115, 116]) = False := eq_false (by rw [hs]; decide)
        have m9 : (s = [108, 100, 99]) = False := eq_false (by rw [hs]; decide)
        have m10 : (s = [106, 109, 112]) = False := eq_false (by rw [hs]; decide)
        have m11 : (s = [114, 101, 116]) = False := eq_false (by rw [hs]; decide)
        have m12 : (s = [103, 101, 116]) = False := eq_false (by rw [hs]; decide)
        have m13 : (s = [112, 117, 116]) = False := eq_false (by rw [hs]; decide)
        have m14 : (s = [104, 97, 108, 116]) = True := eq_true hs
        have m15 : (s = [46, 119, 111, 114, 100]) = False := eq_false (by rw [hs]; decide)
        have m16 : (s = [46, 100, 97, 116, 97]) = False := eq_false (by rw [hs]; decide)
        rw [show shI (25 + 1) = shI 26 from rfl]
        simp (config := { maxSteps := 1000000 }) only [go_sem,↓reduceIte,m0, m1, m2, m3, m4, m5, m6, m7, m8, m9, m10, m11, m12, m13, m14, m15, m16]
        rfl
      · have hs : s = [108, 100, 99] := hs.symm
        have m0 : (s = [108, 105]) = False := eq_false (by rw [hs]; decide)
        have m1 : (s = [108, 117, 105]) = False := eq_false (by rw [hs]; decide)
        have m2 : (s = [106, 122]) = False := eq_false (by rw [hs]; decide)
        have m3 : (s = [106, 110, 122]) = False := eq_false (by rw [hs]; decide)
        have m4 : (s = [99, 97, 108, 108]) = False := eq_false (by rw [hs]; decide)
        have m5 : (s = [99, 104, 107]) = False := eq_false (by rw [hs]; decide)
        have m6 : (s = [109, 111, 118]) = False := eq_false (by rw [hs]; decide)
        have m7 : (s = [108, 100]) = False := eq_false (by rw [hs]; decide)
        have m8 : (s = [115, 116]) = False := eq_false (by rw [hs]; decide)
        have m9 : (s = [108, 100, 99]) = True := eq_true hs
        have m10 : (s = [106, 109, 112]) = False := eq_false (by rw [hs]; decide)
        have m11 : (s = [114, 101, 116]) = False := eq_false (by rw [hs]; decide)
        have m12 : (s = [103, 101, 116]) = False := eq_false (by rw [hs]; decide)
        have m13 : (s = [112, 117, 116]) = False := eq_false (by rw [hs]; decide)
        have m14 : (s = [104, 97, 108, 116]) = False := eq_false (by rw [hs]; decide)
        have m15 : (s = [46, 119, 111, 114, 100]) = False := eq_false (by rw [hs]; decide)
        have m16 : (s = [46, 100, 97, 116, 97]) = False := eq_false (by rw [hs]; decide)
        rw [show shI (26 + 1) = shI 27 from rfl]
        simp (config := { maxSteps := 1000000 }) only [go_sem,↓reduceIte,m0, m1, m2, m3, m4, m5, m6, m7, m8, m9, m10, m11, m12, m13, m14, m15, m16]
        rfl

end Go.Proofs.YtifciocionlciaaGreatDoor

namespace Go.Proofs.YtifciocionlciaaGreatDoor
open Go Go.Am Go.Asm

abbrev FX := List Int × Bool × Str
def mostW (op : Str) : Nat := if op = wordW then 4294967295 else if op = dataW then 32768 else 65535
def stepF (op : Str) (c : UInt8) (a : Str) (i : Nat) (x : FX) : Option FX :=
  if c = 114 then (if regI a < 0 then none else some (x.1.set i (regI a), x.2))
  else match numO a with
    | .num n => some (x.1.set i n, x.2.1 || decide (mostW op < n), x.2.2)
    | .great => some (x.1.set i 0, true, x.2.2)
    | _ => if c = 110 ∧ regI a < 0 ∧ isLabel a = true then some (x.1, x.2.1, a) else none
def foldF (op : Str) : List UInt8 → List Str → Nat → FX → Option FX
  | c :: sh, a :: al, i, x => (stepF op c a i x).bind (foldF op sh al (i + 1))
  | _, _, _, x => some x
def fieldsX (sh : Str) (f : List Int) : Int × Int × Int :=
  if sh = [114, 110] then (f.getD 0 0, 0, f.getD 1 0) else if sh = [114, 114] then (f.getD 0 0, f.getD 1 0, 0) else if sh = [110] then (0, 0, f.getD 0 0) else (f.getD 0 0, f.getD 1 0, f.getD 2 0)
def encX (op : Nat) (x : Int × Int × Int) : Nat := if rightI op x.1 x.2.1 x.2.2 = true then word op x.1.toNat x.2.1.toNat x.2.2.toNat else 0
def useX (st : Sta) (line : Nat) (l : Str) : Sta := if l = [] then st else { st with uses := st.uses ++ [(line, st.code.length, l)] }
def addX (st : Sta) (w : Nat) : Sta := { st with code := st.code ++ [w] }
def endA (line : Nat) (st : Sta) (op : Str) (x : FX) : Res Sta :=
  if x.2.1 = true ∨ (op ≠ dataW ∧ st.code.length = 16384) then .err 2
  else if op = dataW then .ok { st with data := (x.1.getD 0 0).toNat, hasD := true }
  else if op = wordW then .ok (addX (useX st line x.2.2) (x.1.getD 0 0).toNat)
  else .ok (addX (useX st line x.2.2) (encX (opNum op) (fieldsX (shapeS op) x.1)))
def putA (line : Nat) (st : Sta) (op : Str) (args : List Str) : Res Sta :=
  if shapeS op = [63] then .err 4
  else if args.length ≠ (shapeS op).length ∨ (op = dataW ∧ st.hasD = true) then .err 1
  else match foldF op (shapeS op) args 0 ([0, 0, 0], false, []) with
    | none => .err 1
    | some x => endA line st op x

theorem regI_some {a : Str} {n : Nat} (h : regOf a = some n) : regI a = n := by unfold regI; rw [h]
theorem regI_none {a : Str} (h : regOf a = none) : regI a = -1 := by unfold regI; rw [h]
theorem operand_regOf {a : Str} : regOf? a = regOf a := by
  unfold regOf?
  cases h : regOf a with
  | some n => rw [show operandA a = .reg n by unfold operandA; rw [h]]
  | none =>
    have : ∀ n, operandA a ≠ .reg n := by
      intro n e
      unfold operandA at e
      rw [h] at e
      simp only at e
      split at e
      · cases e
      · cases e
      · unfold restOpd at e
        split at e
        · split at e <;> cases e
        · split at e
          · cases e
          · split at e <;> cases e
    split
    · rename_i n e; exact absurd e (this n)
    · rfl
theorem stepF_r0 {op : Str} {a : Str} {i : Nat} {x : FX} (h : regOf a = none) : stepF op 114 a i x = none := by
  unfold stepF; rw [if_pos rfl, regI_none h, if_pos (by decide)]
theorem stepF_r1 {op : Str} {a : Str} {i n : Nat} {x : FX} (h : regOf a = some n) : stepF op 114 a i x = some (x.1.set i n, x.2) := by
  unfold stepF; rw [if_pos rfl, regI_some h, if_neg (by omega)]

theorem numO_lt {s : Str} {n : Nat} (h : numO s = .num n) : n < 4294967296 := by
  unfold numO at h
  split at h
  · rename_i m hm
    cases h
    unfold charOf at hm
    split at hm
    · rename_i a c b
      split at hm
      · cases hm; have := c.toNat_lt; omega
      · cases hm
    · cases hm
  · split at h
    · rename_i c d _
      split at h
      · rename_i m hm
        cases h
        unfold hexN at hm
        split at hm
        · rename_i hl
          have := hexGo_lt hm
          have hp : 16 ^ (c :: d).length ≤ 16 ^ 8 := Nat.pow_le_pow_right (by decide) hl.2
          omega
        · cases hm
      · cases h
    · split at h
      · rename_i m hm
        cases h
        unfold parseN at hm
        split at hm
        · cases hm
        · split at hm
          · split at hm
            · cases hm
            · cases hm; omega
          · cases hm
      · cases h
      · cases h

inductive Kind (a : Str) : Prop where
  | num (n : Nat) (h : n < 4294967296) (h1 : operandA a = .num n) (h2 : numO a = .num n)
  | great (h1 : operandA a = .great) (h2 : numO a = .great)
  | lab (h1 : operandA a = .lab) (h0 : a ≠ []) (h2 : numV (numO a) = numV .other) (h3 : regI a < 0) (h4 : isLabel a = true)
  | reg (n : Nat) (h1 : operandA a = .reg n) (h2 : numV (numO a) = numV .other) (h3 : ¬ regI a < 0)
  | other (h1 : operandA a = .other) (h2 : numV (numO a) = numV .other) (h4 : isLabel a = false)

theorem numV_num {x : Opd} {n : Nat} (h : numV x = numV (.num n)) : x = .num n := by
  cases x with
  | num m => simp [numV] at h; rw [show m = n by omega]
  | _ => simp [numV] at h
theorem numV_great {x : Opd} (h : numV x = numV .great) : x = .great := by
  cases x <;> simp [numV] at h
  rfl
theorem kind (a : Str) : Kind a := by
  have hs := num_same a
  cases ho : operandA a with
  | num n =>
    rw [ho] at hs
    have := numV_num hs
    exact .num n (numO_lt this) ho this
  | great =>
    rw [ho] at hs
    exact .great ho (numV_great hs)
  | lab =>
    rw [ho] at hs
    have hr : regOf a = none := by rw [← operand_regOf]; unfold regOf?; rw [ho]
    have hl : isLabel a = true := by
      unfold operandA at ho
      rw [hr] at ho
      simp only at ho
      split at ho
      · cases ho
      · cases ho
      · unfold restOpd at ho
        split at ho
        · split at ho <;> cases ho
        · split at ho
          · cases ho
          · split at ho
            · rename_i h; exact h
            · cases ho
    refine .lab ho ?_ hs (by rw [regI_none hr]; decide) hl
    rintro rfl
    simp [isLabel] at hl
  | reg n =>
    rw [ho] at hs
    have hr : regOf a = some n := by rw [← operand_regOf]; unfold regOf?; rw [ho]
    exact .reg n ho hs (by rw [regI_some hr]; omega)
  | other =>
    rw [ho] at hs
    refine .other ho hs ?_
    unfold operandA at ho
    split at ho
    · cases ho
    · split at ho
      · cases ho
      · cases ho
      · unfold restOpd at ho
        split at ho
        · simp [isLabel, letter, small]
        · split at ho
          · cases ho
          · split at ho
            · cases ho
            · rename_i h; simpa using h

theorem stepF_no {op : Str} {c : UInt8} {a : Str} {i : Nat} {x : FX} (hc : c ≠ 114) (h : numV (numO a) = numV .other) : stepF op c a i x = if c = 110 ∧ regI a < 0 ∧ isLabel a = true then some (x.1, x.2.1, a) else none := by
  unfold stepF
  rw [if_neg hc]
  cases hn : numO a <;> first | rfl | (rw [hn] at h; simp [numV] at h)
theorem stepF_num {op : Str} {c : UInt8} {a : Str} {i n : Nat} {x : FX} (hc : c ≠ 114) (h : numO a = .num n) : stepF op c a i x = some (x.1.set i n, x.2.1 || decide (mostW op < n), x.2.2) := by
  unfold stepF; rw [if_neg hc, h]
theorem stepF_great {op : Str} {c : UInt8} {a : Str} {i : Nat} {x : FX} (hc : c ≠ 114) (h : numO a = .great) : stepF op c a i x = some (x.1.set i 0, true, x.2.2) := by
  unfold stepF; rw [if_neg hc, h]

theorem opNum_word : opNum wordW = 0 := by decide +kernel
theorem opNum_data : opNum dataW = 0 := by decide +kernel

theorem put_dir {line : Nat} {st : Sta} {op : Str} {args : List Str} (hop : op = wordW ∨ op = dataW) (hc : st.code.length ≤ 16384) : putA line st op args = dirA st (decide (op = dataW)) args := by
  have hsh : shapeS op = [119] := by unfold shapeS; rw [if_pos hop]
  unfold putA
  rw [hsh, if_neg (by decide)]
  match args with
  | [] => rfl
  | a :: b :: r => rw [if_pos (.inl (by simp))]; rfl
  | [a] =>
    rw [show dirA st (decide (op = dataW)) [a] = (if decide (op = dataW) = true ∧ st.hasD = true then Res.err 1 else match operandA a with | .num v => if decide (op = dataW) = true then (if 32768 < v then .err 2 else .ok { st with data := v, hasD := true }) else addW st v | .great => .err 2 | _ => .err 1) from rfl]
    by_cases hd : op = dataW ∧ st.hasD = true
    · rw [if_pos (.inr hd), if_pos ⟨by simp [hd.1], hd.2⟩]
    rw [if_neg (by simp only [List.length_cons, List.length_nil, ne_eq, not_true_eq_false, false_or]; exact hd), if_neg (by simpa using hd)]
    have hno : ∀ x : Opd, operandA a = x → numV (numO a) = numV .other → foldF op [119] [a] 0 ([0, 0, 0], false, []) = none := fun x _ h => by
      simp only [foldF]; rw [stepF_no (by decide) h, if_neg (by simp)]; rfl
    cases kind a with
    | num n h h1 h2 =>
      have : foldF op [119] [a] 0 ([0, 0, 0], false, []) = some ([(n : Int), 0, 0], decide (mostW op < n), []) := by
        simp only [foldF]; rw [stepF_num (by decide) h2]; simp
      rw [this, h1]
      simp only [endA]
      rcases hop with rfl | rfl
      · have hm : ¬ mostW wordW < n := by unfold mostW; rw [if_pos rfl]; omega
        have hwd : ¬ wordW = dataW := by decide
        simp only [hm, hwd, decide_false, Bool.false_eq_true, ne_eq, not_false_eq_true, true_and, false_or, if_false, if_true, addW, addX, useX]
        by_cases h6 : st.code.length = 16384
        · rw [if_pos h6, if_pos (by omega)]
        · rw [if_neg h6, if_neg (by omega)]; simp
      · have hm : mostW dataW = 32768 := rfl
        simp only [hm, ne_eq, not_true_eq_false, false_and, or_false, decide_eq_true_eq, decide_true, if_true]
        by_cases h6 : 32768 < n
        · rw [if_pos h6, if_pos h6]
        · rw [if_neg h6, if_neg h6]; simp
    | great h1 h2 =>
      have : foldF op [119] [a] 0 ([0, 0, 0], false, []) = some ([0, 0, 0], true, []) := by
        simp only [foldF]; rw [stepF_great (by decide) h2]; simp
      rw [this, h1]
      simp [endA]
    | lab h1 h0 h2 h3 h4 => rw [hno _ h1 h2, h1]
    | reg n h1 h2 h3 => rw [hno _ h1 h2, h1]
    | other h1 h2 h4 => rw [hno _ h1 h2, h1]

end Go.Proofs.YtifciocionlciaaGreatDoor

namespace Go.Proofs.YtifciocionlciaaGreatDoor
open Go Go.Am Go.Asm

theorem knownN_of {k : Nat} (h : k < 28) (h0 : k ≠ 0) : knownN k = true := by unfold knownN; simp; omega

section
variable {op : Str} {line : Nat} {st : Sta}
theorem end_bad {f : List Int} {l : Str} : endA line st op (f, true, l) = .err 2 := by unfold endA; rw [if_pos (.inl rfl)]
theorem useX_code {l : Str} : (useX st line l).code = st.code := by unfold useX; split <;> rfl
theorem end_add (h1 : op ≠ wordW) (h2 : op ≠ dataW) (hc : st.code.length ≤ 16384) {f : List Int} {l : Str} {w : Nat} (hw : encX (opNum op) (fieldsX (shapeS op) f) = w) : endA line st op (f, false, l) = addW (useX st line l) w := by
  unfold endA addW
  rw [useX_code]
  by_cases h : st.code.length = 16384
  · rw [if_pos (.inr ⟨h2, h⟩), if_pos (by omega)]
  · rw [if_neg (by simp [h]), if_neg h2, if_neg h1, if_neg (by omega)]
    simp only [hw, addX, useX_code]
theorem tail_num (h1 : op ≠ wordW) (h2 : op ≠ dataW) (hc : st.code.length ≤ 16384) {b : Str} {i : Nat} {f : List Int} {rs : List Nat} (hw0 : encX (opNum op) (fieldsX (shapeS op) f) = wordR (opNum op) rs 0)
    (hw : ∀ c : Nat, c ≤ 65535 → encX (opNum op) (fieldsX (shapeS op) (f.set i (c : Int))) = wordR (opNum op) rs c) :
    (match stepF op 110 b i (f, false, []) with | none => Res.err 1 | some x => endA line st op x) =
    (match operandA b with | .lab => addW { st with uses := st.uses ++ [(line, st.code.length, b)] } (wordR (opNum op) rs 0) | .num v => if 65535 < v then .err 2 else addW st (wordR (opNum op) rs v) | .great => .err 2 | _ => .err 1) := by
  have hm : mostW op = 65535 := by unfold mostW; rw [if_neg h1, if_neg h2]
  cases kind b with
  | num n h h3 h4 =>
    rw [stepF_num (by decide) h4, h3, hm]
    simp only [Bool.false_or]
    by_cases hn : 65535 < n
    · rw [if_pos hn, decide_eq_true hn]; exact end_bad
    · rw [if_neg hn, decide_eq_false hn]; exact end_add h1 h2 hc (hw n (by omega))
  | great h3 h4 => rw [stepF_great (by decide) h4, h3]; exact end_bad
  | lab h3 h0 h4 h5 h6 =>
    rw [stepF_no (by decide) h4, if_pos ⟨rfl, h5, h6⟩, h3]
    simp only
    rw [end_add h1 h2 hc hw0]
    unfold useX; rw [if_neg h0]
  | reg n h3 h4 h5 => rw [stepF_no (by decide) h4, if_neg (fun h => h5 h.2.1), h3]
  | other h3 h4 h5 => rw [stepF_no (by decide) h4, if_neg (fun h => by rw [h5] at h; simp at h), h3]

theorem regsOf_nil : regsOf [] = some [] := rfl
theorem regsOf_none {a : Str} {l : List Str} (h : regOf a = none) : regsOf (a :: l) = none := by unfold regsOf; rw [operand_regOf, h]; rfl
theorem regsOf_some {a : Str} {l : List Str} {n : Nat} (h : regOf a = some n) : regsOf (a :: l) = (regsOf l).map (n :: ·) := by
  conv => lhs; unfold regsOf
  rw [operand_regOf, h]; rfl
theorem encX_ok {k : Nat} {a b c : Nat} (hr : rightI k a b c = true) : encX k ((a : Int), (b : Int), (c : Int)) = word k a b c := by
  unfold encX; rw [if_pos hr]; rfl

theorem put_ins (h1 : op ≠ wordW) (h2 : op ≠ dataW) (h0 : opNum op ≠ 0) (hc : st.code.length ≤ 16384) {args : List Str} : putA line st op args = insA line st (opNum op) args := by
  have hle := opNum_le op
  have hkn := knownN_of (k := opNum op) (by omega) h0
  have hsh : shapeS op = shI (opNum op) := by unfold shapeS; rw [if_neg (by simp [h1, h2]), if_neg h0]
  have hf : fieldsX (shapeS op) = fieldsX (shI (opNum op)) := by rw [hsh]
  have hend := fun (f : List Int) (w : Nat) => @end_add op line st h1 h2 hc f [] w
  have ht := @tail_num op line st h1 h2 hc
  rw [hsh] at hend ht
  unfold putA
  rw [hsh]
  clear hsh hf
  generalize hk : opNum op = k at *
  rcases shape_cases k with s | s | s | s | s | s | s
  · have e : shI k = [114, 110] := by unfold shI; rw [s]; rfl
    have hr : nRegs k = 1 := by unfold nRegs; rw [s]; rfl
    have hn : nArgs k = 2 := by unfold nArgs; rw [hr, s]; rfl
    rw [e] at hend ht ⊢
    rw [if_neg (by decide)]
    unfold insA
    rw [hr, hn]
    by_cases hl : args.length = 2
    · rw [if_neg (by simp [hl, h2]), if_neg (by simp [hl])]
      match args, hl with
      | [a, b], _ =>
        simp only [foldF, List.take_succ_cons, List.take_zero]
        cases ha : regOf a with
        | none => simp only [stepF_r0 ha, regsOf_none ha, Option.bind_none, Option.bind_some, Option.map_none]
        | some na =>
          have ga := regOf_le ha
          rw [stepF_r1 ha]
          simp only [Option.bind_some, List.set_cons_zero, List.set_cons_succ, Nat.zero_add, Nat.reduceAdd]
          simp only [regsOf_some ha, regsOf_nil, Option.map_some]
          simp only [s, if_true]
          refine Eq.trans ?_ (ht (b := b) (i := 1) (f := [(na : Int), 0, 0]) (rs := [na]) ?_ ?_)
          · cases stepF op 110 b 1 ([(na : Int), 0, 0], false, []) <;> rfl
          · show encX k ((na : Int), ((0 : Nat) : Int), ((0 : Nat) : Int)) = _
            rw [encX_ok (by simp [rightI, hkn, s, inW, mostC] <;> omega)]
            simp [wordR, s]
          · intro c hc
            show encX k ((na : Int), ((0 : Nat) : Int), (c : Int)) = _
            rw [encX_ok (by simp [rightI, hkn, s, inW, mostC] <;> omega)]
            simp [wordR, s]
    · rw [if_pos (.inl (by simpa using hl)), if_pos hl]
  · have e : shI k = [114, 114] := by unfold shI; rw [s]; rfl
    have hr : nRegs k = 2 := by unfold nRegs; rw [s]; rfl
    have hn : nArgs k = 2 := by unfold nArgs; rw [hr, s]; rfl
    rw [e] at hend ht ⊢
    rw [if_neg (by decide)]
    unfold insA
    rw [hr, hn]
    by_cases hl : args.length = 2
    · rw [if_neg (by simp [hl, h2]), if_neg (by simp [hl])]
      match args, hl with
      | [a, b], _ =>
        simp only [foldF, List.take_succ_cons, List.take_zero]
        cases ha : regOf a with
        | none => simp only [stepF_r0 ha, regsOf_none ha, Option.bind_none, Option.bind_some, Option.map_none]
        | some na =>
          have ga := regOf_le ha
          rw [stepF_r1 ha]
          simp only [Option.bind_some, List.set_cons_zero, List.set_cons_succ, Nat.zero_add, Nat.reduceAdd]
          cases hb : regOf b with
          | none => simp only [stepF_r0 hb, regsOf_some ha, regsOf_none hb, Option.bind_none, Option.bind_some, Option.map_none]
          | some nb =>
            have gb := regOf_le hb
            rw [stepF_r1 hb]
            simp only [Option.bind_some, List.set_cons_zero, List.set_cons_succ, Nat.zero_add, Nat.reduceAdd]
            simp only [regsOf_some ha, regsOf_some hb, regsOf_nil, Option.map_some]
            rw [if_neg (by rw [s]; decide)]
            refine hend [(na : Int), (nb : Int), 0] (wordR k [na, nb] 0) ?_
            show encX k ((na : Int), (nb : Int), ((0 : Nat) : Int)) = _
            rw [encX_ok (by simp [rightI, hkn, s, inW, mostC] <;> omega)]
            simp [wordR, s]
    · rw [if_pos (.inl (by simpa using hl)), if_pos hl]
  · have e : shI k = [114, 114, 114] := by unfold shI; rw [s]; rfl
    have hr : nRegs k = 3 := by unfold nRegs; rw [s]; rfl
    have hn : nArgs k = 3 := by unfold nArgs; rw [hr, s]; rfl
    rw [e] at hend ht ⊢
    rw [if_neg (by decide)]
    unfold insA
    rw [hr, hn]
    by_cases hl : args.length = 3
    · rw [if_neg (by simp [hl, h2]), if_neg (by simp [hl])]
      match args, hl with
      | [a, b, d], _ =>
        simp only [foldF, List.take_succ_cons, List.take_zero]
        cases ha : regOf a with
        | none => simp only [stepF_r0 ha, regsOf_none ha, Option.bind_none, Option.bind_some, Option.map_none]
        | some na =>
          have ga := regOf_le ha
          rw [stepF_r1 ha]
          simp only [Option.bind_some, List.set_cons_zero, List.set_cons_succ, Nat.zero_add, Nat.reduceAdd]
          cases hb : regOf b with
          | none => simp only [stepF_r0 hb, regsOf_some ha, regsOf_none hb, Option.bind_none, Option.bind_some, Option.map_none]
          | some nb =>
            have gb := regOf_le hb
            rw [stepF_r1 hb]
            simp only [Option.bind_some, List.set_cons_zero, List.set_cons_succ, Nat.zero_add, Nat.reduceAdd]
            cases hd : regOf d with
            | none => simp only [stepF_r0 hd, regsOf_some ha, regsOf_some hb, regsOf_none hd, Option.bind_none, Option.bind_some, Option.map_none]
            | some nd =>
              have gd := regOf_le hd
              rw [stepF_r1 hd]
              simp only [Option.bind_some, List.set_cons_zero, List.set_cons_succ, Nat.zero_add, Nat.reduceAdd]
              simp only [regsOf_some ha, regsOf_some hb, regsOf_some hd, regsOf_nil, Option.map_some]
              rw [if_neg (by rw [s]; decide)]
              refine hend [(na : Int), (nb : Int), (nd : Int)] (wordR k [na, nb, nd] 0) ?_
              show encX k ((na : Int), (nb : Int), (nd : Int)) = _
              rw [encX_ok (by simp [rightI, hkn, s, inW, mostC] <;> omega)]
              simp [wordR, s]
    · rw [if_pos (.inl (by simpa using hl)), if_pos hl]
  · have e : shI k = [114, 114, 110] := by unfold shI; rw [s]; rfl
    have hr : nRegs k = 2 := by unfold nRegs; rw [s]; rfl
    have hn : nArgs k = 3 := by unfold nArgs; rw [hr, s]; rfl
    rw [e] at hend ht ⊢
    rw [if_neg (by decide)]
    unfold insA
    rw [hr, hn]
    by_cases hl : args.length = 3
    · rw [if_neg (by simp [hl, h2]), if_neg (by simp [hl])]
      match args, hl with
      | [a, b, d], _ =>
        simp only [foldF, List.take_succ_cons, List.take_zero]
        cases ha : regOf a with
        | none => simp only [stepF_r0 ha, regsOf_none ha, Option.bind_none, Option.bind_some, Option.map_none]
        | some na =>
          have ga := regOf_le ha
          rw [stepF_r1 ha]
          simp only [Option.bind_some, List.set_cons_zero, List.set_cons_succ, Nat.zero_add, Nat.reduceAdd]
          cases hb : regOf b with
          | none => simp only [stepF_r0 hb, regsOf_some ha, regsOf_none hb, Option.bind_none, Option.bind_some, Option.map_none]
          | some nb =>
            have gb := regOf_le hb
            rw [stepF_r1 hb]
            simp only [Option.bind_some, List.set_cons_zero, List.set_cons_succ, Nat.zero_add, Nat.reduceAdd]
            simp only [regsOf_some ha, regsOf_some hb, regsOf_nil, Option.map_some]
            simp only [s, if_true]
            refine Eq.trans ?_ (ht (b := d) (i := 2) (f := [(na : Int), (nb : Int), 0]) (rs := [na, nb]) ?_ ?_)
            · cases stepF op 110 d 2 ([(na : Int), (nb : Int), 0], false, []) <;> rfl
            · show encX k ((na : Int), (nb : Int), ((0 : Nat) : Int)) = _
              rw [encX_ok (by simp [rightI, hkn, s, inW, mostC] <;> omega)]
              simp [wordR, s]
            · intro c hc
              show encX k ((na : Int), (nb : Int), (c : Int)) = _
              rw [encX_ok (by simp [rightI, hkn, s, inW, mostC] <;> omega)]
              simp [wordR, s]
    · rw [if_pos (.inl (by simpa using hl)), if_pos hl]
  · have e : shI k = [110] := by unfold shI; rw [s]; rfl
    have hr : nRegs k = 0 := by unfold nRegs; rw [s]; rfl
    have hn : nArgs k = 1 := by unfold nArgs; rw [hr, s]; rfl
    rw [e] at hend ht ⊢
    rw [if_neg (by decide)]
    unfold insA
    rw [hr, hn]
    by_cases hl : args.length = 1
    · rw [if_neg (by simp [hl, h2]), if_neg (by simp [hl])]
      match args, hl with
      | [a], _ =>
        simp only [foldF, List.take_succ_cons, List.take_zero]
        simp only [regsOf]
        simp only [s, if_true]
        refine Eq.trans ?_ (ht (b := a) (i := 0) (f := [0, 0, 0]) (rs := []) ?_ ?_)
        · cases stepF op 110 a 0 ([0, 0, 0], false, []) <;> rfl
        · show encX k (((0 : Nat) : Int), ((0 : Nat) : Int), ((0 : Nat) : Int)) = _
          rw [encX_ok (by simp [rightI, hkn, s, inW, mostC] <;> omega)]
          simp [wordR, s]
        · intro c hc
          show encX k (((0 : Nat) : Int), ((0 : Nat) : Int), (c : Int)) = _
          rw [encX_ok (by simp [rightI, hkn, s, inW, mostC] <;> omega)]
          simp [wordR, s]
    · rw [if_pos (.inl (by simpa using hl)), if_pos hl]
  · have e : shI k = [114] := by unfold shI; rw [s]; rfl
    have hr : nRegs k = 1 := by unfold nRegs; rw [s]; rfl
    have hn : nArgs k = 1 := by unfold nArgs; rw [hr, s]; rfl
    rw [e] at hend ht ⊢
    rw [if_neg (by decide)]
    unfold insA
    rw [hr, hn]
    by_cases hl : args.length = 1
    · rw [if_neg (by simp [hl, h2]), if_neg (by simp [hl])]
      match args, hl with
      | [a], _ =>
        simp only [foldF, List.take_succ_cons, List.take_zero]
        cases ha : regOf a with
        | none => simp only [stepF_r0 ha, regsOf_none ha, Option.bind_none, Option.bind_some, Option.map_none]
        | some na =>
          have ga := regOf_le ha
          rw [stepF_r1 ha]
          simp only [Option.bind_some, List.set_cons_zero, List.set_cons_succ, Nat.zero_add, Nat.reduceAdd]
          simp only [regsOf_some ha, regsOf_nil, Option.map_some]
          rw [if_neg (by rw [s]; decide)]
          refine hend [(na : Int), 0, 0] (wordR k [na] 0) ?_
          show encX k ((na : Int), ((0 : Nat) : Int), ((0 : Nat) : Int)) = _
          rw [encX_ok (by simp [rightI, hkn, s, inW, mostC] <;> omega)]
          simp [wordR, s]
    · rw [if_pos (.inl (by simpa using hl)), if_pos hl]
  · have e : shI k = [] := by unfold shI; rw [s]; rfl
    have hr : nRegs k = 0 := by unfold nRegs; rw [s]; rfl
    have hn : nArgs k = 0 := by unfold nArgs; rw [hr, s]; rfl
    rw [e] at hend ht ⊢
    rw [if_neg (by decide)]
    unfold insA
    rw [hr, hn]
    by_cases hl : args.length = 0
    · rw [if_neg (by simp [hl, h2]), if_neg (by simp [hl])]
      match args, hl with
      | [], _ =>
        simp only [foldF, List.take_succ_cons, List.take_zero]
        simp only [regsOf]
        rw [if_neg (by rw [s]; decide)]
        refine hend [0, 0, 0] (wordR k [] 0) ?_
        show encX k (((0 : Nat) : Int), ((0 : Nat) : Int), ((0 : Nat) : Int)) = _
        rw [encX_ok (by simp [rightI, hkn, s, inW, mostC] <;> omega)]
        simp [wordR, s]
    · rw [if_pos (.inl (by simpa using hl)), if_pos hl]

theorem put_same (h : op ≠ []) (hc : st.code.length ≤ 16384) {args : List Str} : putA line st op args = Asm.opA line st op args := by
  unfold Asm.opA
  rw [if_neg h]
  by_cases h1 : op = wordW
  · rw [if_pos h1, put_dir (.inl h1) hc, h1]; rfl
  by_cases h2 : op = dataW
  · rw [if_neg h1, if_pos h2, put_dir (.inr h2) hc, h2]; rfl
  rw [if_neg h1, if_neg h2]
  by_cases h0 : opNum op = 0
  · rw [if_pos h0]
    unfold putA
    rw [show shapeS op = [63] by unfold shapeS; rw [if_neg (by simp [h1, h2]), if_pos h0], if_pos rfl]
  · rw [if_neg h0]; exact put_ins h1 h2 h0 hc
end
end Go.Proofs.YtifciocionlciaaGreatDoor

namespace Go.Proofs.YtifciocionlciaaGreatDoor
open Go Go.Am Go.Asm

def useR (x : Nat × Nat × Str) : List C := [.d (.str x.2.2), .d (.int .i64 x.1), .d (.int .i64 x.2.1)]
def codeC (code : List Nat) : List C := code.map fun n => .d (.int .u32 (n : Nat))
/-- What has been made lies at 20, its code at 3172 or 3223, its labels at 57, their places at 69, its uses at 3157. -/
structure Made (gr : Nat) (st : Sta) (g : Nat → Nat) (ob : Obs) : Prop where
  gen : g 20 = gr
  obj : ∃ cc lc pc uc, ob 20 = some [cc, .d (.int .i64 (st.data : Nat)), lc, pc, uc, .d (.bool st.hasD)] ∧
    ((st.code = [] ∧ cc = .d .nsl) ∨ (st.code ≠ [] ∧ ∃ ci, (ci = 3172 ∨ ci = 3223) ∧ cc = .osl ci (g ci) 1 0 st.code.length ∧ ob ci = some (codeC st.code))) ∧
    ((st.labs = [] ∧ lc = .d .nsl ∧ pc = .d .nsl) ∨ (st.labs ≠ [] ∧ lc = .osl 57 (g 57) 1 0 st.labs.length ∧ pc = .osl 69 (g 69) 1 0 st.labs.length ∧ ob 57 = some (st.labs.map fun p => .d (.str p.1)) ∧ ob 69 = some (st.labs.map fun p => .d (.int .i64 (p.2 : Nat))))) ∧
    ((st.uses = [] ∧ uc = .d .nsl) ∨ (st.uses ≠ [] ∧ uc = .osl 3157 (g 3157) 3 0 st.uses.length ∧ ob 3157 = some (st.uses.flatMap useR)))

theorem Made.of {gr : Nat} {st : Sta} {g g' : Nat → Nat} {ob ob' : Obs} (h : Made gr st g ob) (hg : ∀ i, i = 20 ∨ i = 57 ∨ i = 69 ∨ i = 3157 ∨ i = 3172 ∨ i = 3223 → g' i = g i) (ho : ∀ i, i = 20 ∨ i = 57 ∨ i = 69 ∨ i = 3157 ∨ i = 3172 ∨ i = 3223 → ob' i = ob i) : Made gr st g' ob' := by
  obtain ⟨h1, cc, lc, pc, uc, h2, hc, hl, hu⟩ := h
  refine ⟨by rw [hg 20 (by decide)]; exact h1, cc, lc, pc, uc, by rw [ho 20 (by decide)]; exact h2, ?_, ?_, ?_⟩
  · rcases hc with hc | ⟨c0, ci, c1, c2, c3⟩
    · exact .inl hc
    · refine .inr ⟨c0, ci, c1, ?_, ?_⟩
      · rw [hg ci (by omega)]; exact c2
      · rw [ho ci (by omega)]; exact c3
  · rw [hg 57 (by decide), hg 69 (by decide), ho 57 (by decide), ho 69 (by decide)]; exact hl
  · rw [hg 3157 (by decide), ho 3157 (by decide)]; exact hu

def placeI (labs : List (Str × Nat)) (s : Str) : Int := match Asm.placeOf labs s with | some p => (p : Int) | none => -1

theorem placeOf_cons {l : Str × Nat} {labs : List (Str × Nat)} {s : Str} : Asm.placeOf (l :: labs) s = if l.1 = s then some l.2 else Asm.placeOf labs s := by
  unfold Asm.placeOf
  rw [List.find?_cons]
  by_cases h : l.1 = s
  · simp [h]
  · simp [h]

set_option maxHeartbeats 4000000 in
theorem place_A {gr : Nat} {st : Sta} {g : Nat → Nat} {ob : Obs} (h : Made gr st g ob) (s : Str) (hn : st.labs.length ≤ 1000000) :
    FunR Tryz.prog 15 [.one (.ptr 20 gr 0), sv s] g ob (fun r g' ob' => r = iv .i64 (placeI st.labs s) ∧ g' = g ∧ ob' = ob) := by
  refine fun_of_wp 7000 Tt_ok mixed Tryz.func15 rfl (by rfl) [4] rfl (by kernel_rfl) (by simp [Tryz.ntmps15]) ?_
  obtain ⟨hg, cc, lc, pc, uc, h20, hc, hl, hu⟩ := h
  simp (config := { maxSteps := 1000000 }) only [go_sem,↓reduceIte]
  refine loop_introB (fun n s' => ∃ k : Nat, n + k = st.labs.length ∧ s'.gen = g ∧ s'.obj = ob ∧ s'.f 0 = .one (.ptr 20 gr 0) ∧ s'.f 1 = sv s ∧ s'.f 5 = iv .i64 k ∧ placeI st.labs s = placeI (st.labs.drop k) s) st.labs.length ?_ ?_
  · refine ⟨0, by omega, rfl, rfl, ?_⟩
    simp (config := { maxSteps := 1000000 }) only [go_sem,↓reduceIte,List.drop_zero]
    try trivial
  rintro n f g1 ob1 ⟨k, hk, e1, e2, q0, q1, q5, hp⟩
  obtain rfl : g1 = g := e1
  obtain rfl : ob1 = ob := e2
  simp only at q0 q1 q5
  have hw := wrap_succ (k := k) (by omega)
  rcases hl with ⟨l1, rfl, rfl⟩ | ⟨l1, rfl, rfl, l57, l69⟩
  · have hk0 : k = 0 := by rw [l1] at hk; simp at hk; omega
    subst hk0
    have hz : ((0 : Nat) : Int) = 0 := rfl
    simp (config := { maxSteps := 1000000 }) only [go_sem,↓reduceIte,q0, q1, q5, h20, hg, hz]
    refine retF_at ⟨?_, rfl, rfl⟩
    rw [l1]; rfl
  · by_cases hlt : k < st.labs.length
    · obtain ⟨x, hx⟩ := getq hlt
      have hki : (k : Int) < (st.labs.length : Int) := by omega
      have hk0 : (0 : Int) ≤ (k : Int) := by omega
      have g57 : (st.labs.map fun p => C.d (.str p.1))[k]? = some (.d (.str x.1)) := by rw [List.getElem?_map, hx]; rfl
      have g69 : (st.labs.map fun p => C.d (.int .i64 (p.2 : Nat)))[k]? = some (.d (.int .i64 (x.2 : Nat))) := by rw [List.getElem?_map, hx]; rfl
      have hdr : st.labs.drop k = x :: st.labs.drop (k + 1) := by rw [List.drop_eq_getElem_cons hlt]; congr 1; exact (List.getElem?_eq_some_iff.1 hx).2
      rw [hdr] at hp
      simp (config := { maxSteps := 1000000 }) only [go_sem,↓reduceIte,q0, q1, q5, h20, hg, l57, l69, hki, hk0, g57, g69, Int.toNat_natCast, Nat.mul_one, Nat.zero_add, hw]
      have hpl : placeI (x :: st.labs.drop (k + 1)) s = if x.1 = s then (x.2 : Int) else placeI (st.labs.drop (k + 1)) s := by
        unfold placeI; rw [placeOf_cons]
        by_cases e : x.1 = s
        · rw [if_pos e, if_pos e]
        · rw [if_neg e, if_neg e]
      refine ⟨fun e => ?_, fun e => ?_⟩
      · refine retF_at ⟨?_, rfl, rfl⟩
        rw [hp, hpl, if_pos e]; rfl
      · refine round_endB (n - 1) (by omega) ⟨k + 1, by omega, ?_⟩
        simp (config := { maxSteps := 1000000 }) only [go_sem,↓reduceIte,q0, q1]
        rw [hp, hpl, if_neg e]
    · have hki : ¬ (k : Int) < (st.labs.length : Int) := by omega
      simp (config := { maxSteps := 1000000 }) only [go_sem,↓reduceIte,q0, q1, q5, h20, hg, l57, l69, hki]
      refine retF_at ⟨?_, rfl, rfl⟩
      rw [hp, List.drop_eq_nil_of_le (by omega)]; rfl

theorem shI_len (k : Nat) : (shI k).length ≤ 3 := by
  unfold shI
  rcases shape_cases k with s | s | s | s | s | s | s <;> rw [s] <;> decide
theorem shapeS_len (s : Str) : (shapeS s).length ≤ 3 := by
  unfold shapeS
  split
  · decide
  · split
    · decide
    · exact shI_len _

def OutM (gr : Nat) (R : Res Sta) (g : Nat → Nat) (ob : Obs) (r : AV) (g' : Nat → Nat) (ob' : Obs) : Prop :=
  (∀ i, i < 3000 → g' i = g i) ∧ (∀ i, i ≠ 20 → i < 3000 → ob' i = ob i) ∧ match R with | .ok st => r = iv .i64 0 ∧ Made gr st g' ob' | .err e => r = iv .i64 (e : Nat)

def fC (f : List Int) : List C := f.map fun v => .d (.int .i64 v)

theorem regI_le (a : Str) : regI a ≤ 15 := by
  unfold regI
  split
  · rename_i n h; have := regOf_le h; omega
  · decide
theorem foldF_at {op : Str} {sh : Str} {args : List Str} {k : Nat} {c : UInt8} {a : Str} {x : FX} (hc : sh[k]? = some c) (ha : args[k]? = some a) : foldF op (sh.drop k) (args.drop k) k x = (stepF op c a k x).bind (foldF op (sh.drop (k + 1)) (args.drop (k + 1)) (k + 1)) := by
  obtain ⟨h1, h2⟩ := List.getElem?_eq_some_iff.1 hc
  obtain ⟨h3, h4⟩ := List.getElem?_eq_some_iff.1 ha
  rw [List.drop_eq_getElem_cons h1, List.drop_eq_getElem_cons h3, h2, h4]
  rfl
theorem foldF_end {op : Str} {sh : Str} {args : List Str} {k : Nat} {x : FX} (hc : sh.length ≤ k) : foldF op (sh.drop k) (args.drop k) k x = some x := by
  rw [List.drop_eq_nil_of_le hc]; unfold foldF; rfl

def CodeAt (code : List Nat) (g : Nat → Nat) (ob : Obs) (cc : C) : Prop := (code = [] ∧ cc = .d .nsl) ∨ (code ≠ [] ∧ ∃ ci, (ci = 3172 ∨ ci = 3223) ∧ cc = .osl ci (g ci) 1 0 code.length ∧ ob ci = some (codeC code))
theorem CodeAt.of {code : List Nat} {g g' : Nat → Nat} {ob ob' : Obs} {cc : C} (h : CodeAt code g ob cc) (hg : ∀ i, i = 3172 ∨ i = 3223 → g' i = g i) (ho : ∀ i, i = 3172 ∨ i = 3223 → ob' i = ob i) : CodeAt code g' ob' cc := by
  rcases h with h | ⟨c0, ci, c1, c2, c3⟩
  · exact .inl h
  · exact .inr ⟨c0, ci, c1, by rw [hg ci c1]; exact c2, by rw [ho ci c1]; exact c3⟩
theorem flatR_len (us : List (Nat × Nat × Str)) : (us.flatMap useR).length = us.length * 3 := by
  induction us with
  | nil => rfl
  | cons u us ih => rw [List.flatMap_cons, List.length_append, ih]; simp [useR]; omega
theorem flatR_take (us : List (Nat × Nat × Str)) : (us.flatMap useR).take (us.length * 3) = us.flatMap useR := List.take_of_length_le (Nat.le_of_eq (flatR_len us))
theorem codeC_len (c : List Nat) : (codeC c).length = c.length := List.length_map _
theorem far {i : Nat} (h : i < 3000) : ¬ i = 3010 ∧ ¬ i = 3017 ∧ ¬ i = 3156 ∧ ¬ i = 3157 ∧ ¬ i = 3171 ∧ ¬ i = 3172 ∧ ¬ i = 3222 ∧ ¬ i = 3223 := by omega
theorem Enc_X (k : Nat) (a b c : Int) : PureR Tryz.prog 35 [instV k a b c] (fun r => ∃ e : Nat, r = .tup [iv .u32 (encX k (a, b, c) : Nat), iv .i64 e]) := by
  refine (EncodeR_A k a b c).mono ?_
  rintro _ rfl
  unfold encX
  by_cases h : rightI k a b c = true
  · rw [if_pos h, if_pos h]; exact ⟨0, rfl⟩
  · rw [if_neg h, if_neg h]; exact ⟨1, rfl⟩
theorem endA_data {line : Nat} {st : Sta} {op xl : Str} {a b d : Nat} (h : op = dataW) : endA line st op ([(a : Int), (b : Int), (d : Int)], false, xl) = .ok { st with data := a, hasD := true } := by
  unfold endA; simp [h]
theorem endA_full {line : Nat} {st : Sta} {op xl : Str} {f : List Int} (h : op ≠ dataW) (hl : st.code.length = 16384) : endA line st op (f, false, xl) = .err 2 := by
  unfold endA; simp [h, hl]
theorem endA_word {line : Nat} {st : Sta} {op xl : Str} {a b d : Nat} (h : op = wordW) (hl : ¬ st.code.length = 16384) : endA line st op ([(a : Int), (b : Int), (d : Int)], false, xl) = .ok (addX (useX st line xl) a) := by
  have : ¬ wordW = dataW := by decide
  unfold endA; simp [h, hl, this]
theorem endA_ins {line : Nat} {st : Sta} {op xl : Str} {f : List Int} (h : op ≠ wordW) (h2 : op ≠ dataW) (hl : ¬ st.code.length = 16384) : endA line st op (f, false, xl) = .ok (addX (useX st line xl) (encX (opNum op) (fieldsX (shapeS op) f))) := by
  unfold endA; simp [h, h2, hl]

end Go.Proofs.YtifciocionlciaaGreatDoor

namespace Go.Proofs.YtifciocionlciaaGreatDoor
open Go Go.Am Go.Asm

set_option maxHeartbeats 16000000 in
theorem put_A {gr : Nat} {st : Sta} {g : Nat → Nat} {ob : Obs} (h : Made gr st g ob) (op : Str) (args : List Str) (line : Nat) (hop : op.length ≤ 1000000) (hal : args.length ≤ 1000000) (hargs : ∀ a ∈ args, a.length ≤ 1000000) (hcl : st.code.length ≤ 16384) (hul : st.uses.length ≤ 1000000) :
    FunR Tryz.prog 16 [.one (.ptr 20 gr 0), sv op, .one (.d (.sl (args.map fun w => [D.str w]))), iv .i64 line] g ob (OutM gr (putA line st op args) g ob) := by
  refine fun_of_wp 3000 Tt_ok mixed Tryz.func16 rfl (by rfl) [8] rfl (by kernel_rfl) (by simp [Tryz.ntmps16]) ?_
  have h0 := h
  obtain ⟨hg, cc, lc, pc, uc, h20, hc, hl, hu⟩ := h
  obtain ⟨P, hP⟩ : ∃ P, putA line st op args = P := ⟨_, rfl⟩
  rw [hP]
  unfold putA at hP
  simp (config := { maxSteps := 1000000 }) only [go_sem,↓reduceIte]
  refine hook_pure rfl (by simp (config := { maxSteps := 1000000 }) only [go_sem,↓reduceIte]; exact Shape_A op) (by simp (config := { maxSteps := 1000000 }) only [go_sem,↓reduceIte]; rfl) ?_
  rintro _ rfl
  have hsl := shapeS_len op
  generalize hsh : shapeS op = sh at hsl hP ⊢
  by_cases e1 : sh = [63]
  · rw [if_pos e1] at hP
    subst hP
    simp (config := { maxSteps := 1000000 }) only [go_sem,↓reduceIte,e1]
    exact retF_at ⟨(fun i hi => by (try simp only [upd]); repeat (rw [if_neg (by omega)]); try rfl), fun i h5 hi => by (try simp only [upd]); repeat (rw [if_neg (by omega)]), rfl⟩
  rw [if_neg e1] at hP
  by_cases e2 : args.length = sh.length
  case neg =>
    have e2i : ¬ (args.length : Int) = (sh.length : Int) := by omega
    rw [if_pos (.inl e2)] at hP
    subst hP
    simp (config := { maxSteps := 1000000 }) only [go_sem,↓reduceIte,e1, e2i, List.length_map]
    exact retF_at ⟨(fun i hi => by (try simp only [upd]); repeat (rw [if_neg (by omega)]); try rfl), fun i h5 hi => by (try simp only [upd]); repeat (rw [if_neg (by omega)]), rfl⟩
  have e2i : (args.length : Int) = (sh.length : Int) := by omega
  have hdl : dataW = [46, 100, 97, 116, 97] := rfl
  by_cases e3 : op = dataW ∧ st.hasD = true
  · rw [if_pos (.inr e3)] at hP
    subst hP
    have e3a : op = [46, 100, 97, 116, 97] := e3.1
    simp (config := { maxSteps := 1000000 }) only [go_sem,↓reduceIte,e1, e2i, e3a, List.length_map, h20, hg, e3.2]
    exact retF_at ⟨(fun i hi => by (try simp only [upd]); repeat (rw [if_neg (by omega)]); try rfl), fun i h5 hi => by (try simp only [upd]); repeat (rw [if_neg (by omega)]), rfl⟩
  rw [if_neg (by rintro (h | h); exact h e2; exact e3 h)] at hP
  by_cases e4 : op = dataW
  case' pos =>
    have e4a : (op = [46, 100, 97, 116, 97]) = True := eq_true e4
    have e6a : (op = [46, 119, 111, 114, 100]) = False := eq_false (by rw [e4]; decide)
    have hmost : ∀ v : Nat, ((32768 : Int) < (v : Int)) = (mostW op < v) := fun v => by rw [show mostW op = 32768 by rw [e4]; rfl]; exact propext (by omega)
    have e5 : st.hasD = false := by cases hd : st.hasD with | false => rfl | true => exact absurd ⟨e4, hd⟩ e3
    simp (config := { maxSteps := 1000000 }) only [go_sem,↓reduceIte,e1, e2i, e4a, List.length_map, h20, hg, e5]
  case' neg =>
    have e4a : (op = [46, 100, 97, 116, 97]) = False := eq_false e4
    by_cases e6 : op = wordW
    case' pos =>
      have e6a : (op = [46, 119, 111, 114, 100]) = True := eq_true e6
      have hmost : ∀ v : Nat, ((4294967295 : Int) < (v : Int)) = (mostW op < v) := fun v => by rw [show mostW op = 4294967295 by rw [e6]; rfl]; exact propext (by omega)
    case' neg =>
      have e6a : (op = [46, 119, 111, 114, 100]) = False := eq_false e6
      have hmost : ∀ v : Nat, ((65535 : Int) < (v : Int)) = (mostW op < v) := fun v => by rw [show mostW op = 65535 by unfold mostW; rw [if_neg e6, if_neg e4]]; exact propext (by omega)
    all_goals simp (config := { maxSteps := 1000000 }) only [go_sem,↓reduceIte,e1, e2i, e4a, List.length_map, h20, hg]
  all_goals
    clear e1 e2i h20 hc hl hu hg
    generalize hgA : nxC 68 (g 3010) = gA
    refine loop_introB (fun n s' => ∃ (k : Nat) (x : FX), n + k = sh.length ∧ foldF op sh args 0 ([0, 0, 0], false, []) = foldF op (sh.drop k) (args.drop k) k x ∧ x.1.length = 3 ∧ (∀ v ∈ x.1, 0 ≤ v ∧ v < 4294967296) ∧
      (∀ i, i ≠ 3010 → s'.gen i = g i) ∧ s'.gen 3010 = gA ∧ (∀ i, i ≠ 3010 → s'.obj i = ob i) ∧ s'.obj 3010 = some (fC x.1) ∧ s'.f 0 = .one (.ptr 20 gr 0) ∧ s'.f 1 = sv op ∧ s'.f 2 = .one (.d (.sl (args.map fun w => [D.str w]))) ∧ s'.f 3 = iv .i64 line ∧ s'.f 9 = sv sh ∧
      s'.f 10 = .one (.ptr 3010 gA 0) ∧ s'.f 11 = bv x.2.1 ∧ s'.f 12 = sv x.2.2 ∧ s'.f 13 = iv .i64 k) sh.length ?_ ?_
    · refine ⟨0, ([0, 0, 0], false, []), by omega, rfl, rfl, by decide, fun i hi => ?_, ?_⟩
      · simp [upd, hi]
      simp (config := { maxSteps := 1000000 }) only [go_sem,↓reduceIte,hgA]
      exact ⟨fun i hi => by simp [upd, hi], rfl⟩
    clear hgA
    rintro n f g1 ob1 ⟨k, ⟨xf, xg, xl⟩, hk, hf, hx3, hxb, hgi, hg3, hoi, ho3, q0, q1, q2, q3, q9, q10, q11, q12, q13⟩
    simp only at hx3 hxb hgi hg3 hoi ho3 q0 q1 q2 q3 q9 q10 q11 q12 q13
    have hw := wrap_succ (k := k) (by omega)
    by_cases hlt : k < sh.length
    case pos =>
      obtain ⟨c, hc⟩ := getq hlt
      obtain ⟨a, ha⟩ := getq (l := args) (k := k) (by omega)
      have hal := hargs a (List.mem_of_getElem? ha)
      have hki : (k : Int) < (args.length : Int) := by omega
      have hki3 : (k : Int) < 3 := by omega
      have hk0 : (0 : Int) ≤ (k : Int) := by omega
      have hga : (args.map fun w => [D.str w])[k]? = some [D.str a] := by rw [List.getElem?_map, ha]; rfl
      rw [foldF_at hc ha] at hf
      have hset : ∀ v : Int, ((List.map (fun v => C.d (.int .i64 v)) xf).set k (C.d (.int .i64 v)))[k]? = some (C.d (.int .i64 v)) := fun v => List.getElem?_set_self (by rw [List.length_map]; omega)
      by_cases hcr : c = 114
      · subst hcr
        have z : ((114 : UInt8).toNat : Int) = 114 := rfl
        simp (config := { maxSteps := 1000000 }) only [go_sem,↓reduceIte,q0, q1, q2, q3, q9, q10, q11, q12, q13, hki, hk0, hc, z, hga, Int.toNat_natCast]
        refine hook_pure rfl (by simp (config := { maxSteps := 1000000 }) only [go_sem,↓reduceIte]; exact register_A a hal) (by simp (config := { maxSteps := 1000000 }) only [go_sem,↓reduceIte]; rfl) ?_
        rintro _ rfl
        have hk1 : k + 1 ≤ xf.length := by omega
        by_cases hr : regI a < 0
        · rw [hf, show stepF op 114 a k (xf, xg, xl) = none by unfold stepF; rw [if_pos rfl, if_pos hr], Option.bind_none] at hP
          subst hP
          simp (config := { maxSteps := 1000000 }) only [go_sem,↓reduceIte,q0, q1, q2, q3, q9, q10, q11, q12, q13, hki, hk0, hki3, hg3, ho3, Int.toNat_natCast, Nat.mul_one, Nat.zero_add, setAt, fC, hset, hk1, List.length_map, hr]
          exact retF_at ⟨fun i hi => hgi i (by omega), fun i h5 hi => by (try simp only [upd]); rw [if_neg (by omega)]; exact hoi i (by omega), rfl⟩
        · have hx' : stepF op 114 a k (xf, xg, xl) = some (xf.set k (regI a), xg, xl) := by unfold stepF; rw [if_pos rfl, if_neg hr]
          rw [hx', Option.bind_some] at hf
          simp (config := { maxSteps := 1000000 }) only [go_sem,↓reduceIte,q0, q1, q2, q3, q9, q10, q11, q12, q13, hki, hk0, hki3, hg3, ho3, Int.toNat_natCast, Nat.mul_one, Nat.zero_add, setAt, fC, hset, hk1, List.length_map, hr, hw]
          have hxl : (xf.set k (regI a)).length = 3 := by rw [List.length_set]; exact hx3
          have hxv : ∀ v ∈ xf.set k (regI a), 0 ≤ v ∧ v < 4294967296 := by
            intro v hv
            rcases List.mem_or_eq_of_mem_set hv with hv | rfl
            · exact hxb v hv
            · have := regI_le a; omega
          refine round_endB (n - 1) (by omega) ⟨k + 1, _, by omega, hf, hxl, hxv, ?_⟩
          simp (config := { maxSteps := 1000000 }) only [go_sem,↓reduceIte,hg3, q0, q1, q2, q3, q9, q10, q11, q12, q13, List.map_set]
          exact ⟨hgi, fun i hi => by rw [if_neg hi]; exact hoi i hi⟩
      · have hcn : ¬ (c.toNat : Int) = 114 := u8_ne (d := 114) hcr
        have hk1 : k + 1 ≤ xf.length := by omega
        simp (config := { maxSteps := 1000000 }) only [go_sem,↓reduceIte,q0, q1, q2, q3, q9, q10, q11, q12, q13, hki, hk0, hc, hcn, hga, Int.toNat_natCast]
        refine hook_pure rfl (by simp (config := { maxSteps := 1000000 }) only [go_sem,↓reduceIte]; exact number_A a hal) (by simp (config := { maxSteps := 1000000 }) only [go_sem,↓reduceIte]; rfl) ?_
        rintro _ rfl
        have hnot : numV (numO a) = numV .other → (c = 110 ∧ regI a < 0 ∧ isLabel a = true → False) → stepF op c a k (xf, xg, xl) = none := fun h1 h2 => by rw [stepF_no hcr h1, if_neg h2]
        cases kind a with
        | num v hv h1 h2 =>
          rw [stepF_num hcr h2, Option.bind_some] at hf
          rw [h2]
          unfold numV
          have hxl : (xf.set k (v : Int)).length = 3 := by rw [List.length_set]; exact hx3
          have hxv : ∀ w ∈ xf.set k (v : Int), 0 ≤ w ∧ w < 4294967296 := by
            intro w hw
            rcases List.mem_or_eq_of_mem_set hw with hw | rfl
            · exact hxb w hw
            · omega
          have hvw : IntKind.i64.wrap (v : Int) = (v : Int) := by rw [IntKind.wrap_i64] <;> omega
          cases xg <;> by_cases hmv : mostW op < v
          all_goals
            first | rw [decide_eq_true hmv] at hf | rw [decide_eq_false hmv] at hf
            simp only [Bool.or_true, Bool.or_false] at hf
            simp (config := { maxSteps := 1000000 }) only [go_sem,↓reduceIte,q0, q1, q2, q3, q9, q10, q11, q12, q13, hki, hk0, hki3, hg3, ho3, hc, hga, Int.toNat_natCast, Nat.mul_one, Nat.zero_add, setAt, fC, hk1, List.length_map, hw, e4a, e6a, hmost v, hmv, hvw]
            refine round_endB (n - 1) (by omega) ⟨k + 1, _, by omega, hf, hxl, hxv, ?_⟩
            simp (config := { maxSteps := 1000000 }) only [go_sem,↓reduceIte,hg3, q0, q1, q2, q3, q9, q10, q11, q12, q13, List.map_set]
            exact ⟨hgi, fun i hi => by rw [if_neg hi]; exact hoi i hi⟩
        | great h1 h2 =>
          rw [stepF_great hcr h2, Option.bind_some] at hf
          rw [h2]
          unfold numV
          have hxl : (xf.set k (0 : Int)).length = 3 := by rw [List.length_set]; exact hx3
          have hxv : ∀ w ∈ xf.set k (0 : Int), 0 ≤ w ∧ w < 4294967296 := by
            intro w hw
            rcases List.mem_or_eq_of_mem_set hw with hw | rfl
            · exact hxb w hw
            · omega
          have hw0 : IntKind.i64.wrap 0 = 0 := rfl
          cases xg
          all_goals
            simp (config := { maxSteps := 1000000 }) only [go_sem,↓reduceIte,hw0, q0, q1, q2, q3, q9, q10, q11, q12, q13, hki, hk0, hki3, hg3, ho3, hc, hga, Int.toNat_natCast, Nat.mul_one, Nat.zero_add, setAt, fC, hk1, List.length_map, hw, e4a, e6a]
            refine round_endB (n - 1) (by omega) ⟨k + 1, _, by omega, hf, hxl, hxv, ?_⟩
            simp (config := { maxSteps := 1000000 }) only [go_sem,↓reduceIte,hg3, q0, q1, q2, q3, q9, q10, q11, q12, q13, List.map_set]
            exact ⟨hgi, fun i hi => by rw [if_neg hi]; exact hoi i hi⟩
        | lab h1 h0 h2 h3 h4 =>
          rw [h2]
          unfold numV
          by_cases hc1 : c = 110
          · subst hc1
            have z : ((110 : UInt8).toNat : Int) = 110 := rfl
            rw [stepF_no hcr h2, if_pos ⟨rfl, h3, h4⟩, Option.bind_some] at hf
            simp (config := { maxSteps := 1000000 }) only [go_sem,↓reduceIte,q0, q1, q2, q3, q9, q10, q11, q12, q13, hki, hk0, hki3, hg3, ho3, hc, hga, Int.toNat_natCast, Nat.mul_one, Nat.zero_add, setAt, fC, hk1, List.length_map, hw, e4a, e6a, z]
            refine hook_pure rfl (by simp (config := { maxSteps := 1000000 }) only [go_sem,↓reduceIte]; exact register_A a hal) (by simp (config := { maxSteps := 1000000 }) only [go_sem,↓reduceIte]; rfl) ?_
            rintro _ rfl
            simp (config := { maxSteps := 1000000 }) only [go_sem,↓reduceIte,q0, q1, q2, q3, q9, q10, q11, q12, q13, hki, hk0, hki3, hg3, ho3, hc, hga, Int.toNat_natCast, Nat.mul_one, Nat.zero_add, setAt, fC, hk1, List.length_map, hw, e4a, e6a, h3]
            refine hook_pure rfl (by simp (config := { maxSteps := 1000000 }) only [go_sem,↓reduceIte]; exact isLabelR_A a (by omega)) (by simp (config := { maxSteps := 1000000 }) only [go_sem,↓reduceIte]; rfl) ?_
            rintro _ rfl
            simp (config := { maxSteps := 1000000 }) only [go_sem,↓reduceIte,q0, q1, q2, q3, q9, q10, q11, q12, q13, hki, hk0, hki3, hg3, ho3, hc, hga, Int.toNat_natCast, Nat.mul_one, Nat.zero_add, setAt, fC, hk1, List.length_map, hw, e4a, e6a, h4]
            refine round_endB (n - 1) (by omega) ⟨k + 1, _, by omega, hf, hx3, hxb, ?_⟩
            simp (config := { maxSteps := 1000000 }) only [go_sem,↓reduceIte,hg3, ho3, q0, q1, q2, q3, q9, q10, q11, q12, q13, fC]
            exact ⟨hgi, hoi⟩
          · have hci : ¬ (c.toNat : Int) = 110 := u8_ne (d := 110) hc1
            rw [hf, hnot h2 (fun h => hc1 h.1), Option.bind_none] at hP
            subst hP
            simp (config := { maxSteps := 1000000 }) only [go_sem,↓reduceIte,q0, q1, q2, q3, q9, q10, q11, q12, q13, hki, hk0, hki3, hg3, ho3, hc, hga, Int.toNat_natCast, Nat.mul_one, Nat.zero_add, setAt, fC, hk1, List.length_map, hw, e4a, e6a, hci]
            exact retF_at ⟨fun i hi => hgi i (by omega), fun i h5 hi => hoi i (by omega), rfl⟩
        | reg m h1 h2 h3 =>
          rw [h2]
          unfold numV
          rw [hf, hnot h2 (fun h => h3 h.2.1), Option.bind_none] at hP
          subst hP
          by_cases hc1 : c = 110
          · subst hc1
            have z : ((110 : UInt8).toNat : Int) = 110 := rfl
            simp (config := { maxSteps := 1000000 }) only [go_sem,↓reduceIte,q0, q1, q2, q3, q9, q10, q11, q12, q13, hki, hk0, hki3, hg3, ho3, hc, hga, Int.toNat_natCast, Nat.mul_one, Nat.zero_add, setAt, fC, hk1, List.length_map, hw, e4a, e6a, z]
            refine hook_pure rfl (by simp (config := { maxSteps := 1000000 }) only [go_sem,↓reduceIte]; exact register_A a hal) (by simp (config := { maxSteps := 1000000 }) only [go_sem,↓reduceIte]; rfl) ?_
            rintro _ rfl
            simp (config := { maxSteps := 1000000 }) only [go_sem,↓reduceIte,q0, q1, q2, q3, q9, q10, q11, q12, q13, hki, hk0, hki3, hg3, ho3, hc, hga, Int.toNat_natCast, Nat.mul_one, Nat.zero_add, setAt, fC, hk1, List.length_map, hw, e4a, e6a, h3]
            exact retF_at ⟨fun i hi => hgi i (by omega), fun i h5 hi => hoi i (by omega), rfl⟩
          · have hci : ¬ (c.toNat : Int) = 110 := u8_ne (d := 110) hc1
            simp (config := { maxSteps := 1000000 }) only [go_sem,↓reduceIte,q0, q1, q2, q3, q9, q10, q11, q12, q13, hki, hk0, hki3, hg3, ho3, hc, hga, Int.toNat_natCast, Nat.mul_one, Nat.zero_add, setAt, fC, hk1, List.length_map, hw, e4a, e6a, hci]
            exact retF_at ⟨fun i hi => hgi i (by omega), fun i h5 hi => hoi i (by omega), rfl⟩
        | other h1 h2 h4 =>
          rw [h2]
          unfold numV
          rw [hf, hnot h2 (fun h => by rw [h4] at h; simp at h), Option.bind_none] at hP
          subst hP
          by_cases hc1 : c = 110
          · subst hc1
            have z : ((110 : UInt8).toNat : Int) = 110 := rfl
            simp (config := { maxSteps := 1000000 }) only [go_sem,↓reduceIte,q0, q1, q2, q3, q9, q10, q11, q12, q13, hki, hk0, hki3, hg3, ho3, hc, hga, Int.toNat_natCast, Nat.mul_one, Nat.zero_add, setAt, fC, hk1, List.length_map, hw, e4a, e6a, z]
            refine hook_pure rfl (by simp (config := { maxSteps := 1000000 }) only [go_sem,↓reduceIte]; exact register_A a hal) (by simp (config := { maxSteps := 1000000 }) only [go_sem,↓reduceIte]; rfl) ?_
            rintro _ rfl
            by_cases h3 : regI a < 0
            · simp (config := { maxSteps := 1000000 }) only [go_sem,↓reduceIte,q0, q1, q2, q3, q9, q10, q11, q12, q13, hki, hk0, hki3, hg3, ho3, hc, hga, Int.toNat_natCast, Nat.mul_one, Nat.zero_add, setAt, fC, hk1, List.length_map, hw, e4a, e6a, h3]
              refine hook_pure rfl (by simp (config := { maxSteps := 1000000 }) only [go_sem,↓reduceIte]; exact isLabelR_A a (by omega)) (by simp (config := { maxSteps := 1000000 }) only [go_sem,↓reduceIte]; rfl) ?_
              rintro _ rfl
              simp (config := { maxSteps := 1000000 }) only [go_sem,↓reduceIte,q0, q1, q2, q3, q9, q10, q11, q12, q13, hki, hk0, hki3, hg3, ho3, hc, hga, Int.toNat_natCast, Nat.mul_one, Nat.zero_add, setAt, fC, hk1, List.length_map, hw, e4a, e6a, h4]
              exact retF_at ⟨fun i hi => hgi i (by omega), fun i h5 hi => hoi i (by omega), rfl⟩
            · simp (config := { maxSteps := 1000000 }) only [go_sem,↓reduceIte,q0, q1, q2, q3, q9, q10, q11, q12, q13, hki, hk0, hki3, hg3, ho3, hc, hga, Int.toNat_natCast, Nat.mul_one, Nat.zero_add, setAt, fC, hk1, List.length_map, hw, e4a, e6a, h3]
              exact retF_at ⟨fun i hi => hgi i (by omega), fun i h5 hi => hoi i (by omega), rfl⟩
          · have hci : ¬ (c.toNat : Int) = 110 := u8_ne (d := 110) hc1
            simp (config := { maxSteps := 1000000 }) only [go_sem,↓reduceIte,q0, q1, q2, q3, q9, q10, q11, q12, q13, hki, hk0, hki3, hg3, ho3, hc, hga, Int.toNat_natCast, Nat.mul_one, Nat.zero_add, setAt, fC, hk1, List.length_map, hw, e4a, e6a, hci]
            exact retF_at ⟨fun i hi => hgi i (by omega), fun i h5 hi => hoi i (by omega), rfl⟩
    have hki : ¬ (k : Int) < (args.length : Int) := by omega
    rw [foldF_end (by omega)] at hf
    rw [hf] at hP
    simp only at hP
    have hM : Made gr st g1 ob1 := h0.of (fun i hi => hgi i (by omega)) (fun i hi => hoi i (by omega))
    clear hf h0 hmost
    obtain ⟨hg, cc, lc, pc, uc, h20, hc, hl, hu⟩ := hM
    have hgo : ∀ i, i < 3000 → g1 i = g i := fun i hi => hgi i (by omega)
    have hoo : ∀ i, i ≠ 20 → i < 3000 → ob1 i = ob i := fun i _ hi => hoi i (by omega)
    clear hgi hoi
    obtain ⟨a, b, d, rfl⟩ : ∃ a b d, xf = [a, b, d] := by
      match xf, hx3 with
      | [a, b, d], _ => exact ⟨a, b, d, rfl⟩
    obtain ⟨ha, hb, hd⟩ : (0 ≤ a ∧ a < 4294967296) ∧ (0 ≤ b ∧ b < 4294967296) ∧ (0 ≤ d ∧ d < 4294967296) := ⟨hxb a (by simp), hxb b (by simp), hxb d (by simp)⟩
    obtain ⟨a, rfl⟩ : ∃ n : Nat, a = n := ⟨a.toNat, by omega⟩
    obtain ⟨b, rfl⟩ : ∃ n : Nat, b = n := ⟨b.toNat, by omega⟩
    obtain ⟨d, rfl⟩ : ∃ n : Nat, d = n := ⟨d.toNat, by omega⟩
    clear hxb hx3
    cases xg
    case true =>
      rw [show endA line st op ([(a : Int), (b : Int), (d : Int)], true, xl) = .err 2 from if_pos (.inl rfl)] at hP
      subst hP
      simp (config := { maxSteps := 1000000 }) only [go_sem,↓reduceIte,q0, q1, q2, q3, q9, q10, q11, q12, q13, hki, e4a, e6a, hg, h20, hg3, ho3, fC]
      exact retF_at ⟨hgo, hoo, rfl⟩
  · -- other
    have hsc : ((sh = [114, 110]) = True ∧ (sh = [114, 114]) = False ∧ (sh = [110]) = False ∧ fieldsX sh [(a : Int), (b : Int), (d : Int)] = ((a : Int), 0, (b : Int))) ∨ ((sh = [114, 110]) = False ∧ (sh = [114, 114]) = True ∧ (sh = [110]) = False ∧ fieldsX sh [(a : Int), (b : Int), (d : Int)] = ((a : Int), (b : Int), 0)) ∨
        ((sh = [114, 110]) = False ∧ (sh = [114, 114]) = False ∧ (sh = [110]) = True ∧ fieldsX sh [(a : Int), (b : Int), (d : Int)] = (0, 0, (a : Int))) ∨ ((sh = [114, 110]) = False ∧ (sh = [114, 114]) = False ∧ (sh = [110]) = False ∧ fieldsX sh [(a : Int), (b : Int), (d : Int)] = ((a : Int), (b : Int), (d : Int))) := by
      by_cases s1 : sh = [114, 110]
      · exact .inl ⟨eq_true s1, eq_false (by rw [s1]; decide), eq_false (by rw [s1]; decide), by rw [s1]; rfl⟩
      by_cases s2 : sh = [114, 114]
      · exact .inr (.inl ⟨eq_false s1, eq_true s2, eq_false (by rw [s2]; decide), by rw [s2]; rfl⟩)
      by_cases s3 : sh = [110]
      · exact .inr (.inr (.inl ⟨eq_false s1, eq_false s2, eq_true s3, by rw [s3]; rfl⟩))
      · exact .inr (.inr (.inr ⟨eq_false s1, eq_false s2, eq_false s3, by unfold fieldsX; rw [if_neg s1, if_neg s2, if_neg s3]; rfl⟩))
    rcases hc with ⟨c1, rfl⟩ | ⟨c1, ci, rfl | rfl, rfl, c3⟩
    · have hlen : ¬ st.code.length = 16384 := by rw [c1]; decide
      rw [endA_ins e6 e4 hlen, hsh] at hP
      subst hP
      by_cases hx : xl = []
      · rw [show useX st line xl = st from if_pos hx]
        subst hx
        simp (config := { maxSteps := 1000000 }) only [go_sem,↓reduceIte,q0, q1, q2, q3, q9, q10, q11, q12, q13, hki, e4a, e6a, hg, h20, hg3, ho3, fC, codeC, List.length_map]
        refine hook_pure rfl (by simp (config := { maxSteps := 1000000 }) only [go_sem,↓reduceIte]; exact OpR_A op) (by simp (config := { maxSteps := 1000000 }) only [go_sem,↓reduceIte]; rfl) ?_
        rintro _ rfl
        rcases hsc with ⟨s1, s2, s3, hfx⟩ | ⟨s1, s2, s3, hfx⟩ | ⟨s1, s2, s3, hfx⟩ | ⟨s1, s2, s3, hfx⟩
        · rw [hfx]
          simp (config := { maxSteps := 1000000 }) only [go_sem,↓reduceIte,q0, q1, q2, q3, q9, q10, q11, q12, q13, hki, e4a, e6a, hg, h20, hg3, ho3, fC, codeC, List.length_map, s1, s2, s3, buildA]
          refine draw_det Tt_ok mixed [3017] [([10], [], [], false), ([191], [], [], false), ([10], [0], [], false), ([193], [0], [], false), ([17], [], [], false), ([195, 192], [], [0], false), ([17], [], [], false), ([196, 194], [], [], true)] 1 (by decide +kernel) rfl (by decide) ?_
          simp (config := { maxSteps := 1000000 }) only [go_sem,↓reduceIte]
          iterate 5 (apply det_pure; · (intro fa ga oa K' hK; simp (config := { maxSteps := 1000000 }) only [go_sem,↓reduceIte,q0, q1, q2, q3, q9, q10, q11, q12, q13, hki, e4a, e6a, hg, h20, hg3, ho3, fC, codeC, List.length_map, s1, s2, s3] at hK ⊢; exact hK))
          (apply det_store; (focus simp); (focus (intro fa ga oa K' hK; simp (config := { maxSteps := 1000000 }) only [go_sem,↓reduceIte,q0, q1, q2, q3, q9, q10, q11, q12, q13, hki, e4a, e6a, hg, h20, hg3, ho3, fC, codeC, List.length_map, s1, s2, s3] at hK ⊢; exact hK)))
          (apply det_pure; · (intro fa ga oa K' hK; simp (config := { maxSteps := 1000000 }) only [go_sem,↓reduceIte,q0, q1, q2, q3, q9, q10, q11, q12, q13, hki, e4a, e6a, hg, h20, hg3, ho3, fC, codeC, List.length_map, s1, s2, s3] at hK ⊢; exact hK))
          apply det_last
          intro K' hK'
          simp (config := { maxSteps := 1000000 }) only [go_sem,↓reduceIte,q0, q1, q2, q3, q9, q10, q11, q12, q13, hki, e4a, e6a, hg, h20, hg3, ho3, fC, codeC, List.length_map, s1, s2, s3]
          refine hK' _ ?_
          clear hK' K'
          simp (config := { maxSteps := 1000000 }) only [go_sem,↓reduceIte,q0, q1, q2, q3, q9, q10, q11, q12, q13, hki, e4a, e6a, hg, h20, hg3, ho3, fC, codeC, List.length_map, s1, s2, s3]
          refine hook_pure rfl (by simp (config := { maxSteps := 1000000 }) only [go_sem,↓reduceIte]; exact Enc_X _ _ _ _) (by simp (config := { maxSteps := 1000000 }) only [go_sem,↓reduceIte]; rfl) ?_
          rintro _ ⟨e, rfl⟩
          simp (config := { maxSteps := 1000000 }) only [go_sem,↓reduceIte,q0, q1, q2, q3, q9, q10, q11, q12, q13, hki, e4a, e6a, hg, h20, hg3, ho3, fC, codeC, List.length_map, s1, s2, s3, elemTy]
          refine ⟨⟨by decide, by decide⟩, ?_⟩
          refine retF_at ⟨fun i hi => by (have := far hi; simp only [upd, this, if_false]; exact hgo i hi), fun i h5 hi => by (have := far hi; simp only [upd, this, h5, if_false]; exact hoo i h5 hi), rfl, ⟨by simp [upd, hg], _, lc, pc, _, rfl, ?_, hl, ?_⟩⟩
          · exact .inr ⟨by simp [addX], 3223, .inr rfl, by simp [upd, c1, addX], by simp [upd, c1, addX, codeC]⟩
          · exact hu
        · rw [hfx]
          simp (config := { maxSteps := 1000000 }) only [go_sem,↓reduceIte,q0, q1, q2, q3, q9, q10, q11, q12, q13, hki, e4a, e6a, hg, h20, hg3, ho3, fC, codeC, List.length_map, s1, s2, s3, buildA]
          refine draw_det Tt_ok mixed [3017] [([10], [], [], false), ([199], [], [], false), ([10], [0], [], false), ([201], [0], [], false), ([17], [], [], false), ([203, 200], [], [0], false), ([17], [], [], false), ([204, 202], [], [], true)] 1 (by decide +kernel) rfl (by decide) ?_
          simp (config := { maxSteps := 1000000 }) only [go_sem,↓reduceIte]
          iterate 5 (apply det_pure; · (intro fa ga oa K' hK; simp (config := { maxSteps := 1000000 }) only [go_sem,↓reduceIte,q0, q1, q2, q3, q9, q10, q11, q12, q13, hki, e4a, e6a, hg, h20, hg3, ho3, fC, codeC, List.length_map, s1, s2, s3] at hK ⊢; exact hK))
          (apply det_store; (focus simp); (focus (intro fa ga oa K' hK; simp (config := { maxSteps := 1000000 }) only [go_sem,↓reduceIte,q0, q1, q2, q3, q9, q10, q11, q12, q13, hki, e4a, e6a, hg, h20, hg3, ho3, fC, codeC, List.length_map, s1, s2, s3] at hK ⊢; exact hK)))
          (apply det_pure; · (intro fa ga oa K' hK; simp (config := { maxSteps := 1000000 }) only [go_sem,↓reduceIte,q0, q1, q2, q3, q9, q10, q11, q12, q13, hki, e4a, e6a, hg, h20, hg3, ho3, fC, codeC, List.length_map, s1, s2, s3] at hK ⊢; exact hK))
          apply det_last
          intro K' hK'
          simp (config := { maxSteps := 1000000 }) only [go_sem,↓reduceIte,q0, q1, q2, q3, q9, q10, q11, q12, q13, hki, e4a, e6a, hg, h20, hg3, ho3, fC, codeC, List.length_map, s1, s2, s3]
          refine hK' _ ?_
          clear hK' K'
          simp (config := { maxSteps := 1000000 }) only [go_sem,↓reduceIte,q0, q1, q2, q3, q9, q10, q11, q12, q13, hki, e4a, e6a, hg, h20, hg3, ho3, fC, codeC, List.length_map, s1, s2, s3]
          refine hook_pure rfl (by simp (config := { maxSteps := 1000000 }) only [go_sem,↓reduceIte]; exact Enc_X _ _ _ _) (by simp (config := { maxSteps := 1000000 }) only [go_sem,↓reduceIte]; rfl) ?_
          rintro _ ⟨e, rfl⟩
          simp (config := { maxSteps := 1000000 }) only [go_sem,↓reduceIte,q0, q1, q2, q3, q9, q10, q11, q12, q13, hki, e4a, e6a, hg, h20, hg3, ho3, fC, codeC, List.length_map, s1, s2, s3, elemTy]
          refine ⟨⟨by decide, by decide⟩, ?_⟩
          refine retF_at ⟨fun i hi => by (have := far hi; simp only [upd, this, if_false]; exact hgo i hi), fun i h5 hi => by (have := far hi; simp only [upd, this, h5, if_false]; exact hoo i h5 hi), rfl, ⟨by simp [upd, hg], _, lc, pc, _, rfl, ?_, hl, ?_⟩⟩
          · exact .inr ⟨by simp [addX], 3223, .inr rfl, by simp [upd, c1, addX], by simp [upd, c1, addX, codeC]⟩
          · exact hu
        · rw [hfx]
          simp (config := { maxSteps := 1000000 }) only [go_sem,↓reduceIte,q0, q1, q2, q3, q9, q10, q11, q12, q13, hki, e4a, e6a, hg, h20, hg3, ho3, fC, codeC, List.length_map, s1, s2, s3, buildA]
          refine hook_pure rfl (by simp (config := { maxSteps := 1000000 }) only [go_sem,↓reduceIte]; exact Enc_X _ _ _ _) (by simp (config := { maxSteps := 1000000 }) only [go_sem,↓reduceIte]; rfl) ?_
          rintro _ ⟨e, rfl⟩
          simp (config := { maxSteps := 1000000 }) only [go_sem,↓reduceIte,q0, q1, q2, q3, q9, q10, q11, q12, q13, hki, e4a, e6a, hg, h20, hg3, ho3, fC, codeC, List.length_map, s1, s2, s3, elemTy]
          refine ⟨⟨by decide, by decide⟩, ?_⟩
          refine retF_at ⟨fun i hi => by (have := far hi; simp only [upd, this, if_false]; exact hgo i hi), fun i h5 hi => by (have := far hi; simp only [upd, this, h5, if_false]; exact hoo i h5 hi), rfl, ⟨by simp [upd, hg], _, lc, pc, _, rfl, ?_, hl, ?_⟩⟩
          · exact .inr ⟨by simp [addX], 3223, .inr rfl, by simp [upd, c1, addX], by simp [upd, c1, addX, codeC]⟩
          · exact hu
        · rw [hfx]
          simp (config := { maxSteps := 1000000 }) only [go_sem,↓reduceIte,q0, q1, q2, q3, q9, q10, q11, q12, q13, hki, e4a, e6a, hg, h20, hg3, ho3, fC, codeC, List.length_map, s1, s2, s3, buildA]
          refine draw_det Tt_ok mixed [3017] [([10], [], [], false), ([180], [], [], false), ([10], [0], [], false), ([182], [0], [], false), ([10], [0], [], false), ([184], [0], [], false), ([17], [], [], false), ([186, 181], [], [0], false), ([17], [], [], false), ([187, 183], [], [0], false), ([17], [], [], false), ([188, 185], [], [], true)] 1 (by decide +kernel) rfl (by decide) ?_
          simp (config := { maxSteps := 1000000 }) only [go_sem,↓reduceIte]
          iterate 7 (apply det_pure; · (intro fa ga oa K' hK; simp (config := { maxSteps := 1000000 }) only [go_sem,↓reduceIte,q0, q1, q2, q3, q9, q10, q11, q12, q13, hki, e4a, e6a, hg, h20, hg3, ho3, fC, codeC, List.length_map, s1, s2, s3] at hK ⊢; exact hK))
          (apply det_store; (focus simp); (focus (intro fa ga oa K' hK; simp (config := { maxSteps := 1000000 }) only [go_sem,↓reduceIte,q0, q1, q2, q3, q9, q10, q11, q12, q13, hki, e4a, e6a, hg, h20, hg3, ho3, fC, codeC, List.length_map, s1, s2, s3] at hK ⊢; exact hK)))
          (apply det_pure; · (intro fa ga oa K' hK; simp (config := { maxSteps := 1000000 }) only [go_sem,↓reduceIte,q0, q1, q2, q3, q9, q10, q11, q12, q13, hki, e4a, e6a, hg, h20, hg3, ho3, fC, codeC, List.length_map, s1, s2, s3] at hK ⊢; exact hK))
          (apply det_store; (focus simp); (focus (intro fa ga oa K' hK; simp (config := { maxSteps := 1000000 }) only [go_sem,↓reduceIte,q0, q1, q2, q3, q9, q10, q11, q12, q13, hki, e4a, e6a, hg, h20, hg3, ho3, fC, codeC, List.length_map, s1, s2, s3] at hK ⊢; exact hK)))
          (apply det_pure; · (intro fa ga oa K' hK; simp (config := { maxSteps := 1000000 }) only [go_sem,↓reduceIte,q0, q1, q2, q3, q9, q10, q11, q12, q13, hki, e4a, e6a, hg, h20, hg3, ho3, fC, codeC, List.length_map, s1, s2, s3] at hK ⊢; exact hK))
          apply det_last
          intro K' hK'
          simp (config := { maxSteps := 1000000 }) only [go_sem,↓reduceIte,q0, q1, q2, q3, q9, q10, q11, q12, q13, hki, e4a, e6a, hg, h20, hg3, ho3, fC, codeC, List.length_map, s1, s2, s3]
          refine hK' _ ?_
          clear hK' K'
          simp (config := { maxSteps := 1000000 }) only [go_sem,↓reduceIte,q0, q1, q2, q3, q9, q10, q11, q12, q13, hki, e4a, e6a, hg, h20, hg3, ho3, fC, codeC, List.length_map, s1, s2, s3]
          refine hook_pure rfl (by simp (config := { maxSteps := 1000000 }) only [go_sem,↓reduceIte]; exact Enc_X _ _ _ _) (by simp (config := { maxSteps := 1000000 }) only [go_sem,↓reduceIte]; rfl) ?_
          rintro _ ⟨e, rfl⟩
          simp (config := { maxSteps := 1000000 }) only [go_sem,↓reduceIte,q0, q1, q2, q3, q9, q10, q11, q12, q13, hki, e4a, e6a, hg, h20, hg3, ho3, fC, codeC, List.length_map, s1, s2, s3, elemTy]
          refine ⟨⟨by decide, by decide⟩, ?_⟩
          refine retF_at ⟨fun i hi => by (have := far hi; simp only [upd, this, if_false]; exact hgo i hi), fun i h5 hi => by (have := far hi; simp only [upd, this, h5, if_false]; exact hoo i h5 hi), rfl, ⟨by simp [upd, hg], _, lc, pc, _, rfl, ?_, hl, ?_⟩⟩
          · exact .inr ⟨by simp [addX], 3223, .inr rfl, by simp [upd, c1, addX], by simp [upd, c1, addX, codeC]⟩
          · exact hu
      rw [show useX st line xl = { st with uses := st.uses ++ [(line, st.code.length, xl)] } from if_neg hx]
      rcases hu with ⟨u1, rfl⟩ | ⟨u1, rfl, u3⟩
      · simp (config := { maxSteps := 1000000 }) only [go_sem,↓reduceIte,q0, q1, q2, q3, q9, q10, q11, q12, q13, hki, e4a, e6a, hg, h20, hg3, ho3, fC, codeC, List.length_map, hx]
        refine draw_det Tt_ok mixed [3156, 3157, 20] [([0], [0, 1], [], false), ([0], [0], [], false), ([143], [0], [], false), ([144], [0], [], false), ([145], [0], [], false), ([12], [], [], false), ([3], [], [], false), ([0], [], [], false), ([149], [], [], false), ([150], [], [], false), ([151], [], [], false), ([152], [], [], false), ([153], [], [], false), ([147, 148, 154], [], [], false), ([155], [], [0], false), ([146, 156], [], [1], false), ([142], [], [], false), ([158], [], [], false), ([159, 157], [], [], true)] 3 (by decide +kernel) rfl (by decide) ?_
        simp (config := { maxSteps := 1000000 }) only [go_sem,↓reduceIte]
        iterate 13 (apply det_pure; · (intro fa ga oa K' hK; simp (config := { maxSteps := 1000000 }) only [go_sem,↓reduceIte,q0, q1, q2, q3, q9, q10, q11, q12, q13, hki, e4a, e6a, hg, h20, hg3, ho3, fC, codeC, List.length_map, hx] at hK ⊢; exact hK))
        (apply det_pure; · (intro fa ga oa K' hK; simp (config := { maxSteps := 1000000 }) only [go_sem,↓reduceIte,buildA] at hK ⊢; exact hK))
        (apply det_new; · (intro fa ga oa K' hK; simp (config := { maxSteps := 1000000 }) only [go_sem,↓reduceIte,q0, q1, q2, q3, q9, q10, q11, q12, q13, hki, e4a, e6a, hg, h20, hg3, ho3, fC, codeC, List.length_map, hx, elemTy] at hK ⊢; exact hK))
        (apply det_new; · (intro fa ga oa K' hK; simp (config := { maxSteps := 1000000 }) only [go_sem,↓reduceIte,q0, q1, q2, q3, q9, q10, q11, q12, q13, hki, e4a, e6a, hg, h20, hg3, ho3, fC, codeC, List.length_map, hx, elemTy] at hK ⊢; first | exact ⟨⟨by decide, by decide⟩, hK⟩ | exact ⟨⟨by decide, by omega⟩, hK⟩ | exact ⟨Nat.le_of_eq (flatR_len _).symm, ⟨by decide, by omega⟩, hK⟩ | exact ⟨Nat.le_refl _, ⟨by decide, by omega⟩, hK⟩))
        iterate 2 (apply det_pure; · (intro fa ga oa K' hK; simp (config := { maxSteps := 1000000 }) only [go_sem,↓reduceIte,q0, q1, q2, q3, q9, q10, q11, q12, q13, hki, e4a, e6a, hg, h20, hg3, ho3, fC, codeC, List.length_map, hx] at hK ⊢; exact hK))
        apply det_last
        intro K' hK'
        simp (config := { maxSteps := 1000000 }) only [go_sem,↓reduceIte,q0, q1, q2, q3, q9, q10, q11, q12, q13, hki, e4a, e6a, hg, h20, hg3, ho3, fC, codeC, List.length_map, hx]
        refine hK' _ ?_
        clear hK' K'
        simp (config := { maxSteps := 1000000 }) only [go_sem,↓reduceIte,q0, q1, q2, q3, q9, q10, q11, q12, q13, hki, e4a, e6a, hg, h20, hg3, ho3, fC, codeC, List.length_map, hx]
        refine hook_pure rfl (by simp (config := { maxSteps := 1000000 }) only [go_sem,↓reduceIte]; exact OpR_A op) (by simp (config := { maxSteps := 1000000 }) only [go_sem,↓reduceIte]; rfl) ?_
        rintro _ rfl
        rcases hsc with ⟨s1, s2, s3, hfx⟩ | ⟨s1, s2, s3, hfx⟩ | ⟨s1, s2, s3, hfx⟩ | ⟨s1, s2, s3, hfx⟩
        · rw [hfx]
          simp (config := { maxSteps := 1000000 }) only [go_sem,↓reduceIte,q0, q1, q2, q3, q9, q10, q11, q12, q13, hki, e4a, e6a, hg, h20, hg3, ho3, fC, codeC, List.length_map, hx, s1, s2, s3, buildA]
          refine draw_det Tt_ok mixed [3017] [([10], [], [], false), ([191], [], [], false), ([10], [0], [], false), ([193], [0], [], false), ([17], [], [], false), ([195, 192], [], [0], false), ([17], [], [], false), ([196, 194], [], [], true)] 1 (by decide +kernel) rfl (by decide) ?_
          simp (config := { maxSteps := 1000000 }) only [go_sem,↓reduceIte]
          iterate 5 (apply det_pure; · (intro fa ga oa K' hK; simp (config := { maxSteps := 1000000 }) only [go_sem,↓reduceIte,q0, q1, q2, q3, q9, q10, q11, q12, q13, hki, e4a, e6a, hg, h20, hg3, ho3, fC, codeC, List.length_map, hx, s1, s2, s3] at hK ⊢; exact hK))
          (apply det_store; (focus simp); (focus (intro fa ga oa K' hK; simp (config := { maxSteps := 1000000 }) only [go_sem,↓reduceIte,q0, q1, q2, q3, q9, q10, q11, q12, q13, hki, e4a, e6a, hg, h20, hg3, ho3, fC, codeC, List.length_map, hx, s1, s2, s3] at hK ⊢; exact hK)))
          (apply det_pure; · (intro fa ga oa K' hK; simp (config := { maxSteps := 1000000 }) only [go_sem,↓reduceIte,q0, q1, q2, q3, q9, q10, q11, q12, q13, hki, e4a, e6a, hg, h20, hg3, ho3, fC, codeC, List.length_map, hx, s1, s2, s3] at hK ⊢; exact hK))
          apply det_last
          intro K' hK'
          simp (config := { maxSteps := 1000000 }) only [go_sem,↓reduceIte,q0, q1, q2, q3, q9, q10, q11, q12, q13, hki, e4a, e6a, hg, h20, hg3, ho3, fC, codeC, List.length_map, hx, s1, s2, s3]
          refine hK' _ ?_
          clear hK' K'
          simp (config := { maxSteps := 1000000 }) only [go_sem,↓reduceIte,q0, q1, q2, q3, q9, q10, q11, q12, q13, hki, e4a, e6a, hg, h20, hg3, ho3, fC, codeC, List.length_map, hx, s1, s2, s3]
          refine hook_pure rfl (by simp (config := { maxSteps := 1000000 }) only [go_sem,↓reduceIte]; exact Enc_X _ _ _ _) (by simp (config := { maxSteps := 1000000 }) only [go_sem,↓reduceIte]; rfl) ?_
          rintro _ ⟨e, rfl⟩
          simp (config := { maxSteps := 1000000 }) only [go_sem,↓reduceIte,q0, q1, q2, q3, q9, q10, q11, q12, q13, hki, e4a, e6a, hg, h20, hg3, ho3, fC, codeC, List.length_map, hx, s1, s2, s3, elemTy]
          refine ⟨⟨by decide, by decide⟩, ?_⟩
          refine retF_at ⟨fun i hi => by (have := far hi; simp only [upd, this, if_false]; exact hgo i hi), fun i h5 hi => by (have := far hi; simp only [upd, this, h5, if_false]; exact hoo i h5 hi), rfl, ⟨by simp [upd, hg], _, lc, pc, _, rfl, ?_, hl, ?_⟩⟩
          · exact .inr ⟨by simp [addX], 3223, .inr rfl, by simp [upd, c1, addX], by simp [upd, c1, addX, codeC]⟩
          · exact .inr ⟨by simp [addX], by simp [upd, u1, addX], by simp [upd, u1, addX, useR, c1]⟩
        · rw [hfx]
          simp (config := { maxSteps := 1000000 }) only [go_sem,↓reduceIte,q0, q1, q2, q3, q9, q10, q11, q12, q13, hki, e4a, e6a, hg, h20, hg3, ho3, fC, codeC, List.length_map, hx, s1, s2, s3, buildA]
          refine draw_det Tt_ok mixed [3017] [([10], [], [], false), ([199], [], [], false), ([10], [0], [], false), ([201], [0], [], false), ([17], [], [], false), ([203, 200], [], [0], false), ([17], [], [], false), ([204, 202], [], [], true)] 1 (by decide +kernel) rfl (by decide) ?_
          simp (config := { maxSteps := 1000000 }) only [go_sem,↓reduceIte]
          iterate 5 (apply det_pure; · (intro fa ga oa K' hK; simp (config := { maxSteps := 1000000 }) only [go_sem,↓reduceIte,q0, q1, q2, q3, q9, q10, q11, q12, q13, hki, e4a, e6a, hg, h20, hg3, ho3, fC, codeC, List.length_map, hx, s1, s2, s3] at hK ⊢; exact hK))
          (apply det_store; (focus simp); (focus (intro fa ga oa K' hK; simp (config := { maxSteps := 1000000 }) only [go_sem,↓reduceIte,q0, q1, q2, q3, q9, q10, q11, q12, q13, hki, e4a, e6a, hg, h20, hg3, ho3, fC, codeC, List.length_map, hx, s1, s2, s3] at hK ⊢; exact hK)))
          (apply det_pure; · (intro fa ga oa K' hK; simp (config := { maxSteps := 1000000 }) only [go_sem,↓reduceIte,q0, q1, q2, q3, q9, q10, q11, q12, q13, hki, e4a, e6a, hg, h20, hg3, ho3, fC, codeC, List.length_map, hx, s1, s2, s3] at hK ⊢; exact hK))
          apply det_last
          intro K' hK'
          simp (config := { maxSteps := 1000000 }) only [go_sem,↓reduceIte,q0, q1, q2, q3, q9, q10, q11, q12, q13, hki, e4a, e6a, hg, h20, hg3, ho3, fC, codeC, List.length_map, hx, s1, s2, s3]
          refine hK' _ ?_
          clear hK' K'
          simp (config := { maxSteps := 1000000 }) only [go_sem,↓reduceIte,q0, q1, q2, q3, q9, q10, q11, q12, q13, hki, e4a, e6a, hg, h20, hg3, ho3, fC, codeC, List.length_map, hx, s1, s2, s3]
          refine hook_pure rfl (by simp (config := { maxSteps := 1000000 }) only [go_sem,↓reduceIte]; exact Enc_X _ _ _ _) (by simp (config := { maxSteps := 1000000 }) only [go_sem,↓reduceIte]; rfl) ?_
          rintro _ ⟨e, rfl⟩
          simp (config := { maxSteps := 1000000 }) only [go_sem,↓reduceIte,q0, q1, q2, q3, q9, q10, q11, q12, q13, hki, e4a, e6a, hg, h20, hg3, ho3, fC, codeC, List.length_map, hx, s1, s2, s3, elemTy]
          refine ⟨⟨by decide, by decide⟩, ?_⟩
          refine retF_at ⟨fun i hi => by (have := far hi; simp only [upd, this, if_false]; exact hgo i hi), fun i h5 hi => by (have := far hi; simp only [upd, this, h5, if_false]; exact hoo i h5 hi), rfl, ⟨by simp [upd, hg], _, lc, pc, _, rfl, ?_, hl, ?_⟩⟩
          · exact .inr ⟨by simp [addX], 3223, .inr rfl, by simp [upd, c1, addX], by simp [upd, c1, addX, codeC]⟩
          · exact .inr ⟨by simp [addX], by simp [upd, u1, addX], by simp [upd, u1, addX, useR, c1]⟩
        · rw [hfx]
          simp (config := { maxSteps := 1000000 }) only [go_sem,↓reduceIte,q0, q1, q2, q3, q9, q10, q11, q12, q13, hki, e4a, e6a, hg, h20, hg3, ho3, fC, codeC, List.length_map, hx, s1, s2, s3, buildA]
          refine hook_pure rfl (by simp (config := { maxSteps := 1000000 }) only [go_sem,↓reduceIte]; exact Enc_X _ _ _ _) (by simp (config := { maxSteps := 1000000 }) only [go_sem,↓reduceIte]; rfl) ?_
          rintro _ ⟨e, rfl⟩
          simp (config := { maxSteps := 1000000 }) only [go_sem,↓reduceIte,q0, q1, q2, q3, q9, q10, q11, q12, q13, hki, e4a, e6a, hg, h20, hg3, ho3, fC, codeC, List.length_map, hx, s1, s2, s3, elemTy]
          refine ⟨⟨by decide, by decide⟩, ?_⟩
          refine retF_at ⟨fun i hi => by (have := far hi; simp only [upd, this, if_false]; exact hgo i hi), fun i h5 hi => by (have := far hi; simp only [upd, this, h5, if_false]; exact hoo i h5 hi), rfl, ⟨by simp [upd, hg], _, lc, pc, _, rfl, ?_, hl, ?_⟩⟩
          · exact .inr ⟨by simp [addX], 3223, .inr rfl, by simp [upd, c1, addX], by simp [upd, c1, addX, codeC]⟩
          · exact .inr ⟨by simp [addX], by simp [upd, u1, addX], by simp [upd, u1, addX, useR, c1]⟩
        · rw [hfx]
          simp (config := { maxSteps := 1000000 }) only [go_sem,↓reduceIte,q0, q1, q2, q3, q9, q10, q11, q12, q13, hki, e4a, e6a, hg, h20, hg3, ho3, fC, codeC, List.length_map, hx, s1, s2, s3, buildA]
          refine draw_det Tt_ok mixed [3017] [([10], [], [], false), ([180], [], [], false), ([10], [0], [], false), ([182], [0], [], false), ([10], [0], [], false), ([184], [0], [], false), ([17], [], [], false), ([186, 181], [], [0], false), ([17], [], [], false), ([187, 183], [], [0], false), ([17], [], [], false), ([188, 185], [], [], true)] 1 (by decide +kernel) rfl (by decide) ?_
          simp (config := { maxSteps := 1000000 }) only [go_sem,↓reduceIte]
          iterate 7 (apply det_pure; · (intro fa ga oa K' hK; simp (config := { maxSteps := 1000000 }) only [go_sem,↓reduceIte,q0, q1, q2, q3, q9, q10, q11, q12, q13, hki, e4a, e6a, hg, h20, hg3, ho3, fC, codeC, List.length_map, hx, s1, s2, s3] at hK ⊢; exact hK))
          (apply det_store; (focus simp); (focus (intro fa ga oa K' hK; simp (config := { maxSteps := 1000000 }) only [go_sem,↓reduceIte,q0, q1, q2, q3, q9, q10, q11, q12, q13, hki, e4a, e6a, hg, h20, hg3, ho3, fC, codeC, List.length_map, hx, s1, s2, s3] at hK ⊢; exact hK)))
          (apply det_pure; · (intro fa ga oa K' hK; simp (config := { maxSteps := 1000000 }) only [go_sem,↓reduceIte,q0, q1, q2, q3, q9, q10, q11, q12, q13, hki, e4a, e6a, hg, h20, hg3, ho3, fC, codeC, List.length_map, hx, s1, s2, s3] at hK ⊢; exact hK))
          (apply det_store; (focus simp); (focus (intro fa ga oa K' hK; simp (config := { maxSteps := 1000000 }) only [go_sem,↓reduceIte,q0, q1, q2, q3, q9, q10, q11, q12, q13, hki, e4a, e6a, hg, h20, hg3, ho3, fC, codeC, List.length_map, hx, s1, s2, s3] at hK ⊢; exact hK)))
          (apply det_pure; · (intro fa ga oa K' hK; simp (config := { maxSteps := 1000000 }) only [go_sem,↓reduceIte,q0, q1, q2, q3, q9, q10, q11, q12, q13, hki, e4a, e6a, hg, h20, hg3, ho3, fC, codeC, List.length_map, hx, s1, s2, s3] at hK ⊢; exact hK))
          apply det_last
          intro K' hK'
          simp (config := { maxSteps := 1000000 }) only [go_sem,↓reduceIte,q0, q1, q2, q3, q9, q10, q11, q12, q13, hki, e4a, e6a, hg, h20, hg3, ho3, fC, codeC, List.length_map, hx, s1, s2, s3]
          refine hK' _ ?_
          clear hK' K'
          simp (config := { maxSteps := 1000000 }) only [go_sem,↓reduceIte,q0, q1, q2, q3, q9, q10, q11, q12, q13, hki, e4a, e6a, hg, h20, hg3, ho3, fC, codeC, List.length_map, hx, s1, s2, s3]
          refine hook_pure rfl (by simp (config := { maxSteps := 1000000 }) only [go_sem,↓reduceIte]; exact Enc_X _ _ _ _) (by simp (config := { maxSteps := 1000000 }) only [go_sem,↓reduceIte]; rfl) ?_
          rintro _ ⟨e, rfl⟩
          simp (config := { maxSteps := 1000000 }) only [go_sem,↓reduceIte,q0, q1, q2, q3, q9, q10, q11, q12, q13, hki, e4a, e6a, hg, h20, hg3, ho3, fC, codeC, List.length_map, hx, s1, s2, s3, elemTy]
          refine ⟨⟨by decide, by decide⟩, ?_⟩
          refine retF_at ⟨fun i hi => by (have := far hi; simp only [upd, this, if_false]; exact hgo i hi), fun i h5 hi => by (have := far hi; simp only [upd, this, h5, if_false]; exact hoo i h5 hi), rfl, ⟨by simp [upd, hg], _, lc, pc, _, rfl, ?_, hl, ?_⟩⟩
          · exact .inr ⟨by simp [addX], 3223, .inr rfl, by simp [upd, c1, addX], by simp [upd, c1, addX, codeC]⟩
          · exact .inr ⟨by simp [addX], by simp [upd, u1, addX], by simp [upd, u1, addX, useR, c1]⟩
      · simp (config := { maxSteps := 1000000 }) only [go_sem,↓reduceIte,q0, q1, q2, q3, q9, q10, q11, q12, q13, hki, e4a, e6a, hg, h20, hg3, ho3, fC, codeC, List.length_map, hx, u3]
        refine draw_det Tt_ok mixed [3156, 3157, 20] [([0], [0, 1], [], false), ([0], [0], [], false), ([143], [0], [], false), ([144], [0], [], false), ([145], [0], [], false), ([12], [], [], false), ([3], [], [], false), ([0], [], [], false), ([149], [], [], false), ([150], [], [], false), ([151], [], [], false), ([152], [], [], false), ([153], [], [], false), ([147, 148, 154], [], [], false), ([155], [], [0], false), ([146, 156], [], [1], false), ([142], [], [], false), ([158], [], [], false), ([159, 157], [], [], true)] 3 (by decide +kernel) rfl (by decide) ?_
        simp (config := { maxSteps := 1000000 }) only [go_sem,↓reduceIte]
        iterate 13 (apply det_pure; · (intro fa ga oa K' hK; simp (config := { maxSteps := 1000000 }) only [go_sem,↓reduceIte,q0, q1, q2, q3, q9, q10, q11, q12, q13, hki, e4a, e6a, hg, h20, hg3, ho3, fC, codeC, List.length_map, hx, u3] at hK ⊢; exact hK))
        (apply det_pure; · (intro fa ga oa K' hK; simp (config := { maxSteps := 1000000 }) only [go_sem,↓reduceIte,buildA] at hK ⊢; exact hK))
        (apply det_new; · (intro fa ga oa K' hK; simp (config := { maxSteps := 1000000 }) only [go_sem,↓reduceIte,q0, q1, q2, q3, q9, q10, q11, q12, q13, hki, e4a, e6a, hg, h20, hg3, ho3, fC, codeC, List.length_map, hx, u3, elemTy] at hK ⊢; exact hK))
        (apply det_new; · (intro fa ga oa K' hK; simp (config := { maxSteps := 1000000 }) only [go_sem,↓reduceIte,q0, q1, q2, q3, q9, q10, q11, q12, q13, hki, e4a, e6a, hg, h20, hg3, ho3, fC, codeC, List.length_map, hx, u3, elemTy] at hK ⊢; first | exact ⟨⟨by decide, by decide⟩, hK⟩ | exact ⟨⟨by decide, by omega⟩, hK⟩ | exact ⟨Nat.le_of_eq (flatR_len _).symm, ⟨by decide, by omega⟩, hK⟩ | exact ⟨Nat.le_refl _, ⟨by decide, by omega⟩, hK⟩))
        iterate 2 (apply det_pure; · (intro fa ga oa K' hK; simp (config := { maxSteps := 1000000 }) only [go_sem,↓reduceIte,q0, q1, q2, q3, q9, q10, q11, q12, q13, hki, e4a, e6a, hg, h20, hg3, ho3, fC, codeC, List.length_map, hx, u3] at hK ⊢; exact hK))
        apply det_last
        intro K' hK'
        simp (config := { maxSteps := 1000000 }) only [go_sem,↓reduceIte,q0, q1, q2, q3, q9, q10, q11, q12, q13, hki, e4a, e6a, hg, h20, hg3, ho3, fC, codeC, List.length_map, hx, u3]
        refine hK' _ ?_
        clear hK' K'
        simp (config := { maxSteps := 1000000 }) only [go_sem,↓reduceIte,q0, q1, q2, q3, q9, q10, q11, q12, q13, hki, e4a, e6a, hg, h20, hg3, ho3, fC, codeC, List.length_map, hx, u3]
        refine hook_pure rfl (by simp (config := { maxSteps := 1000000 }) only [go_sem,↓reduceIte]; exact OpR_A op) (by simp (config := { maxSteps := 1000000 }) only [go_sem,↓reduceIte]; rfl) ?_
        rintro _ rfl
        rcases hsc with ⟨s1, s2, s3, hfx⟩ | ⟨s1, s2, s3, hfx⟩ | ⟨s1, s2, s3, hfx⟩ | ⟨s1, s2, s3, hfx⟩
        · rw [hfx]
          simp (config := { maxSteps := 1000000 }) only [go_sem,↓reduceIte,q0, q1, q2, q3, q9, q10, q11, q12, q13, hki, e4a, e6a, hg, h20, hg3, ho3, fC, codeC, List.length_map, hx, u3, s1, s2, s3, buildA]
          refine draw_det Tt_ok mixed [3017] [([10], [], [], false), ([191], [], [], false), ([10], [0], [], false), ([193], [0], [], false), ([17], [], [], false), ([195, 192], [], [0], false), ([17], [], [], false), ([196, 194], [], [], true)] 1 (by decide +kernel) rfl (by decide) ?_
          simp (config := { maxSteps := 1000000 }) only [go_sem,↓reduceIte]
          iterate 5 (apply det_pure; · (intro fa ga oa K' hK; simp (config := { maxSteps := 1000000 }) only [go_sem,↓reduceIte,q0, q1, q2, q3, q9, q10, q11, q12, q13, hki, e4a, e6a, hg, h20, hg3, ho3, fC, codeC, List.length_map, hx, u3, s1, s2, s3] at hK ⊢; exact hK))
          (apply det_store; (focus simp); (focus (intro fa ga oa K' hK; simp (config := { maxSteps := 1000000 }) only [go_sem,↓reduceIte,q0, q1, q2, q3, q9, q10, q11, q12, q13, hki, e4a, e6a, hg, h20, hg3, ho3, fC, codeC, List.length_map, hx, u3, s1, s2, s3] at hK ⊢; exact hK)))
          (apply det_pure; · (intro fa ga oa K' hK; simp (config := { maxSteps := 1000000 }) only [go_sem,↓reduceIte,q0, q1, q2, q3, q9, q10, q11, q12, q13, hki, e4a, e6a, hg, h20, hg3, ho3, fC, codeC, List.length_map, hx, u3, s1, s2, s3] at hK ⊢; exact hK))
          apply det_last
          intro K' hK'
          simp (config := { maxSteps := 1000000 }) only [go_sem,↓reduceIte,q0, q1, q2, q3, q9, q10, q11, q12, q13, hki, e4a, e6a, hg, h20, hg3, ho3, fC, codeC, List.length_map, hx, u3, s1, s2, s3]
          refine hK' _ ?_
          clear hK' K'
          simp (config := { maxSteps := 1000000 }) only [go_sem,↓reduceIte,q0, q1, q2, q3, q9, q10, q11, q12, q13, hki, e4a, e6a, hg, h20, hg3, ho3, fC, codeC, List.length_map, hx, u3, s1, s2, s3]
          refine hook_pure rfl (by simp (config := { maxSteps := 1000000 }) only [go_sem,↓reduceIte]; exact Enc_X _ _ _ _) (by simp (config := { maxSteps := 1000000 }) only [go_sem,↓reduceIte]; rfl) ?_
          rintro _ ⟨e, rfl⟩
          simp (config := { maxSteps := 1000000 }) only [go_sem,↓reduceIte,q0, q1, q2, q3, q9, q10, q11, q12, q13, hki, e4a, e6a, hg, h20, hg3, ho3, fC, codeC, List.length_map, hx, u3, s1, s2, s3, elemTy]
          refine ⟨⟨by decide, by decide⟩, ?_⟩
          refine retF_at ⟨fun i hi => by (have := far hi; simp only [upd, this, if_false]; exact hgo i hi), fun i h5 hi => by (have := far hi; simp only [upd, this, h5, if_false]; exact hoo i h5 hi), rfl, ⟨by simp [upd, hg], _, lc, pc, _, rfl, ?_, hl, ?_⟩⟩
          · exact .inr ⟨by simp [addX], 3223, .inr rfl, by simp [upd, c1, addX], by simp [upd, c1, addX, codeC]⟩
          · exact .inr ⟨by simp [addX], by simp [upd, addX], by simp [upd, addX, flatR_take, useR, c1]⟩
        · rw [hfx]
          simp (config := { maxSteps := 1000000 }) only [go_sem,↓reduceIte,q0, q1, q2, q3, q9, q10, q11, q12, q13, hki, e4a, e6a, hg, h20, hg3, ho3, fC, codeC, List.length_map, hx, u3, s1, s2, s3, buildA]
          refine draw_det Tt_ok mixed [3017] [([10], [], [], false), ([199], [], [], false), ([10], [0], [], false), ([201], [0], [], false), ([17], [], [], false), ([203, 200], [], [0], false), ([17], [], [], false), ([204, 202], [], [], true)] 1 (by decide +kernel) rfl (by decide) ?_
          simp (config := { maxSteps := 1000000 }) only [go_sem,↓reduceIte]
          iterate 5 (apply det_pure; · (intro fa ga oa K' hK; simp (config := { maxSteps := 1000000 }) only [go_sem,↓reduceIte,q0, q1, q2, q3, q9, q10, q11, q12, q13, hki, e4a, e6a, hg, h20, hg3, ho3, fC, codeC, List.length_map, hx, u3, s1, s2, s3] at hK ⊢; exact hK))
          (apply det_store; (focus simp); (focus (intro fa ga oa K' hK; simp (config := { maxSteps := 1000000 }) only [go_sem,↓reduceIte,q0, q1, q2, q3, q9, q10, q11, q12, q13, hki, e4a, e6a, hg, h20, hg3, ho3, fC, codeC, List.length_map, hx, u3, s1, s2, s3] at hK ⊢; exact hK)))
          (apply det_pure; · (intro fa ga oa K' hK; simp (config := { maxSteps := 1000000 }) only [go_sem,↓reduceIte,q0, q1, q2, q3, q9, q10, q11, q12, q13, hki, e4a, e6a, hg, h20, hg3, ho3, fC, codeC, List.length_map, hx, u3, s1, s2, s3] at hK ⊢; exact hK))
          apply det_last
          intro K' hK'
          simp (config := { maxSteps := 1000000 }) only [go_sem,↓reduceIte,q0, q1, q2, q3, q9, q10, q11, q12, q13, hki, e4a, e6a, hg, h20, hg3, ho3, fC, codeC, List.length_map, hx, u3, s1, s2, s3]
          refine hK' _ ?_
          clear hK' K'
          simp (config := { maxSteps := 1000000 }) only [go_sem,↓reduceIte,q0, q1, q2, q3, q9, q10, q11, q12, q13, hki, e4a, e6a, hg, h20, hg3, ho3, fC, codeC, List.length_map, hx, u3, s1, s2, s3]
          refine hook_pure rfl (by simp (config := { maxSteps := 1000000 }) only [go_sem,↓reduceIte]; exact Enc_X _ _ _ _) (by simp (config := { maxSteps := 1000000 }) only [go_sem,↓reduceIte]; rfl) ?_
          rintro _ ⟨e, rfl⟩
          simp (config := { maxSteps := 1000000 }) only [go_sem,↓reduceIte,q0, q1, q2, q3, q9, q10, q11, q12, q13, hki, e4a, e6a, hg, h20, hg3, ho3, fC, codeC, List.length_map, hx, u3, s1, s2, s3, elemTy]
          refine ⟨⟨by decide, by decide⟩, ?_⟩
          refine retF_at ⟨fun i hi => by (have := far hi; simp only [upd, this, if_false]; exact hgo i hi), fun i h5 hi => by (have := far hi; simp only [upd, this, h5, if_false]; exact hoo i h5 hi), rfl, ⟨by simp [upd, hg], _, lc, pc, _, rfl, ?_, hl, ?_⟩⟩
          · exact .inr ⟨by simp [addX], 3223, .inr rfl, by simp [upd, c1, addX], by simp [upd, c1, addX, codeC]⟩
          · exact .inr ⟨by simp [addX], by simp [upd, addX], by simp [upd, addX, flatR_take, useR, c1]⟩
        · rw [hfx]
          simp (config := { maxSteps := 1000000 }) only [go_sem,↓reduceIte,q0, q1, q2, q3, q9, q10, q11, q12, q13, hki, e4a, e6a, hg, h20, hg3, ho3, fC, codeC, List.length_map, hx, u3, s1, s2, s3, buildA]
          refine hook_pure rfl (by simp (config := { maxSteps := 1000000 }) only [go_sem,↓reduceIte]; exact Enc_X _ _ _ _) (by simp (config := { maxSteps := 1000000 }) only [go_sem,↓reduceIte]; rfl) ?_
          rintro _ ⟨e, rfl⟩
          simp (config := { maxSteps := 1000000 }) only [go_sem,↓reduceIte,q0, q1, q2, q3, q9, q10, q11, q12, q13, hki, e4a, e6a, hg, h20, hg3, ho3, fC, codeC, List.length_map, hx, u3, s1, s2, s3, elemTy]
          refine ⟨⟨by decide, by decide⟩, ?_⟩
          refine retF_at ⟨fun i hi => by (have := far hi; simp only [upd, this, if_false]; exact hgo i hi), fun i h5 hi => by (have := far hi; simp only [upd, this, h5, if_false]; exact hoo i h5 hi), rfl, ⟨by simp [upd, hg], _, lc, pc, _, rfl, ?_, hl, ?_⟩⟩
          · exact .inr ⟨by simp [addX], 3223, .inr rfl, by simp [upd, c1, addX], by simp [upd, c1, addX, codeC]⟩
          · exact .inr ⟨by simp [addX], by simp [upd, addX], by simp [upd, addX, flatR_take, useR, c1]⟩
        · rw [hfx]
          simp (config := { maxSteps := 1000000 }) only [go_sem,↓reduceIte,q0, q1, q2, q3, q9, q10, q11, q12, q13, hki, e4a, e6a, hg, h20, hg3, ho3, fC, codeC, List.length_map, hx, u3, s1, s2, s3, buildA]
          refine draw_det Tt_ok mixed [3017] [([10], [], [], false), ([180], [], [], false), ([10], [0], [], false), ([182], [0], [], false), ([10], [0], [], false), ([184], [0], [], false), ([17], [], [], false), ([186, 181], [], [0], false), ([17], [], [], false), ([187, 183], [], [0], false), ([17], [], [], false), ([188, 185], [], [], true)] 1 (by decide +kernel) rfl (by decide) ?_
          simp (config := { maxSteps := 1000000 }) only [go_sem,↓reduceIte]
          iterate 7 (apply det_pure; · (intro fa ga oa K' hK; simp (config := { maxSteps := 1000000 }) only [go_sem,↓reduceIte,q0, q1, q2, q3, q9, q10, q11, q12, q13, hki, e4a, e6a, hg, h20, hg3, ho3, fC, codeC, List.length_map, hx, u3, s1, s2, s3] at hK ⊢; exact hK))
          (apply det_store; (focus simp); (focus (intro fa ga oa K' hK; simp (config := { maxSteps := 1000000 }) only [go_sem,↓reduceIte,q0, q1, q2, q3, q9, q10, q11, q12, q13, hki, e4a, e6a, hg, h20, hg3, ho3, fC, codeC, List.length_map, hx, u3, s1, s2, s3] at hK ⊢; exact hK)))
          (apply det_pure; · (intro fa ga oa K' hK; simp (config := { maxSteps := 1000000 }) only [go_sem,↓reduceIte,q0, q1, q2, q3, q9, q10, q11, q12, q13, hki, e4a, e6a, hg, h20, hg3, ho3, fC, codeC, List.length_map, hx, u3, s1, s2, s3] at hK ⊢; exact hK))
          (apply det_store; (focus simp); (focus (intro fa ga oa K' hK; simp (config := { maxSteps := 1000000 }) only [go_sem,↓reduceIte,q0, q1, q2, q3, q9, q10, q11, q12, q13, hki, e4a, e6a, hg, h20, hg3, ho3, fC, codeC, List.length_map, hx, u3, s1, s2, s3] at hK ⊢; exact hK)))
          (apply det_pure; · (intro fa ga oa K' hK; simp (config := { maxSteps := 1000000 }) only [go_sem,↓reduceIte,q0, q1, q2, q3, q9, q10, q11, q12, q13, hki, e4a, e6a, hg, h20, hg3, ho3, fC, codeC, List.length_map, hx, u3, s1, s2, s3] at hK ⊢; exact hK))
          apply det_last
          intro K' hK'
          simp (config := { maxSteps := 1000000 }) only [go_sem,↓reduceIte,q0, q1, q2, q3, q9, q10, q11, q12, q13, hki, e4a, e6a, hg, h20, hg3, ho3, fC, codeC, List.length_map, hx, u3, s1, s2, s3]
          refine hK' _ ?_
          clear hK' K'
          simp (config := { maxSteps := 1000000 }) only [go_sem,↓reduceIte,q0, q1, q2, q3, q9, q10, q11, q12, q13, hki, e4a, e6a, hg, h20, hg3, ho3, fC, codeC, List.length_map, hx, u3, s1, s2, s3]
          refine hook_pure rfl (by simp (config := { maxSteps := 1000000 }) only [go_sem,↓reduceIte]; exact Enc_X _ _ _ _) (by simp (config := { maxSteps := 1000000 }) only [go_sem,↓reduceIte]; rfl) ?_
          rintro _ ⟨e, rfl⟩
          simp (config := { maxSteps := 1000000 }) only [go_sem,↓reduceIte,q0, q1, q2, q3, q9, q10, q11, q12, q13, hki, e4a, e6a, hg, h20, hg3, ho3, fC, codeC, List.length_map, hx, u3, s1, s2, s3, elemTy]
          refine ⟨⟨by decide, by decide⟩, ?_⟩
          refine retF_at ⟨fun i hi => by (have := far hi; simp only [upd, this, if_false]; exact hgo i hi), fun i h5 hi => by (have := far hi; simp only [upd, this, h5, if_false]; exact hoo i h5 hi), rfl, ⟨by simp [upd, hg], _, lc, pc, _, rfl, ?_, hl, ?_⟩⟩
          · exact .inr ⟨by simp [addX], 3223, .inr rfl, by simp [upd, c1, addX], by simp [upd, c1, addX, codeC]⟩
          · exact .inr ⟨by simp [addX], by simp [upd, addX], by simp [upd, addX, flatR_take, useR, c1]⟩
    · by_cases hlen : st.code.length = 16384
      · rw [endA_full e4 hlen] at hP
        subst hP
        have hli : ((st.code.length : Nat) : Int) = 16384 := by omega
        simp (config := { maxSteps := 1000000 }) only [go_sem,↓reduceIte,q0, q1, q2, q3, q9, q10, q11, q12, q13, hki, e4a, e6a, hg, h20, hg3, ho3, fC, codeC, List.length_map, c3, hli]
        exact retF_at ⟨hgo, hoo, rfl⟩
      have hli : ¬ ((st.code.length : Nat) : Int) = 16384 := by omega
      rw [endA_ins e6 e4 hlen, hsh] at hP
      subst hP
      by_cases hx : xl = []
      · rw [show useX st line xl = st from if_pos hx]
        subst hx
        simp (config := { maxSteps := 1000000 }) only [go_sem,↓reduceIte,q0, q1, q2, q3, q9, q10, q11, q12, q13, hki, e4a, e6a, hg, h20, hg3, ho3, fC, codeC, List.length_map, c3, hli]
        refine hook_pure rfl (by simp (config := { maxSteps := 1000000 }) only [go_sem,↓reduceIte]; exact OpR_A op) (by simp (config := { maxSteps := 1000000 }) only [go_sem,↓reduceIte]; rfl) ?_
        rintro _ rfl
        rcases hsc with ⟨s1, s2, s3, hfx⟩ | ⟨s1, s2, s3, hfx⟩ | ⟨s1, s2, s3, hfx⟩ | ⟨s1, s2, s3, hfx⟩
        · rw [hfx]
          simp (config := { maxSteps := 1000000 }) only [go_sem,↓reduceIte,q0, q1, q2, q3, q9, q10, q11, q12, q13, hki, e4a, e6a, hg, h20, hg3, ho3, fC, codeC, List.length_map, c3, hli, s1, s2, s3, buildA]
          refine draw_det Tt_ok mixed [3017] [([10], [], [], false), ([191], [], [], false), ([10], [0], [], false), ([193], [0], [], false), ([17], [], [], false), ([195, 192], [], [0], false), ([17], [], [], false), ([196, 194], [], [], true)] 1 (by decide +kernel) rfl (by decide) ?_
          simp (config := { maxSteps := 1000000 }) only [go_sem,↓reduceIte]
          iterate 5 (apply det_pure; · (intro fa ga oa K' hK; simp (config := { maxSteps := 1000000 }) only [go_sem,↓reduceIte,q0, q1, q2, q3, q9, q10, q11, q12, q13, hki, e4a, e6a, hg, h20, hg3, ho3, fC, codeC, List.length_map, c3, hli, s1, s2, s3] at hK ⊢; exact hK))
          (apply det_store; (focus simp); (focus (intro fa ga oa K' hK; simp (config := { maxSteps := 1000000 }) only [go_sem,↓reduceIte,q0, q1, q2, q3, q9, q10, q11, q12, q13, hki, e4a, e6a, hg, h20, hg3, ho3, fC, codeC, List.length_map, c3, hli, s1, s2, s3] at hK ⊢; exact hK)))
          (apply det_pure; · (intro fa ga oa K' hK; simp (config := { maxSteps := 1000000 }) only [go_sem,↓reduceIte,q0, q1, q2, q3, q9, q10, q11, q12, q13, hki, e4a, e6a, hg, h20, hg3, ho3, fC, codeC, List.length_map, c3, hli, s1, s2, s3] at hK ⊢; exact hK))
          apply det_last
          intro K' hK'
          simp (config := { maxSteps := 1000000 }) only [go_sem,↓reduceIte,q0, q1, q2, q3, q9, q10, q11, q12, q13, hki, e4a, e6a, hg, h20, hg3, ho3, fC, codeC, List.length_map, c3, hli, s1, s2, s3]
          refine hK' _ ?_
          clear hK' K'
          simp (config := { maxSteps := 1000000 }) only [go_sem,↓reduceIte,q0, q1, q2, q3, q9, q10, q11, q12, q13, hki, e4a, e6a, hg, h20, hg3, ho3, fC, codeC, List.length_map, c3, hli, s1, s2, s3]
          refine hook_pure rfl (by simp (config := { maxSteps := 1000000 }) only [go_sem,↓reduceIte]; exact Enc_X _ _ _ _) (by simp (config := { maxSteps := 1000000 }) only [go_sem,↓reduceIte]; rfl) ?_
          rintro _ ⟨e, rfl⟩
          simp (config := { maxSteps := 1000000 }) only [go_sem,↓reduceIte,q0, q1, q2, q3, q9, q10, q11, q12, q13, hki, e4a, e6a, hg, h20, hg3, ho3, fC, codeC, List.length_map, c3, hli, s1, s2, s3, elemTy]
          refine ⟨Nat.le_refl _, ⟨by decide, by omega⟩, ?_⟩
          refine retF_at ⟨fun i hi => by (have := far hi; simp only [upd, this, if_false]; exact hgo i hi), fun i h5 hi => by (have := far hi; simp only [upd, this, h5, if_false]; exact hoo i h5 hi), rfl, ⟨by simp [upd, hg], _, lc, pc, _, rfl, ?_, hl, ?_⟩⟩
          · exact .inr ⟨by simp [addX], 3172, .inl rfl, by simp [upd, addX], by simp [upd, addX, codeC, List.take_of_length_le]⟩
          · exact hu
        · rw [hfx]
          simp (config := { maxSteps := 1000000 }) only [go_sem,↓reduceIte,q0, q1, q2, q3, q9, q10, q11, q12, q13, hki, e4a, e6a, hg, h20, hg3, ho3, fC, codeC, List.length_map, c3, hli, s1, s2, s3, buildA]
          refine draw_det Tt_ok mixed [3017] [([10], [], [], false), ([199], [], [], false), ([10], [0], [], false), ([201], [0], [], false), ([17], [], [], false), ([203, 200], [], [0], false), ([17], [], [], false), ([204, 202], [], [], true)] 1 (by decide +kernel) rfl (by decide) ?_
          simp (config := { maxSteps := 1000000 }) only [go_sem,↓reduceIte]
          iterate 5 (apply det_pure; · (intro fa ga oa K' hK; simp (config := { maxSteps := 1000000 }) only [go_sem,↓reduceIte,q0, q1, q2, q3, q9, q10, q11, q12, q13, hki, e4a, e6a, hg, h20, hg3, ho3, fC, codeC, List.length_map, c3, hli, s1, s2, s3] at hK ⊢; exact hK))
          (apply det_store; (focus simp); (focus (intro fa ga oa K' hK; simp (config := { maxSteps := 1000000 }) only [go_sem,↓reduceIte,q0, q1, q2, q3, q9, q10, q11, q12, q13, hki, e4a, e6a, hg, h20, hg3, ho3, fC, codeC, List.length_map, c3, hli, s1, s2, s3] at hK ⊢; exact hK)))
          (apply det_pure; · (intro fa ga oa K' hK; simp (config := { maxSteps := 1000000 }) only [go_sem,↓reduceIte,q0, q1, q2, q3, q9, q10, q11, q12, q13, hki, e4a, e6a, hg, h20, hg3, ho3, fC, codeC, List.length_map, c3, hli, s1, s2, s3] at hK ⊢; exact hK))
          apply det_last
          intro K' hK'
          simp (config := { maxSteps := 1000000 }) only [go_sem,↓reduceIte,q0, q1, q2, q3, q9, q10, q11, q12, q13, hki, e4a, e6a, hg, h20, hg3, ho3, fC, codeC, List.length_map, c3, hli, s1, s2, s3]
          refine hK' _ ?_
          clear hK' K'
          simp (config := { maxSteps := 1000000 }) only [go_sem,↓reduceIte,q0, q1, q2, q3, q9, q10, q11, q12, q13, hki, e4a, e6a, hg, h20, hg3, ho3, fC, codeC, List.length_map, c3, hli, s1, s2, s3]
          refine hook_pure rfl (by simp (config := { maxSteps := 1000000 }) only [go_sem,↓reduceIte]; exact Enc_X _ _ _ _) (by simp (config := { maxSteps := 1000000 }) only [go_sem,↓reduceIte]; rfl) ?_
          rintro _ ⟨e, rfl⟩
          simp (config := { maxSteps := 1000000 }) only [go_sem,↓reduceIte,q0, q1, q2, q3, q9, q10, q11, q12, q13, hki, e4a, e6a, hg, h20, hg3, ho3, fC, codeC, List.length_map, c3, hli, s1, s2, s3, elemTy]
          refine ⟨Nat.le_refl _, ⟨by decide, by omega⟩, ?_⟩
          refine retF_at ⟨fun i hi => by (have := far hi; simp only [upd, this, if_false]; exact hgo i hi), fun i h5 hi => by (have := far hi; simp only [upd, this, h5, if_false]; exact hoo i h5 hi), rfl, ⟨by simp [upd, hg], _, lc, pc, _, rfl, ?_, hl, ?_⟩⟩
          · exact .inr ⟨by simp [addX], 3172, .inl rfl, by simp [upd, addX], by simp [upd, addX, codeC, List.take_of_length_le]⟩
          · exact hu
        · rw [hfx]
          simp (config := { maxSteps := 1000000 }) only [go_sem,↓reduceIte,q0, q1, q2, q3, q9, q10, q11, q12, q13, hki, e4a, e6a, hg, h20, hg3, ho3, fC, codeC, List.length_map, c3, hli, s1, s2, s3, buildA]
          refine hook_pure rfl (by simp (config := { maxSteps := 1000000 }) only [go_sem,↓reduceIte]; exact Enc_X _ _ _ _) (by simp (config := { maxSteps := 1000000 }) only [go_sem,↓reduceIte]; rfl) ?_
          rintro _ ⟨e, rfl⟩
          simp (config := { maxSteps := 1000000 }) only [go_sem,↓reduceIte,q0, q1, q2, q3, q9, q10, q11, q12, q13, hki, e4a, e6a, hg, h20, hg3, ho3, fC, codeC, List.length_map, c3, hli, s1, s2, s3, elemTy]
          refine ⟨Nat.le_refl _, ⟨by decide, by omega⟩, ?_⟩
          refine retF_at ⟨fun i hi => by (have := far hi; simp only [upd, this, if_false]; exact hgo i hi), fun i h5 hi => by (have := far hi; simp only [upd, this, h5, if_false]; exact hoo i h5 hi), rfl, ⟨by simp [upd, hg], _, lc, pc, _, rfl, ?_, hl, ?_⟩⟩
          · exact .inr ⟨by simp [addX], 3172, .inl rfl, by simp [upd, addX], by simp [upd, addX, codeC, List.take_of_length_le]⟩
          · exact hu
        · rw [hfx]
          simp (config := { maxSteps := 1000000 }) only [go_sem,↓reduceIte,q0, q1, q2, q3, q9, q10, q11, q12, q13, hki, e4a, e6a, hg, h20, hg3, ho3, fC, codeC, List.length_map, c3, hli, s1, s2, s3, buildA]
          refine draw_det Tt_ok mixed [3017] [([10], [], [], false), ([180], [], [], false), ([10], [0], [], false), ([182], [0], [], false), ([10], [0], [], false), ([184], [0], [], false), ([17], [], [], false), ([186, 181], [], [0], false), ([17], [], [], false), ([187, 183], [], [0], false), ([17], [], [], false), ([188, 185], [], [], true)] 1 (by decide +kernel) rfl (by decide) ?_
          simp (config := { maxSteps := 1000000 }) only [go_sem,↓reduceIte]
          iterate 7 (apply det_pure; · (intro fa ga oa K' hK; simp (config := { maxSteps := 1000000 }) only [go_sem,↓reduceIte,q0, q1, q2, q3, q9, q10, q11, q12, q13, hki, e4a, e6a, hg, h20, hg3, ho3, fC, codeC, List.length_map, c3, hli, s1, s2, s3] at hK ⊢; exact hK))
          (apply det_store; (focus simp); (focus (intro fa ga oa K' hK; simp (config := { maxSteps := 1000000 }) only [go_sem,↓reduceIte,q0, q1, q2, q3, q9, q10, q11, q12, q13, hki, e4a, e6a, hg, h20, hg3, ho3, fC, codeC, List.length_map, c3, hli, s1, s2, s3] at hK ⊢; exact hK)))
          (apply det_pure; · (intro fa ga oa K' hK; simp (config := { maxSteps := 1000000 }) only [go_sem,↓reduceIte,q0, q1, q2, q3, q9, q10, q11, q12, q13, hki, e4a, e6a, hg, h20, hg3, ho3, fC, codeC, List.length_map, c3, hli, s1, s2, s3] at hK ⊢; exact hK))
          (apply det_store; (focus simp); (focus (intro fa ga oa K' hK; simp (config := { maxSteps := 1000000 }) only [go_sem,↓reduceIte,q0, q1, q2, q3, q9, q10, q11, q12, q13, hki, e4a, e6a, hg, h20, hg3, ho3, fC, codeC, List.length_map, c3, hli, s1, s2, s3] at hK ⊢; exact hK)))
          (apply det_pure; · (intro fa ga oa K' hK; simp (config := { maxSteps := 1000000 }) only [go_sem,↓reduceIte,q0, q1, q2, q3, q9, q10, q11, q12, q13, hki, e4a, e6a, hg, h20, hg3, ho3, fC, codeC, List.length_map, c3, hli, s1, s2, s3] at hK ⊢; exact hK))
          apply det_last
          intro K' hK'
          simp (config := { maxSteps := 1000000 }) only [go_sem,↓reduceIte,q0, q1, q2, q3, q9, q10, q11, q12, q13, hki, e4a, e6a, hg, h20, hg3, ho3, fC, codeC, List.length_map, c3, hli, s1, s2, s3]
          refine hK' _ ?_
          clear hK' K'
          simp (config := { maxSteps := 1000000 }) only [go_sem,↓reduceIte,q0, q1, q2, q3, q9, q10, q11, q12, q13, hki, e4a, e6a, hg, h20, hg3, ho3, fC, codeC, List.length_map, c3, hli, s1, s2, s3]
          refine hook_pure rfl (by simp (config := { maxSteps := 1000000 }) only [go_sem,↓reduceIte]; exact Enc_X _ _ _ _) (by simp (config := { maxSteps := 1000000 }) only [go_sem,↓reduceIte]; rfl) ?_
          rintro _ ⟨e, rfl⟩
          simp (config := { maxSteps := 1000000 }) only [go_sem,↓reduceIte,q0, q1, q2, q3, q9, q10, q11, q12, q13, hki, e4a, e6a, hg, h20, hg3, ho3, fC, codeC, List.length_map, c3, hli, s1, s2, s3, elemTy]
          refine ⟨Nat.le_refl _, ⟨by decide, by omega⟩, ?_⟩
          refine retF_at ⟨fun i hi => by (have := far hi; simp only [upd, this, if_false]; exact hgo i hi), fun i h5 hi => by (have := far hi; simp only [upd, this, h5, if_false]; exact hoo i h5 hi), rfl, ⟨by simp [upd, hg], _, lc, pc, _, rfl, ?_, hl, ?_⟩⟩
          · exact .inr ⟨by simp [addX], 3172, .inl rfl, by simp [upd, addX], by simp [upd, addX, codeC, List.take_of_length_le]⟩
          · exact hu
      rw [show useX st line xl = { st with uses := st.uses ++ [(line, st.code.length, xl)] } from if_neg hx]
      rcases hu with ⟨u1, rfl⟩ | ⟨u1, rfl, u3⟩
      · simp (config := { maxSteps := 1000000 }) only [go_sem,↓reduceIte,q0, q1, q2, q3, q9, q10, q11, q12, q13, hki, e4a, e6a, hg, h20, hg3, ho3, fC, codeC, List.length_map, c3, hli, hx]
        refine draw_det Tt_ok mixed [3156, 3157, 20] [([0], [0, 1], [], false), ([0], [0], [], false), ([143], [0], [], false), ([144], [0], [], false), ([145], [0], [], false), ([12], [], [], false), ([3], [], [], false), ([0], [], [], false), ([149], [], [], false), ([150], [], [], false), ([151], [], [], false), ([152], [], [], false), ([153], [], [], false), ([147, 148, 154], [], [], false), ([155], [], [0], false), ([146, 156], [], [1], false), ([142], [], [], false), ([158], [], [], false), ([159, 157], [], [], true)] 3 (by decide +kernel) rfl (by decide) ?_
        simp (config := { maxSteps := 1000000 }) only [go_sem,↓reduceIte]
        iterate 13 (apply det_pure; · (intro fa ga oa K' hK; simp (config := { maxSteps := 1000000 }) only [go_sem,↓reduceIte,q0, q1, q2, q3, q9, q10, q11, q12, q13, hki, e4a, e6a, hg, h20, hg3, ho3, fC, codeC, List.length_map, c3, hli, hx] at hK ⊢; exact hK))
        (apply det_pure; · (intro fa ga oa K' hK; simp (config := { maxSteps := 1000000 }) only [go_sem,↓reduceIte,buildA] at hK ⊢; exact hK))
        (apply det_new; · (intro fa ga oa K' hK; simp (config := { maxSteps := 1000000 }) only [go_sem,↓reduceIte,q0, q1, q2, q3, q9, q10, q11, q12, q13, hki, e4a, e6a, hg, h20, hg3, ho3, fC, codeC, List.length_map, c3, hli, hx, elemTy] at hK ⊢; exact hK))
        (apply det_new; · (intro fa ga oa K' hK; simp (config := { maxSteps := 1000000 }) only [go_sem,↓reduceIte,q0, q1, q2, q3, q9, q10, q11, q12, q13, hki, e4a, e6a, hg, h20, hg3, ho3, fC, codeC, List.length_map, c3, hli, hx, elemTy] at hK ⊢; first | exact ⟨⟨by decide, by decide⟩, hK⟩ | exact ⟨⟨by decide, by omega⟩, hK⟩ | exact ⟨Nat.le_of_eq (flatR_len _).symm, ⟨by decide, by omega⟩, hK⟩ | exact ⟨Nat.le_refl _, ⟨by decide, by omega⟩, hK⟩))
        iterate 2 (apply det_pure; · (intro fa ga oa K' hK; simp (config := { maxSteps := 1000000 }) only [go_sem,↓reduceIte,q0, q1, q2, q3, q9, q10, q11, q12, q13, hki, e4a, e6a, hg, h20, hg3, ho3, fC, codeC, List.length_map, c3, hli, hx] at hK ⊢; exact hK))
        apply det_last
        intro K' hK'
        simp (config := { maxSteps := 1000000 }) only [go_sem,↓reduceIte,q0, q1, q2, q3, q9, q10, q11, q12, q13, hki, e4a, e6a, hg, h20, hg3, ho3, fC, codeC, List.length_map, c3, hli, hx]
        refine hK' _ ?_
        clear hK' K'
        simp (config := { maxSteps := 1000000 }) only [go_sem,↓reduceIte,q0, q1, q2, q3, q9, q10, q11, q12, q13, hki, e4a, e6a, hg, h20, hg3, ho3, fC, codeC, List.length_map, c3, hli, hx]
        refine hook_pure rfl (by simp (config := { maxSteps := 1000000 }) only [go_sem,↓reduceIte]; exact OpR_A op) (by simp (config := { maxSteps := 1000000 }) only [go_sem,↓reduceIte]; rfl) ?_
        rintro _ rfl
        rcases hsc with ⟨s1, s2, s3, hfx⟩ | ⟨s1, s2, s3, hfx⟩ | ⟨s1, s2, s3, hfx⟩ | ⟨s1, s2, s3, hfx⟩
        · rw [hfx]
          simp (config := { maxSteps := 1000000 }) only [go_sem,↓reduceIte,q0, q1, q2, q3, q9, q10, q11, q12, q13, hki, e4a, e6a, hg, h20, hg3, ho3, fC, codeC, List.length_map, c3, hli, hx, s1, s2, s3, buildA]
          refine draw_det Tt_ok mixed [3017] [([10], [], [], false), ([191], [], [], false), ([10], [0], [], false), ([193], [0], [], false), ([17], [], [], false), ([195, 192], [], [0], false), ([17], [], [], false), ([196, 194], [], [], true)] 1 (by decide +kernel) rfl (by decide) ?_
          simp (config := { maxSteps := 1000000 }) only [go_sem,↓reduceIte]
          iterate 5 (apply det_pure; · (intro fa ga oa K' hK; simp (config := { maxSteps := 1000000 }) only [go_sem,↓reduceIte,q0, q1, q2, q3, q9, q10, q11, q12, q13, hki, e4a, e6a, hg, h20, hg3, ho3, fC, codeC, List.length_map, c3, hli, hx, s1, s2, s3] at hK ⊢; exact hK))
          (apply det_store; (focus simp); (focus (intro fa ga oa K' hK; simp (config := { maxSteps := 1000000 }) only [go_sem,↓reduceIte,q0, q1, q2, q3, q9, q10, q11, q12, q13, hki, e4a, e6a, hg, h20, hg3, ho3, fC, codeC, List.length_map, c3, hli, hx, s1, s2, s3] at hK ⊢; exact hK)))
          (apply det_pure; · (intro fa ga oa K' hK; simp (config := { maxSteps := 1000000 }) only [go_sem,↓reduceIte,q0, q1, q2, q3, q9, q10, q11, q12, q13, hki, e4a, e6a, hg, h20, hg3, ho3, fC, codeC, List.length_map, c3, hli, hx, s1, s2, s3] at hK ⊢; exact hK))
          apply det_last
          intro K' hK'
          simp (config := { maxSteps := 1000000 }) only [go_sem,↓reduceIte,q0, q1, q2, q3, q9, q10, q11, q12, q13, hki, e4a, e6a, hg, h20, hg3, ho3, fC, codeC, List.length_map, c3, hli, hx, s1, s2, s3]
          refine hK' _ ?_
          clear hK' K'
          simp (config := { maxSteps := 1000000 }) only [go_sem,↓reduceIte,q0, q1, q2, q3, q9, q10, q11, q12, q13, hki, e4a, e6a, hg, h20, hg3, ho3, fC, codeC, List.length_map, c3, hli, hx, s1, s2, s3]
          refine hook_pure rfl (by simp (config := { maxSteps := 1000000 }) only [go_sem,↓reduceIte]; exact Enc_X _ _ _ _) (by simp (config := { maxSteps := 1000000 }) only [go_sem,↓reduceIte]; rfl) ?_
          rintro _ ⟨e, rfl⟩
          simp (config := { maxSteps := 1000000 }) only [go_sem,↓reduceIte,q0, q1, q2, q3, q9, q10, q11, q12, q13, hki, e4a, e6a, hg, h20, hg3, ho3, fC, codeC, List.length_map, c3, hli, hx, s1, s2, s3, elemTy]
          refine ⟨Nat.le_refl _, ⟨by decide, by omega⟩, ?_⟩
          refine retF_at ⟨fun i hi => by (have := far hi; simp only [upd, this, if_false]; exact hgo i hi), fun i h5 hi => by (have := far hi; simp only [upd, this, h5, if_false]; exact hoo i h5 hi), rfl, ⟨by simp [upd, hg], _, lc, pc, _, rfl, ?_, hl, ?_⟩⟩
          · exact .inr ⟨by simp [addX], 3172, .inl rfl, by simp [upd, addX], by simp [upd, addX, codeC, List.take_of_length_le]⟩
          · exact .inr ⟨by simp [addX], by simp [upd, u1, addX], by simp [upd, u1, addX, useR]⟩
        · rw [hfx]
          simp (config := { maxSteps := 1000000 }) only [go_sem,↓reduceIte,q0, q1, q2, q3, q9, q10, q11, q12, q13, hki, e4a, e6a, hg, h20, hg3, ho3, fC, codeC, List.length_map, c3, hli, hx, s1, s2, s3, buildA]
          refine draw_det Tt_ok mixed [3017] [([10], [], [], false), ([199], [], [], false), ([10], [0], [], false), ([201], [0], [], false), ([17], [], [], false), ([203, 200], [], [0], false), ([17], [], [], false), ([204, 202], [], [], true)] 1 (by decide +kernel) rfl (by decide) ?_
          simp (config := { maxSteps := 1000000 }) only [go_sem,↓reduceIte]
          iterate 5 (apply det_pure; · (intro fa ga oa K' hK; simp (config := { maxSteps := 1000000 }) only [go_sem,↓reduceIte,q0, q1, q2, q3, q9, q10, q11, q12, q13, hki, e4a, e6a, hg, h20, hg3, ho3, fC, codeC, List.length_map, c3, hli, hx, s1, s2, s3] at hK ⊢; exact hK))
          (apply det_store; (focus simp); (focus (intro fa ga oa K' hK; simp (config := { maxSteps := 1000000 }) only [go_sem,↓reduceIte,q0, q1, q2, q3, q9, q10, q11, q12, q13, hki, e4a, e6a, hg, h20, hg3, ho3, fC, codeC, List.length_map, c3, hli, hx, s1, s2, s3] at hK ⊢; exact hK)))
          (apply det_pure; · (intro fa ga oa K' hK; simp (config := { maxSteps := 1000000 }) only [go_sem,↓reduceIte,q0, q1, q2, q3, q9, q10, q11, q12, q13, hki, e4a, e6a, hg, h20, hg3, ho3, fC, codeC, List.length_map, c3, hli, hx, s1, s2, s3] at hK ⊢; exact hK))
          apply det_last
          intro K' hK'
          simp (config := { maxSteps := 1000000 }) only [go_sem,↓reduceIte,q0, q1, q2, q3, q9, q10, q11, q12, q13, hki, e4a, e6a, hg, h20, hg3, ho3, fC, codeC, List.length_map, c3, hli, hx, s1, s2, s3]
          refine hK' _ ?_
          clear hK' K'
          simp (config := { maxSteps := 1000000 }) only [go_sem,↓reduceIte,q0, q1, q2, q3, q9, q10, q11, q12, q13, hki, e4a, e6a, hg, h20, hg3, ho3, fC, codeC, List.length_map, c3, hli, hx, s1, s2, s3]
          refine hook_pure rfl (by simp (config := { maxSteps := 1000000 }) only [go_sem,↓reduceIte]; exact Enc_X _ _ _ _) (by simp (config := { maxSteps := 1000000 }) only [go_sem,↓reduceIte]; rfl) ?_
          rintro _ ⟨e, rfl⟩
          simp (config := { maxSteps := 1000000 }) only [go_sem,↓reduceIte,q0, q1, q2, q3, q9, q10, q11, q12, q13, hki, e4a, e6a, hg, h20, hg3, ho3, fC, codeC, List.length_map, c3, hli, hx, s1, s2, s3, elemTy]
          refine ⟨Nat.le_refl _, ⟨by decide, by omega⟩, ?_⟩
          refine retF_at ⟨fun i hi => by (have := far hi; simp only [upd, this, if_false]; exact hgo i hi), fun i h5 hi => by (have := far hi; simp only [upd, this, h5, if_false]; exact hoo i h5 hi), rfl, ⟨by simp [upd, hg], _, lc, pc, _, rfl, ?_, hl, ?_⟩⟩
          · exact .inr ⟨by simp [addX], 3172, .inl rfl, by simp [upd, addX], by simp [upd, addX, codeC, List.take_of_length_le]⟩
          · exact .inr ⟨by simp [addX], by simp [upd, u1, addX], by simp [upd, u1, addX, useR]⟩
        · rw [hfx]
          simp (config := { maxSteps := 1000000 }) only [go_sem,↓reduceIte,q0, q1, q2, q3, q9, q10, q11, q12, q13, hki, e4a, e6a, hg, h20, hg3, ho3, fC, codeC, List.length_map, c3, hli, hx, s1, s2, s3, buildA]
          refine hook_pure rfl (by simp (config := { maxSteps := 1000000 }) only [go_sem,↓reduceIte]; exact Enc_X _ _ _ _) (by simp (config := { maxSteps := 1000000 }) only [go_sem,↓reduceIte]; rfl) ?_
          rintro _ ⟨e, rfl⟩
          simp (config := { maxSteps := 1000000 }) only [go_sem,↓reduceIte,q0, q1, q2, q3, q9, q10, q11, q12, q13, hki, e4a, e6a, hg, h20, hg3, ho3, fC, codeC, List.length_map, c3, hli, hx, s1, s2, s3, elemTy]
          refine ⟨Nat.le_refl _, ⟨by decide, by omega⟩, ?_⟩
          refine retF_at ⟨fun i hi => by (have := far hi; simp only [upd, this, if_false]; exact hgo i hi), fun i h5 hi => by (have := far hi; simp only [upd, this, h5, if_false]; exact hoo i h5 hi), rfl, ⟨by simp [upd, hg], _, lc, pc, _, rfl, ?_, hl, ?_⟩⟩
          · exact .inr ⟨by simp [addX], 3172, .inl rfl, by simp [upd, addX], by simp [upd, addX, codeC, List.take_of_length_le]⟩
          · exact .inr ⟨by simp [addX], by simp [upd, u1, addX], by simp [upd, u1, addX, useR]⟩
        · rw [hfx]
          simp (config := { maxSteps := 1000000 }) only [go_sem,↓reduceIte,q0, q1, q2, q3, q9, q10, q11, q12, q13, hki, e4a, e6a, hg, h20, hg3, ho3, fC, codeC, List.length_map, c3, hli, hx, s1, s2, s3, buildA]
          refine draw_det Tt_ok mixed [3017] [([10], [], [], false), ([180], [], [], false), ([10], [0], [], false), ([182], [0], [], false), ([10], [0], [], false), ([184], [0], [], false), ([17], [], [], false), ([186, 181], [], [0], false), ([17], [], [], false), ([187, 183], [], [0], false), ([17], [], [], false), ([188, 185], [], [], true)] 1 (by decide +kernel) rfl (by decide) ?_
          simp (config := { maxSteps := 1000000 }) only [go_sem,↓reduceIte]
          iterate 7 (apply det_pure; · (intro fa ga oa K' hK; simp (config := { maxSteps := 1000000 }) only [go_sem,↓reduceIte,q0, q1, q2, q3, q9, q10, q11, q12, q13, hki, e4a, e6a, hg, h20, hg3, ho3, fC, codeC, List.length_map, c3, hli, hx, s1, s2, s3] at hK ⊢; exact hK))
          (apply det_store; (focus simp); (focus (intro fa ga oa K' hK; simp (config := { maxSteps := 1000000 }) only [go_sem,↓reduceIte,q0, q1, q2, q3, q9, q10, q11, q12, q13, hki, e4a, e6a, hg, h20, hg3, ho3, fC, codeC, List.length_map, c3, hli, hx, s1, s2, s3] at hK ⊢; exact hK)))
          (apply det_pure; · (intro fa ga oa K' hK; simp (config := { maxSteps := 1000000 }) only [go_sem,↓reduceIte,q0, q1, q2, q3, q9, q10, q11, q12, q13, hki, e4a, e6a, hg, h20, hg3, ho3, fC, codeC, List.length_map, c3, hli, hx, s1, s2, s3] at hK ⊢; exact hK))
          (apply det_store; (focus simp); (focus (intro fa ga oa K' hK; simp (config := { maxSteps := 1000000 }) only [go_sem,↓reduceIte,q0, q1, q2, q3, q9, q10, q11, q12, q13, hki, e4a, e6a, hg, h20, hg3, ho3, fC, codeC, List.length_map, c3, hli, hx, s1, s2, s3] at hK ⊢; exact hK)))
          (apply det_pure; · (intro fa ga oa K' hK; simp (config := { maxSteps := 1000000 }) only [go_sem,↓reduceIte,q0, q1, q2, q3, q9, q10, q11, q12, q13, hki, e4a, e6a, hg, h20, hg3, ho3, fC, codeC, List.length_map, c3, hli, hx, s1, s2, s3] at hK ⊢; exact hK))
          apply det_last
          intro K' hK'
          simp (config := { maxSteps := 1000000 }) only [go_sem,↓reduceIte,q0, q1, q2, q3, q9, q10, q11, q12, q13, hki, e4a, e6a, hg, h20, hg3, ho3, fC, codeC, List.length_map, c3, hli, hx, s1, s2, s3]
          refine hK' _ ?_
          clear hK' K'
          simp (config := { maxSteps := 1000000 }) only [go_sem,↓reduceIte,q0, q1, q2, q3, q9, q10, q11, q12, q13, hki, e4a, e6a, hg, h20, hg3, ho3, fC, codeC, List.length_map, c3, hli, hx, s1, s2, s3]
          refine hook_pure rfl (by simp (config := { maxSteps := 1000000 }) only [go_sem,↓reduceIte]; exact Enc_X _ _ _ _) (by simp (config := { maxSteps := 1000000 }) only [go_sem,↓reduceIte]; rfl) ?_
          rintro _ ⟨e, rfl⟩
          simp (config := { maxSteps := 1000000 }) only [go_sem,↓reduceIte,q0, q1, q2, q3, q9, q10, q11, q12, q13, hki, e4a, e6a, hg, h20, hg3, ho3, fC, codeC, List.length_map, c3, hli, hx, s1, s2, s3, elemTy]
          refine ⟨Nat.le_refl _, ⟨by decide, by omega⟩, ?_⟩
          refine retF_at ⟨fun i hi => by (have := far hi; simp only [upd, this, if_false]; exact hgo i hi), fun i h5 hi => by (have := far hi; simp only [upd, this, h5, if_false]; exact hoo i h5 hi), rfl, ⟨by simp [upd, hg], _, lc, pc, _, rfl, ?_, hl, ?_⟩⟩
          · exact .inr ⟨by simp [addX], 3172, .inl rfl, by simp [upd, addX], by simp [upd, addX, codeC, List.take_of_length_le]⟩
          · exact .inr ⟨by simp [addX], by simp [upd, u1, addX], by simp [upd, u1, addX, useR]⟩
      · simp (config := { maxSteps := 1000000 }) only [go_sem,↓reduceIte,q0, q1, q2, q3, q9, q10, q11, q12, q13, hki, e4a, e6a, hg, h20, hg3, ho3, fC, codeC, List.length_map, c3, hli, hx, u3]
        refine draw_det Tt_ok mixed [3156, 3157, 20] [([0], [0, 1], [], false), ([0], [0], [], false), ([143], [0], [], false), ([144], [0], [], false), ([145], [0], [], false), ([12], [], [], false), ([3], [], [], false), ([0], [], [], false), ([149], [], [], false), ([150], [], [], false), ([151], [], [], false), ([152], [], [], false), ([153], [], [], false), ([147, 148, 154], [], [], false), ([155], [], [0], false), ([146, 156], [], [1], false), ([142], [], [], false), ([158], [], [], false), ([159, 157], [], [], true)] 3 (by decide +kernel) rfl (by decide) ?_
        simp (config := { maxSteps := 1000000 }) only [go_sem,↓reduceIte]
        iterate 13 (apply det_pure; · (intro fa ga oa K' hK; simp (config := { maxSteps := 1000000 }) only [go_sem,↓reduceIte,q0, q1, q2, q3, q9, q10, q11, q12, q13, hki, e4a, e6a, hg, h20, hg3, ho3, fC, codeC, List.length_map, c3, hli, hx, u3] at hK ⊢; exact hK))
        (apply det_pure; · (intro fa ga oa K' hK; simp (config := { maxSteps := 1000000 }) only [go_sem,↓reduceIte,buildA] at hK ⊢; exact hK))
        (apply det_new; · (intro fa ga oa K' hK; simp (config := { maxSteps := 1000000 }) only [go_sem,↓reduceIte,q0, q1, q2, q3, q9, q10, q11, q12, q13, hki, e4a, e6a, hg, h20, hg3, ho3, fC, codeC, List.length_map, c3, hli, hx, u3, elemTy] at hK ⊢; exact hK))
        (apply det_new; · (intro fa ga oa K' hK; simp (config := { maxSteps := 1000000 }) only [go_sem,↓reduceIte,q0, q1, q2, q3, q9, q10, q11, q12, q13, hki, e4a, e6a, hg, h20, hg3, ho3, fC, codeC, List.length_map, c3, hli, hx, u3, elemTy] at hK ⊢; first | exact ⟨⟨by decide, by decide⟩, hK⟩ | exact ⟨⟨by decide, by omega⟩, hK⟩ | exact ⟨Nat.le_of_eq (flatR_len _).symm, ⟨by decide, by omega⟩, hK⟩ | exact ⟨Nat.le_refl _, ⟨by decide, by omega⟩, hK⟩))
        iterate 2 (apply det_pure; · (intro fa ga oa K' hK; simp (config := { maxSteps := 1000000 }) only [go_sem,↓reduceIte,q0, q1, q2, q3, q9, q10, q11, q12, q13, hki, e4a, e6a, hg, h20, hg3, ho3, fC, codeC, List.length_map, c3, hli, hx, u3] at hK ⊢; exact hK))
        apply det_last
        intro K' hK'
        simp (config := { maxSteps := 1000000 }) only [go_sem,↓reduceIte,q0, q1, q2, q3, q9, q10, q11, q12, q13, hki, e4a, e6a, hg, h20, hg3, ho3, fC, codeC, List.length_map, c3, hli, hx, u3]
        refine hK' _ ?_
        clear hK' K'
        simp (config := { maxSteps := 1000000 }) only [go_sem,↓reduceIte,q0, q1, q2, q3, q9, q10, q11, q12, q13, hki, e4a, e6a, hg, h20, hg3, ho3, fC, codeC, List.length_map, c3, hli, hx, u3]
        refine hook_pure rfl (by simp (config := { maxSteps := 1000000 }) only [go_sem,↓reduceIte]; exact OpR_A op) (by simp (config := { maxSteps := 1000000 }) only [go_sem,↓reduceIte]; rfl) ?_
        rintro _ rfl
        rcases hsc with ⟨s1, s2, s3, hfx⟩ | ⟨s1, s2, s3, hfx⟩ | ⟨s1, s2, s3, hfx⟩ | ⟨s1, s2, s3, hfx⟩
        · rw [hfx]
          simp (config := { maxSteps := 1000000 }) only [go_sem,↓reduceIte,q0, q1, q2, q3, q9, q10, q11, q12, q13, hki, e4a, e6a, hg, h20, hg3, ho3, fC, codeC, List.length_map, c3, hli, hx, u3, s1, s2, s3, buildA]
          refine draw_det Tt_ok mixed [3017] [([10], [], [], false), ([191], [], [], false), ([10], [0], [], false), ([193], [0], [], false), ([17], [], [], false), ([195, 192], [], [0], false), ([17], [], [], false), ([196, 194], [], [], true)] 1 (by decide +kernel) rfl (by decide) ?_
          simp (config := { maxSteps := 1000000 }) only [go_sem,↓reduceIte]
          iterate 5 (apply det_pure; · (intro fa ga oa K' hK; simp (config := { maxSteps := 1000000 }) only [go_sem,↓reduceIte,q0, q1, q2, q3, q9, q10, q11, q12, q13, hki, e4a, e6a, hg, h20, hg3, ho3, fC, codeC, List.length_map, c3, hli, hx, u3, s1, s2, s3] at hK ⊢; exact hK))
          (apply det_store; (focus simp); (focus (intro fa ga oa K' hK; simp (config := { maxSteps := 1000000 }) only [go_sem,↓reduceIte,q0, q1, q2, q3, q9, q10, q11, q12, q13, hki, e4a, e6a, hg, h20, hg3, ho3, fC, codeC, List.length_map, c3, hli, hx, u3, s1, s2, s3] at hK ⊢; exact hK)))
          (apply det_pure; · (intro fa ga oa K' hK; simp (config := { maxSteps := 1000000 }) only [go_sem,↓reduceIte,q0, q1, q2, q3, q9, q10, q11, q12, q13, hki, e4a, e6a, hg, h20, hg3, ho3, fC, codeC, List.length_map, c3, hli, hx, u3, s1, s2, s3] at hK ⊢; exact hK))
          apply det_last
          intro K' hK'
          simp (config := { maxSteps := 1000000 }) only [go_sem,↓reduceIte,q0, q1, q2, q3, q9, q10, q11, q12, q13, hki, e4a, e6a, hg, h20, hg3, ho3, fC, codeC, List.length_map, c3, hli, hx, u3, s1, s2, s3]
          refine hK' _ ?_
          clear hK' K'
          simp (config := { maxSteps := 1000000 }) only [go_sem,↓reduceIte,q0, q1, q2, q3, q9, q10, q11, q12, q13, hki, e4a, e6a, hg, h20, hg3, ho3, fC, codeC, List.length_map, c3, hli, hx, u3, s1, s2, s3]
          refine hook_pure rfl (by simp (config := { maxSteps := 1000000 }) only [go_sem,↓reduceIte]; exact Enc_X _ _ _ _) (by simp (config := { maxSteps := 1000000 }) only [go_sem,↓reduceIte]; rfl) ?_
          rintro _ ⟨e, rfl⟩
          simp (config := { maxSteps := 1000000 }) only [go_sem,↓reduceIte,q0, q1, q2, q3, q9, q10, q11, q12, q13, hki, e4a, e6a, hg, h20, hg3, ho3, fC, codeC, List.length_map, c3, hli, hx, u3, s1, s2, s3, elemTy]
          refine ⟨Nat.le_refl _, ⟨by decide, by omega⟩, ?_⟩
          refine retF_at ⟨fun i hi => by (have := far hi; simp only [upd, this, if_false]; exact hgo i hi), fun i h5 hi => by (have := far hi; simp only [upd, this, h5, if_false]; exact hoo i h5 hi), rfl, ⟨by simp [upd, hg], _, lc, pc, _, rfl, ?_, hl, ?_⟩⟩
          · exact .inr ⟨by simp [addX], 3172, .inl rfl, by simp [upd, addX], by simp [upd, addX, codeC, List.take_of_length_le]⟩
          · exact .inr ⟨by simp [addX], by simp [upd, addX], by simp [upd, addX, flatR_take, useR]⟩
        · rw [hfx]
          simp (config := { maxSteps := 1000000 }) only [go_sem,↓reduceIte,q0, q1, q2, q3, q9, q10, q11, q12, q13, hki, e4a, e6a, hg, h20, hg3, ho3, fC, codeC, List.length_map, c3, hli, hx, u3, s1, s2, s3, buildA]
          refine draw_det Tt_ok mixed [3017] [([10], [], [], false), ([199], [], [], false), ([10], [0], [], false), ([201], [0], [], false), ([17], [], [], false), ([203, 200], [], [0], false), ([17], [], [], false), ([204, 202], [], [], true)] 1 (by decide +kernel) rfl (by decide) ?_
          simp (config := { maxSteps := 1000000 }) only [go_sem,↓reduceIte]
          iterate 5 (apply det_pure; · (intro fa ga oa K' hK; simp (config := { maxSteps := 1000000 }) only [go_sem,↓reduceIte,q0, q1, q2, q3, q9, q10, q11, q12, q13, hki, e4a, e6a, hg, h20, hg3, ho3, fC, codeC, List.length_map, c3, hli, hx, u3, s1, s2, s3] at hK ⊢; exact hK))
          (apply det_store; (focus simp); (focus (intro fa ga oa K' hK; simp (config := { maxSteps := 1000000 }) only [go_sem,↓reduceIte,q0, q1, q2, q3, q9, q10, q11, q12, q13, hki, e4a, e6a, hg, h20, hg3, ho3, fC, codeC, List.length_map, c3, hli, hx, u3, s1, s2, s3] at hK ⊢; exact hK)))
          (apply det_pure; · (intro fa ga oa K' hK; simp (config := { maxSteps := 1000000 }) only [go_sem,↓reduceIte,q0, q1, q2, q3, q9, q10, q11, q12, q13, hki, e4a, e6a, hg, h20, hg3, ho3, fC, codeC, List.length_map, c3, hli, hx, u3, s1, s2, s3] at hK ⊢; exact hK))
          apply det_last
          intro K' hK'
          simp (config := { maxSteps := 1000000 }) only [go_sem,↓reduceIte,q0, q1, q2, q3, q9, q10, q11, q12, q13, hki, e4a, e6a, hg, h20, hg3, ho3, fC, codeC, List.length_map, c3, hli, hx, u3, s1, s2, s3]
          refine hK' _ ?_
          clear hK' K'
          simp (config := { maxSteps := 1000000 }) only [go_sem,↓reduceIte,q0, q1, q2, q3, q9, q10, q11, q12, q13, hki, e4a, e6a, hg, h20, hg3, ho3, fC, codeC, List.length_map, c3, hli, hx, u3, s1, s2, s3]
          refine hook_pure rfl (by simp (config := { maxSteps := 1000000 }) only [go_sem,↓reduceIte]; exact Enc_X _ _ _ _) (by simp (config := { maxSteps := 1000000 }) only [go_sem,↓reduceIte]; rfl) ?_
          rintro _ ⟨e, rfl⟩
          simp (config := { maxSteps := 1000000 }) only [go_sem,↓reduceIte,q0, q1, q2, q3, q9, q10, q11, q12, q13, hki, e4a, e6a, hg, h20, hg3, ho3, fC, codeC, List.length_map, c3, hli, hx, u3, s1, s2, s3, elemTy]
          refine ⟨Nat.le_refl _, ⟨by decide, by omega⟩, ?_⟩
          refine retF_at ⟨fun i hi => by (have := far hi; simp only [upd, this, if_false]; exact hgo i hi), fun i h5 hi => by (have := far hi; simp only [upd, this, h5, if_false]; exact hoo i h5 hi), rfl, ⟨by simp [upd, hg], _, lc, pc, _, rfl, ?_, hl, ?_⟩⟩
          · exact .inr ⟨by simp [addX], 3172, .inl rfl, by simp [upd, addX], by simp [upd, addX, codeC, List.take_of_length_le]⟩
          · exact .inr ⟨by simp [addX], by simp [upd, addX], by simp [upd, addX, flatR_take, useR]⟩
        · rw [hfx]
          simp (config := { maxSteps := 1000000 }) only [go_sem,↓reduceIte,q0, q1, q2, q3, q9, q10, q11, q12, q13, hki, e4a, e6a, hg, h20, hg3, ho3, fC, codeC, List.length_map, c3, hli, hx, u3, s1, s2, s3, buildA]
          refine hook_pure rfl (by simp (config := { maxSteps := 1000000 }) only [go_sem,↓reduceIte]; exact Enc_X _ _ _ _) (by simp (config := { maxSteps := 1000000 }) only [go_sem,↓reduceIte]; rfl) ?_
          rintro _ ⟨e, rfl⟩
          simp (config := { maxSteps := 1000000 }) only [go_sem,↓reduceIte,q0, q1, q2, q3, q9, q10, q11, q12, q13, hki, e4a, e6a, hg, h20, hg3, ho3, fC, codeC, List.length_map, c3, hli, hx, u3, s1, s2, s3, elemTy]
          refine ⟨Nat.le_refl _, ⟨by decide, by omega⟩, ?_⟩
          refine retF_at ⟨fun i hi => by (have := far hi; simp only [upd, this, if_false]; exact hgo i hi), fun i h5 hi => by (have := far hi; simp only [upd, this, h5, if_false]; exact hoo i h5 hi), rfl, ⟨by simp [upd, hg], _, lc, pc, _, rfl, ?_, hl, ?_⟩⟩
          · exact .inr ⟨by simp [addX], 3172, .inl rfl, by simp [upd, addX], by simp [upd, addX, codeC, List.take_of_length_le]⟩
          · exact .inr ⟨by simp [addX], by simp [upd, addX], by simp [upd, addX, flatR_take, useR]⟩
        · rw [hfx]
          simp (config := { maxSteps := 1000000 }) only [go_sem,↓reduceIte,q0, q1, q2, q3, q9, q10, q11, q12, q13, hki, e4a, e6a, hg, h20, hg3, ho3, fC, codeC, List.length_map, c3, hli, hx, u3, s1, s2, s3, buildA]
          refine draw_det Tt_ok mixed [3017] [([10], [], [], false), ([180], [], [], false), ([10], [0], [], false), ([182], [0], [], false), ([10], [0], [], false), ([184], [0], [], false), ([17], [], [], false), ([186, 181], [], [0], false), ([17], [], [], false), ([187, 183], [], [0], false), ([17], [], [], false), ([188, 185], [], [], true)] 1 (by decide +kernel) rfl (by decide) ?_
          simp (config := { maxSteps := 1000000 }) only [go_sem,↓reduceIte]
          iterate 7 (apply det_pure; · (intro fa ga oa K' hK; simp (config := { maxSteps := 1000000 }) only [go_sem,↓reduceIte,q0, q1, q2, q3, q9, q10, q11, q12, q13, hki, e4a, e6a, hg, h20, hg3, ho3, fC, codeC, List.length_map, c3, hli, hx, u3, s1, s2, s3] at hK ⊢; exact hK))
          (apply det_store; (focus simp); (focus (intro fa ga oa K' hK; simp (config := { maxSteps := 1000000 }) only [go_sem,↓reduceIte,q0, q1, q2, q3, q9, q10, q11, q12, q13, hki, e4a, e6a, hg, h20, hg3, ho3, fC, codeC, List.length_map, c3, hli, hx, u3, s1, s2, s3] at hK ⊢; exact hK)))
          (apply det_pure; · (intro fa ga oa K' hK; simp (config := { maxSteps := 1000000 }) only [go_sem,↓reduceIte,q0, q1, q2, q3, q9, q10, q11, q12, q13, hki, e4a, e6a, hg, h20, hg3, ho3, fC, codeC, List.length_map, c3, hli, hx, u3, s1, s2, s3] at hK ⊢; exact hK))
          (apply det_store; (focus simp); (focus (intro fa ga oa K' hK; simp (config := { maxSteps := 1000000 }) only [go_sem,↓reduceIte,q0, q1, q2, q3, q9, q10, q11, q12, q13, hki, e4a, e6a, hg, h20, hg3, ho3, fC, codeC, List.length_map, c3, hli, hx, u3, s1, s2, s3] at hK ⊢; exact hK)))
          (apply det_pure; · (intro fa ga oa K' hK; simp (config := { maxSteps := 1000000 }) only [go_sem,↓reduceIte,q0, q1, q2, q3, q9, q10, q11, q12, q13, hki, e4a, e6a, hg, h20, hg3, ho3, fC, codeC, List.length_map, c3, hli, hx, u3, s1, s2, s3] at hK ⊢; exact hK))
          apply det_last
          intro K' hK'
          simp (config := { maxSteps := 1000000 }) only [go_sem,↓reduceIte,q0, q1, q2, q3, q9, q10, q11, q12, q13, hki, e4a, e6a, hg, h20, hg3, ho3, fC, codeC, List.length_map, c3, hli, hx, u3, s1, s2, s3]
          refine hK' _ ?_
          clear hK' K'
          simp (config := { maxSteps := 1000000 }) only [go_sem,↓reduceIte,q0, q1, q2, q3, q9, q10, q11, q12, q13, hki, e4a, e6a, hg, h20, hg3, ho3, fC, codeC, List.length_map, c3, hli, hx, u3, s1, s2, s3]
          refine hook_pure rfl (by simp (config := { maxSteps := 1000000 }) only [go_sem,↓reduceIte]; exact Enc_X _ _ _ _) (by simp (config := { maxSteps := 1000000 }) only [go_sem,↓reduceIte]; rfl) ?_
          rintro _ ⟨e, rfl⟩
          simp (config := { maxSteps := 1000000 }) only [go_sem,↓reduceIte,q0, q1, q2, q3, q9, q10, q11, q12, q13, hki, e4a, e6a, hg, h20, hg3, ho3, fC, codeC, List.length_map, c3, hli, hx, u3, s1, s2, s3, elemTy]
          refine ⟨Nat.le_refl _, ⟨by decide, by omega⟩, ?_⟩
          refine retF_at ⟨fun i hi => by (have := far hi; simp only [upd, this, if_false]; exact hgo i hi), fun i h5 hi => by (have := far hi; simp only [upd, this, h5, if_false]; exact hoo i h5 hi), rfl, ⟨by simp [upd, hg], _, lc, pc, _, rfl, ?_, hl, ?_⟩⟩
          · exact .inr ⟨by simp [addX], 3172, .inl rfl, by simp [upd, addX], by simp [upd, addX, codeC, List.take_of_length_le]⟩
          · exact .inr ⟨by simp [addX], by simp [upd, addX], by simp [upd, addX, flatR_take, useR]⟩
    · by_cases hlen : st.code.length = 16384
      · rw [endA_full e4 hlen] at hP
        subst hP
        have hli : ((st.code.length : Nat) : Int) = 16384 := by omega
        simp (config := { maxSteps := 1000000 }) only [go_sem,↓reduceIte,q0, q1, q2, q3, q9, q10, q11, q12, q13, hki, e4a, e6a, hg, h20, hg3, ho3, fC, codeC, List.length_map, c3, hli]
        exact retF_at ⟨hgo, hoo, rfl⟩
      have hli : ¬ ((st.code.length : Nat) : Int) = 16384 := by omega
      rw [endA_ins e6 e4 hlen, hsh] at hP
      subst hP
      by_cases hx : xl = []
      · rw [show useX st line xl = st from if_pos hx]
        subst hx
        simp (config := { maxSteps := 1000000 }) only [go_sem,↓reduceIte,q0, q1, q2, q3, q9, q10, q11, q12, q13, hki, e4a, e6a, hg, h20, hg3, ho3, fC, codeC, List.length_map, c3, hli]
        refine hook_pure rfl (by simp (config := { maxSteps := 1000000 }) only [go_sem,↓reduceIte]; exact OpR_A op) (by simp (config := { maxSteps := 1000000 }) only [go_sem,↓reduceIte]; rfl) ?_
        rintro _ rfl
        rcases hsc with ⟨s1, s2, s3, hfx⟩ | ⟨s1, s2, s3, hfx⟩ | ⟨s1, s2, s3, hfx⟩ | ⟨s1, s2, s3, hfx⟩
        · rw [hfx]
          simp (config := { maxSteps := 1000000 }) only [go_sem,↓reduceIte,q0, q1, q2, q3, q9, q10, q11, q12, q13, hki, e4a, e6a, hg, h20, hg3, ho3, fC, codeC, List.length_map, c3, hli, s1, s2, s3, buildA]
          refine draw_det Tt_ok mixed [3017] [([10], [], [], false), ([191], [], [], false), ([10], [0], [], false), ([193], [0], [], false), ([17], [], [], false), ([195, 192], [], [0], false), ([17], [], [], false), ([196, 194], [], [], true)] 1 (by decide +kernel) rfl (by decide) ?_
          simp (config := { maxSteps := 1000000 }) only [go_sem,↓reduceIte]
          iterate 5 (apply det_pure; · (intro fa ga oa K' hK; simp (config := { maxSteps := 1000000 }) only [go_sem,↓reduceIte,q0, q1, q2, q3, q9, q10, q11, q12, q13, hki, e4a, e6a, hg, h20, hg3, ho3, fC, codeC, List.length_map, c3, hli, s1, s2, s3] at hK ⊢; exact hK))
          (apply det_store; (focus simp); (focus (intro fa ga oa K' hK; simp (config := { maxSteps := 1000000 }) only [go_sem,↓reduceIte,q0, q1, q2, q3, q9, q10, q11, q12, q13, hki, e4a, e6a, hg, h20, hg3, ho3, fC, codeC, List.length_map, c3, hli, s1, s2, s3] at hK ⊢; exact hK)))
          (apply det_pure; · (intro fa ga oa K' hK; simp (config := { maxSteps := 1000000 }) only [go_sem,↓reduceIte,q0, q1, q2, q3, q9, q10, q11, q12, q13, hki, e4a, e6a, hg, h20, hg3, ho3, fC, codeC, List.length_map, c3, hli, s1, s2, s3] at hK ⊢; exact hK))
          apply det_last
          intro K' hK'
          simp (config := { maxSteps := 1000000 }) only [go_sem,↓reduceIte,q0, q1, q2, q3, q9, q10, q11, q12, q13, hki, e4a, e6a, hg, h20, hg3, ho3, fC, codeC, List.length_map, c3, hli, s1, s2, s3]
          refine hK' _ ?_
          clear hK' K'
          simp (config := { maxSteps := 1000000 }) only [go_sem,↓reduceIte,q0, q1, q2, q3, q9, q10, q11, q12, q13, hki, e4a, e6a, hg, h20, hg3, ho3, fC, codeC, List.length_map, c3, hli, s1, s2, s3]
          refine hook_pure rfl (by simp (config := { maxSteps := 1000000 }) only [go_sem,↓reduceIte]; exact Enc_X _ _ _ _) (by simp (config := { maxSteps := 1000000 }) only [go_sem,↓reduceIte]; rfl) ?_
          rintro _ ⟨e, rfl⟩
          simp (config := { maxSteps := 1000000 }) only [go_sem,↓reduceIte,q0, q1, q2, q3, q9, q10, q11, q12, q13, hki, e4a, e6a, hg, h20, hg3, ho3, fC, codeC, List.length_map, c3, hli, s1, s2, s3, elemTy]
          refine ⟨Nat.le_refl _, ⟨by decide, by omega⟩, ?_⟩
          refine retF_at ⟨fun i hi => by (have := far hi; simp only [upd, this, if_false]; exact hgo i hi), fun i h5 hi => by (have := far hi; simp only [upd, this, h5, if_false]; exact hoo i h5 hi), rfl, ⟨by simp [upd, hg], _, lc, pc, _, rfl, ?_, hl, ?_⟩⟩
          · exact .inr ⟨by simp [addX], 3223, .inr rfl, by simp [upd, addX], by simp [upd, addX, codeC, List.take_of_length_le]⟩
          · exact hu
        · rw [hfx]
          simp (config := { maxSteps := 1000000 }) only [go_sem,↓reduceIte,q0, q1, q2, q3, q9, q10, q11, q12, q13, hki, e4a, e6a, hg, h20, hg3, ho3, fC, codeC, List.length_map, c3, hli, s1, s2, s3, buildA]
          refine draw_det Tt_ok mixed [3017] [([10], [], [], false), ([199], [], [], false), ([10], [0], [], false), ([201], [0], [], false), ([17], [], [], false), ([203, 200], [], [0], false), ([17], [], [], false), ([204, 202], [], [], true)] 1 (by decide +kernel) rfl (by decide) ?_
          simp (config := { maxSteps := 1000000 }) only [go_sem,↓reduceIte]
          iterate 5 (apply det_pure; · (intro fa ga oa K' hK; simp (config := { maxSteps := 1000000 }) only [go_sem,↓reduceIte,q0, q1, q2, q3, q9, q10, q11, q12, q13, hki, e4a, e6a, hg, h20, hg3, ho3, fC, codeC, List.length_map, c3, hli, s1, s2, s3] at hK ⊢; exact hK))
          (apply det_store; (focus simp); (focus (intro fa ga oa K' hK; simp (config := { maxSteps := 1000000 }) only [go_sem,↓reduceIte,q0, q1, q2, q3, q9, q10, q11, q12, q13, hki, e4a, e6a, hg, h20, hg3, ho3, fC, codeC, List.length_map, c3, hli, s1, s2, s3] at hK ⊢; exact hK)))
          (apply det_pure; · (intro fa ga oa K' hK; simp (config := { maxSteps := 1000000 }) only [go_sem,↓reduceIte,q0, q1, q2, q3, q9, q10, q11, q12, q13, hki, e4a, e6a, hg, h20, hg3, ho3, fC, codeC, List.length_map, c3, hli, s1, s2, s3] at hK ⊢; exact hK))
          apply det_last
          intro K' hK'
          simp (config := { maxSteps := 1000000 }) only [go_sem,↓reduceIte,q0, q1, q2, q3, q9, q10, q11, q12, q13, hki, e4a, e6a, hg, h20, hg3, ho3, fC, codeC, List.length_map, c3, hli, s1, s2, s3]
          refine hK' _ ?_
          clear hK' K'
          simp (config := { maxSteps := 1000000 }) only [go_sem,↓reduceIte,q0, q1, q2, q3, q9, q10, q11, q12, q13, hki, e4a, e6a, hg, h20, hg3, ho3, fC, codeC, List.length_map, c3, hli, s1, s2, s3]
          refine hook_pure rfl (by simp (config := { maxSteps := 1000000 }) only [go_sem,↓reduceIte]; exact Enc_X _ _ _ _) (by simp (config := { maxSteps := 1000000 }) only [go_sem,↓reduceIte]; rfl) ?_
          rintro _ ⟨e, rfl⟩
          simp (config := { maxSteps := 1000000 }) only [go_sem,↓reduceIte,q0, q1, q2, q3, q9, q10, q11, q12, q13, hki, e4a, e6a, hg, h20, hg3, ho3, fC, codeC, List.length_map, c3, hli, s1, s2, s3, elemTy]
          refine ⟨Nat.le_refl _, ⟨by decide, by omega⟩, ?_⟩
          refine retF_at ⟨fun i hi => by (have := far hi; simp only [upd, this, if_false]; exact hgo i hi), fun i h5 hi => by (have := far hi; simp only [upd, this, h5, if_false]; exact hoo i h5 hi), rfl, ⟨by simp [upd, hg], _, lc, pc, _, rfl, ?_, hl, ?_⟩⟩
          · exact .inr ⟨by simp [addX], 3223, .inr rfl, by simp [upd, addX], by simp [upd, addX, codeC, List.take_of_length_le]⟩
          · exact hu
        · rw [hfx]
          simp (config := { maxSteps := 1000000 }) only [go_sem,↓reduceIte,q0, q1, q2, q3, q9, q10, q11, q12, q13, hki, e4a, e6a, hg, h20, hg3, ho3, fC, codeC, List.length_map, c3, hli, s1, s2, s3, buildA]
          refine hook_pure rfl (by simp (config := { maxSteps := 1000000 }) only [go_sem,↓reduceIte]; exact Enc_X _ _ _ _) (by simp (config := { maxSteps := 1000000 }) only [go_sem,↓reduceIte]; rfl) ?_
          rintro _ ⟨e, rfl⟩
          simp (config := { maxSteps := 1000000 }) only [go_sem,↓reduceIte,q0, q1, q2, q3, q9, q10, q11, q12, q13, hki, e4a, e6a, hg, h20, hg3, ho3, fC, codeC, List.length_map, c3, hli, s1, s2, s3, elemTy]
          refine ⟨Nat.le_refl _, ⟨by decide, by omega⟩, ?_⟩
          refine retF_at ⟨fun i hi => by (have := far hi; simp only [upd, this, if_false]; exact hgo i hi), fun i h5 hi => by (have := far hi; simp only [upd, this, h5, if_false]; exact hoo i h5 hi), rfl, ⟨by simp [upd, hg], _, lc, pc, _, rfl, ?_, hl, ?_⟩⟩
          · exact .inr ⟨by simp [addX], 3223, .inr rfl, by simp [upd, addX], by simp [upd, addX, codeC, List.take_of_length_le]⟩
          · exact hu
        · rw [hfx]
          simp (config := { maxSteps := 1000000 }) only [go_sem,↓reduceIte,q0, q1, q2, q3, q9, q10, q11, q12, q13, hki, e4a, e6a, hg, h20, hg3, ho3, fC, codeC, List.length_map, c3, hli, s1, s2, s3, buildA]
          refine draw_det Tt_ok mixed [3017] [([10], [], [], false), ([180], [], [], false), ([10], [0], [], false), ([182], [0], [], false), ([10], [0], [], false), ([184], [0], [], false), ([17], [], [], false), ([186, 181], [], [0], false), ([17], [], [], false), ([187, 183], [], [0], false), ([17], [], [], false), ([188, 185], [], [], true)] 1 (by decide +kernel) rfl (by decide) ?_
          simp (config := { maxSteps := 1000000 }) only [go_sem,↓reduceIte]
          iterate 7 (apply det_pure; · (intro fa ga oa K' hK; simp (config := { maxSteps := 1000000 }) only [go_sem,↓reduceIte,q0, q1, q2, q3, q9, q10, q11, q12, q13, hki, e4a, e6a, hg, h20, hg3, ho3, fC, codeC, List.length_map, c3, hli, s1, s2, s3] at hK ⊢; exact hK))
          (apply det_store; (focus simp); (focus (intro fa ga oa K' hK; simp (config := { maxSteps := 1000000 }) only [go_sem,↓reduceIte,q0, q1, q2, q3, q9, q10, q11, q12, q13, hki, e4a, e6a, hg, h20, hg3, ho3, fC, codeC, List.length_map, c3, hli, s1, s2, s3] at hK ⊢; exact hK)))
          (apply det_pure; · (intro fa ga oa K' hK; simp (config := { maxSteps := 1000000 }) only [go_sem,↓reduceIte,q0, q1, q2, q3, q9, q10, q11, q12, q13, hki, e4a, e6a, hg, h20, hg3, ho3, fC, codeC, List.length_map, c3, hli, s1, s2, s3] at hK ⊢; exact hK))
          (apply det_store; (focus simp); (focus (intro fa ga oa K' hK; simp (config := { maxSteps := 1000000 }) only [go_sem,↓reduceIte,q0, q1, q2, q3, q9, q10, q11, q12, q13, hki, e4a, e6a, hg, h20, hg3, ho3, fC, codeC, List.length_map, c3, hli, s1, s2, s3] at hK ⊢; exact hK)))
          (apply det_pure; · (intro fa ga oa K' hK; simp (config := { maxSteps := 1000000 }) only [go_sem,↓reduceIte,q0, q1, q2, q3, q9, q10, q11, q12, q13, hki, e4a, e6a, hg, h20, hg3, ho3, fC, codeC, List.length_map, c3, hli, s1, s2, s3] at hK ⊢; exact hK))
          apply det_last
          intro K' hK'
          simp (config := { maxSteps := 1000000 }) only [go_sem,↓reduceIte,q0, q1, q2, q3, q9, q10, q11, q12, q13, hki, e4a, e6a, hg, h20, hg3, ho3, fC, codeC, List.length_map, c3, hli, s1, s2, s3]
          refine hK' _ ?_
          clear hK' K'
          simp (config := { maxSteps := 1000000 }) only [go_sem,↓reduceIte,q0, q1, q2, q3, q9, q10, q11, q12, q13, hki, e4a, e6a, hg, h20, hg3, ho3, fC, codeC, List.length_map, c3, hli, s1, s2, s3]
          refine hook_pure rfl (by simp (config := { maxSteps := 1000000 }) only [go_sem,↓reduceIte]; exact Enc_X _ _ _ _) (by simp (config := { maxSteps := 1000000 }) only [go_sem,↓reduceIte]; rfl) ?_
          rintro _ ⟨e, rfl⟩
          simp (config := { maxSteps := 1000000 }) only [go_sem,↓reduceIte,q0, q1, q2, q3, q9, q10, q11, q12, q13, hki, e4a, e6a, hg, h20, hg3, ho3, fC, codeC, List.length_map, c3, hli, s1, s2, s3, elemTy]
          refine ⟨Nat.le_refl _, ⟨by decide, by omega⟩, ?_⟩
          refine retF_at ⟨fun i hi => by (have := far hi; simp only [upd, this, if_false]; exact hgo i hi), fun i h5 hi => by (have := far hi; simp only [upd, this, h5, if_false]; exact hoo i h5 hi), rfl, ⟨by simp [upd, hg], _, lc, pc, _, rfl, ?_, hl, ?_⟩⟩
          · exact .inr ⟨by simp [addX], 3223, .inr rfl, by simp [upd, addX], by simp [upd, addX, codeC, List.take_of_length_le]⟩
          · exact hu
      rw [show useX st line xl = { st with uses := st.uses ++ [(line, st.code.length, xl)] } from if_neg hx]
      rcases hu with ⟨u1, rfl⟩ | ⟨u1, rfl, u3⟩
      · simp (config := { maxSteps := 1000000 }) only [go_sem,↓reduceIte,q0, q1, q2, q3, q9, q10, q11, q12, q13, hki, e4a, e6a, hg, h20, hg3, ho3, fC, codeC, List.length_map, c3, hli, hx]
        refine draw_det Tt_ok mixed [3156, 3157, 20] [([0], [0, 1], [], false), ([0], [0], [], false), ([143], [0], [], false), ([144], [0], [], false), ([145], [0], [], false), ([12], [], [], false), ([3], [], [], false), ([0], [], [], false), ([149], [], [], false), ([150], [], [], false), ([151], [], [], false), ([152], [], [], false), ([153], [], [], false), ([147, 148, 154], [], [], false), ([155], [], [0], false), ([146, 156], [], [1], false), ([142], [], [], false), ([158], [], [], false), ([159, 157], [], [], true)] 3 (by decide +kernel) rfl (by decide) ?_
        simp (config := { maxSteps := 1000000 }) only [go_sem,↓reduceIte]
        iterate 13 (apply det_pure; · (intro fa ga oa K' hK; simp (config := { maxSteps := 1000000 }) only [go_sem,↓reduceIte,q0, q1, q2, q3, q9, q10, q11, q12, q13, hki, e4a, e6a, hg, h20, hg3, ho3, fC, codeC, List.length_map, c3, hli, hx] at hK ⊢; exact hK))
        (apply det_pure; · (intro fa ga oa K' hK; simp (config := { maxSteps := 1000000 }) only [go_sem,↓reduceIte,buildA] at hK ⊢; exact hK))
        (apply det_new; · (intro fa ga oa K' hK; simp (config := { maxSteps := 1000000 }) only [go_sem,↓reduceIte,q0, q1, q2, q3, q9, q10, q11, q12, q13, hki, e4a, e6a, hg, h20, hg3, ho3, fC, codeC, List.length_map, c3, hli, hx, elemTy] at hK ⊢; exact hK))
        (apply det_new; · (intro fa ga oa K' hK; simp (config := { maxSteps := 1000000 }) only [go_sem,↓reduceIte,q0, q1, q2, q3, q9, q10, q11, q12, q13, hki, e4a, e6a, hg, h20, hg3, ho3, fC, codeC, List.length_map, c3, hli, hx, elemTy] at hK ⊢; first | exact ⟨⟨by decide, by decide⟩, hK⟩ | exact ⟨⟨by decide, by omega⟩, hK⟩ | exact ⟨Nat.le_of_eq (flatR_len _).symm, ⟨by decide, by omega⟩, hK⟩ | exact ⟨Nat.le_refl _, ⟨by decide, by omega⟩, hK⟩))
        iterate 2 (apply det_pure; · (intro fa ga oa K' hK; simp (config := { maxSteps := 1000000 }) only [go_sem,↓reduceIte,q0, q1, q2, q3, q9, q10, q11, q12, q13, hki, e4a, e6a, hg, h20, hg3, ho3, fC, codeC, List.length_map, c3, hli, hx] at hK ⊢; exact hK))
        apply det_last
        intro K' hK'
        simp (config := { maxSteps := 1000000 }) only [go_sem,↓reduceIte,q0, q1, q2, q3, q9, q10, q11, q12, q13, hki, e4a, e6a, hg, h20, hg3, ho3, fC, codeC, List.length_map, c3, hli, hx]
        refine hK' _ ?_
        clear hK' K'
        simp (config := { maxSteps := 1000000 }) only [go_sem,↓reduceIte,q0, q1, q2, q3, q9, q10, q11, q12, q13, hki, e4a, e6a, hg, h20, hg3, ho3, fC, codeC, List.length_map, c3, hli, hx]
        refine hook_pure rfl (by simp (config := { maxSteps := 1000000 }) only [go_sem,↓reduceIte]; exact OpR_A op) (by simp (config := { maxSteps := 1000000 }) only [go_sem,↓reduceIte]; rfl) ?_
        rintro _ rfl
        rcases hsc with ⟨s1, s2, s3, hfx⟩ | ⟨s1, s2, s3, hfx⟩ | ⟨s1, s2, s3, hfx⟩ | ⟨s1, s2, s3, hfx⟩
        · rw [hfx]
          simp (config := { maxSteps := 1000000 }) only [go_sem,↓reduceIte,q0, q1, q2, q3, q9, q10, q11, q12, q13, hki, e4a, e6a, hg, h20, hg3, ho3, fC, codeC, List.length_map, c3, hli, hx, s1, s2, s3, buildA]
          refine draw_det Tt_ok mixed [3017] [([10], [], [], false), ([191], [], [], false), ([10], [0], [], false), ([193], [0], [], false), ([17], [], [], false), ([195, 192], [], [0], false), ([17], [], [], false), ([196, 194], [], [], true)] 1 (by decide +kernel) rfl (by decide) ?_
          simp (config := { maxSteps := 1000000 }) only [go_sem,↓reduceIte]
          iterate 5 (apply det_pure; · (intro fa ga oa K' hK; simp (config := { maxSteps := 1000000 }) only [go_sem,↓reduceIte,q0, q1, q2, q3, q9, q10, q11, q12, q13, hki, e4a, e6a, hg, h20, hg3, ho3, fC, codeC, List.length_map, c3, hli, hx, s1, s2, s3] at hK ⊢; exact hK))
          (apply det_store; (focus simp); (focus (intro fa ga oa K' hK; simp (config := { maxSteps := 1000000 }) only [go_sem,↓reduceIte,q0, q1, q2, q3, q9, q10, q11, q12, q13, hki, e4a, e6a, hg, h20, hg3, ho3, fC, codeC, List.length_map, c3, hli, hx, s1, s2, s3] at hK ⊢; exact hK)))
          (apply det_pure; · (intro fa ga oa K' hK; simp (config := { maxSteps := 1000000 }) only [go_sem,↓reduceIte,q0, q1, q2, q3, q9, q10, q11, q12, q13, hki, e4a, e6a, hg, h20, hg3, ho3, fC, codeC, List.length_map, c3, hli, hx, s1, s2, s3] at hK ⊢; exact hK))
          apply det_last
          intro K' hK'
          simp (config := { maxSteps := 1000000 }) only [go_sem,↓reduceIte,q0, q1, q2, q3, q9, q10, q11, q12, q13, hki, e4a, e6a, hg, h20, hg3, ho3, fC, codeC, List.length_map, c3, hli, hx, s1, s2, s3]
          refine hK' _ ?_
          clear hK' K'
          simp (config := { maxSteps := 1000000 }) only [go_sem,↓reduceIte,q0, q1, q2, q3, q9, q10, q11, q12, q13, hki, e4a, e6a, hg, h20, hg3, ho3, fC, codeC, List.length_map, c3, hli, hx, s1, s2, s3]
          refine hook_pure rfl (by simp (config := { maxSteps := 1000000 }) only [go_sem,↓reduceIte]; exact Enc_X _ _ _ _) (by simp (config := { maxSteps := 1000000 }) only [go_sem,↓reduceIte]; rfl) ?_
          rintro _ ⟨e, rfl⟩
          simp (config := { maxSteps := 1000000 }) only [go_sem,↓reduceIte,q0, q1, q2, q3, q9, q10, q11, q12, q13, hki, e4a, e6a, hg, h20, hg3, ho3, fC, codeC, List.length_map, c3, hli, hx, s1, s2, s3, elemTy]
          refine ⟨Nat.le_refl _, ⟨by decide, by omega⟩, ?_⟩
          refine retF_at ⟨fun i hi => by (have := far hi; simp only [upd, this, if_false]; exact hgo i hi), fun i h5 hi => by (have := far hi; simp only [upd, this, h5, if_false]; exact hoo i h5 hi), rfl, ⟨by simp [upd, hg], _, lc, pc, _, rfl, ?_, hl, ?_⟩⟩
          · exact .inr ⟨by simp [addX], 3223, .inr rfl, by simp [upd, addX], by simp [upd, addX, codeC, List.take_of_length_le]⟩
          · exact .inr ⟨by simp [addX], by simp [upd, u1, addX], by simp [upd, u1, addX, useR]⟩
        · rw [hfx]
          simp (config := { maxSteps := 1000000 }) only [go_sem,↓reduceIte,q0, q1, q2, q3, q9, q10, q11, q12, q13, hki, e4a, e6a, hg, h20, hg3, ho3, fC, codeC, List.length_map, c3, hli, hx, s1, s2, s3, buildA]
          refine draw_det Tt_ok mixed [3017] [([10], [], [], false), ([199], [], [], false), ([10], [0], [], false), ([201], [0], [], false), ([17], [], [], false), ([203, 200], [], [0], false), ([17], [], [], false), ([204, 202], [], [], true)] 1 (by decide +kernel) rfl (by decide) ?_
          simp (config := { maxSteps := 1000000 }) only [go_sem,↓reduceIte]
          iterate 5 (apply det_pure; · (intro fa ga oa K' hK; simp (config := { maxSteps := 1000000 }) only [go_sem,↓reduceIte,q0, q1, q2, q3, q9, q10, q11, q12, q13, hki, e4a, e6a, hg, h20, hg3, ho3, fC, codeC, List.length_map, c3, hli, hx, s1, s2, s3] at hK ⊢; exact hK))
          (apply det_store; (focus simp); (focus (intro fa ga oa K' hK; simp (config := { maxSteps := 1000000 }) only [go_sem,↓reduceIte,q0, q1, q2, q3, q9, q10, q11, q12, q13, hki, e4a, e6a, hg, h20, hg3, ho3, fC, codeC, List.length_map, c3, hli, hx, s1, s2, s3] at hK ⊢; exact hK)))
          (apply det_pure; · (intro fa ga oa K' hK; simp (config := { maxSteps := 1000000 }) only [go_sem,↓reduceIte,q0, q1, q2, q3, q9, q10, q11, q12, q13, hki, e4a, e6a, hg, h20, hg3, ho3, fC, codeC, List.length_map, c3, hli, hx, s1, s2, s3] at hK ⊢; exact hK))
          apply det_last
          intro K' hK'
          simp (config := { maxSteps := 1000000 }) only [go_sem,↓reduceIte,q0, q1, q2, q3, q9, q10, q11, q12, q13, hki, e4a, e6a, hg, h20, hg3, ho3, fC, codeC, List.length_map, c3, hli, hx, s1, s2, s3]
          refine hK' _ ?_
          clear hK' K'
          simp (config := { maxSteps := 1000000 }) only [go_sem,↓reduceIte,q0, q1, q2, q3, q9, q10, q11, q12, q13, hki, e4a, e6a, hg, h20, hg3, ho3, fC, codeC, List.length_map, c3, hli, hx, s1, s2, s3]
          refine hook_pure rfl (by simp (config := { maxSteps := 1000000 }) only [go_sem,↓reduceIte]; exact Enc_X _ _ _ _) (by simp (config := { maxSteps := 1000000 }) only [go_sem,↓reduceIte]; rfl) ?_
          rintro _ ⟨e, rfl⟩
          simp (config := { maxSteps := 1000000 }) only [go_sem,↓reduceIte,q0, q1, q2, q3, q9, q10, q11, q12, q13, hki, e4a, e6a, hg, h20, hg3, ho3, fC, codeC, List.length_map, c3, hli, hx, s1, s2, s3, elemTy]
          refine ⟨Nat.le_refl _, ⟨by decide, by omega⟩, ?_⟩
          refine retF_at ⟨fun i hi => by (have := far hi; simp only [upd, this, if_false]; exact hgo i hi), fun i h5 hi => by (have := far hi; simp only [upd, this, h5, if_false]; exact hoo i h5 hi), rfl, ⟨by simp [upd, hg], _, lc, pc, _, rfl, ?_, hl, ?_⟩⟩
          · exact .inr ⟨by simp [addX], 3223, .inr rfl, by simp [upd, addX], by simp [upd, addX, codeC, List.take_of_length_le]⟩
          · exact .inr ⟨by simp [addX], by simp [upd, u1, addX], by simp [upd, u1, addX, useR]⟩
        · rw [hfx]
          simp (config := { maxSteps := 1000000 }) only [go_sem,↓reduceIte,q0, q1, q2, q3, q9, q10, q11, q12, q13, hki, e4a, e6a, hg, h20, hg3, ho3, fC, codeC, List.length_map, c3, hli, hx, s1, s2, s3, buildA]
          refine hook_pure rfl (by simp (config := { maxSteps := 1000000 }) only [go_sem,↓reduceIte]; exact Enc_X _ _ _ _) (by simp (config := { maxSteps := 1000000 }) only [go_sem,↓reduceIte]; rfl) ?_
          rintro _ ⟨e, rfl⟩
          simp (config := { maxSteps := 1000000 }) only [go_sem,↓reduceIte,q0, q1, q2, q3, q9, q10, q11, q12, q13, hki, e4a, e6a, hg, h20, hg3, ho3, fC, codeC, List.length_map, c3, hli, hx, s1, s2, s3, elemTy]
          refine ⟨Nat.le_refl _, ⟨by decide, by omega⟩, ?_⟩
          refine retF_at ⟨fun i hi => by (have := far hi; simp only [upd, this, if_false]; exact hgo i hi), fun i h5 hi => by (have := far hi; simp only [upd, this, h5, if_false]; exact hoo i h5 hi), rfl, ⟨by simp [upd, hg], _, lc, pc, _, rfl, ?_, hl, ?_⟩⟩
          · exact .inr ⟨by simp [addX], 3223, .inr rfl, by simp [upd, addX], by simp [upd, addX, codeC, List.take_of_length_le]⟩
          · exact .inr ⟨by simp [addX], by simp [upd, u1, addX], by simp [upd, u1, addX, useR]⟩
        · rw [hfx]
          simp (config := { maxSteps := 1000000 }) only [go_sem,↓reduceIte,q0, q1, q2, q3, q9, q10, q11, q12, q13, hki, e4a, e6a, hg, h20, hg3, ho3, fC, codeC, List.length_map, c3, hli, hx, s1, s2, s3, buildA]
          refine draw_det Tt_ok mixed [3017] [([10], [], [], false), ([180], [], [], false), ([10], [0], [], false), ([182], [0], [], false), ([10], [0], [], false), ([184], [0], [], false), ([17], [], [], false), ([186, 181], [], [0], false), ([17], [], [], false), ([187, 183], [], [0], false), ([17], [], [], false), ([188, 185], [], [], true)] 1 (by decide +kernel) rfl (by decide) ?_
          simp (config := { maxSteps := 1000000 }) only [go_sem,↓reduceIte]
          iterate 7 (apply det_pure; · (intro fa ga oa K' hK; simp (config := { maxSteps := 1000000 }) only [go_sem,↓reduceIte,q0, q1, q2, q3, q9, q10, q11, q12, q13, hki, e4a, e6a, hg, h20, hg3, ho3, fC, codeC, List.length_map, c3, hli, hx, s1, s2, s3] at hK ⊢; exact hK))
          (apply det_store; (focus simp); (focus (intro fa ga oa K' hK; simp (config := { maxSteps := 1000000 }) only [go_sem,↓reduceIte,q0, q1, q2, q3, q9, q10, q11, q12, q13, hki, e4a, e6a, hg, h20, hg3, ho3, fC, codeC, List.length_map, c3, hli, hx, s1, s2, s3] at hK ⊢; exact hK)))
          (apply det_pure; · (intro fa ga oa K' hK; simp (config := { maxSteps := 1000000 }) only [go_sem,↓reduceIte,q0, q1, q2, q3, q9, q10, q11, q12, q13, hki, e4a, e6a, hg, h20, hg3, ho3, fC, codeC, List.length_map, c3, hli, hx, s1, s2, s3] at hK ⊢; exact hK))
          (apply det_store; (focus simp); (focus (intro fa ga oa K' hK; simp (config := { maxSteps := 1000000 }) only [go_sem,↓reduceIte,q0, q1, q2, q3, q9, q10, q11, q12, q13, hki, e4a, e6a, hg, h20, hg3, ho3, fC, codeC, List.length_map, c3, hli, hx, s1, s2, s3] at hK ⊢; exact hK)))
          (apply det_pure; · (intro fa ga oa K' hK; simp (config := { maxSteps := 1000000 }) only [go_sem,↓reduceIte,q0, q1, q2, q3, q9, q10, q11, q12, q13, hki, e4a, e6a, hg, h20, hg3, ho3, fC, codeC, List.length_map, c3, hli, hx, s1, s2, s3] at hK ⊢; exact hK))
          apply det_last
          intro K' hK'
          simp (config := { maxSteps := 1000000 }) only [go_sem,↓reduceIte,q0, q1, q2, q3, q9, q10, q11, q12, q13, hki, e4a, e6a, hg, h20, hg3, ho3, fC, codeC, List.length_map, c3, hli, hx, s1, s2, s3]
          refine hK' _ ?_
          clear hK' K'
          simp (config := { maxSteps := 1000000 }) only [go_sem,↓reduceIte,q0, q1, q2, q3, q9, q10, q11, q12, q13, hki, e4a, e6a, hg, h20, hg3, ho3, fC, codeC, List.length_map, c3, hli, hx, s1, s2, s3]
          refine hook_pure rfl (by simp (config := { maxSteps := 1000000 }) only [go_sem,↓reduceIte]; exact Enc_X _ _ _ _) (by simp (config := { maxSteps := 1000000 }) only [go_sem,↓reduceIte]; rfl) ?_
          rintro _ ⟨e, rfl⟩
          simp (config := { maxSteps := 1000000 }) only [go_sem,↓reduceIte,q0, q1, q2, q3, q9, q10, q11, q12, q13, hki, e4a, e6a, hg, h20, hg3, ho3, fC, codeC, List.length_map, c3, hli, hx, s1, s2, s3, elemTy]
          refine ⟨Nat.le_refl _, ⟨by decide, by omega⟩, ?_⟩
          refine retF_at ⟨fun i hi => by (have := far hi; simp only [upd, this, if_false]; exact hgo i hi), fun i h5 hi => by (have := far hi; simp only [upd, this, h5, if_false]; exact hoo i h5 hi), rfl, ⟨by simp [upd, hg], _, lc, pc, _, rfl, ?_, hl, ?_⟩⟩
          · exact .inr ⟨by simp [addX], 3223, .inr rfl, by simp [upd, addX], by simp [upd, addX, codeC, List.take_of_length_le]⟩
          · exact .inr ⟨by simp [addX], by simp [upd, u1, addX], by simp [upd, u1, addX, useR]⟩
      · simp (config := { maxSteps := 1000000 }) only [go_sem,↓reduceIte,q0, q1, q2, q3, q9, q10, q11, q12, q13, hki, e4a, e6a, hg, h20, hg3, ho3, fC, codeC, List.length_map, c3, hli, hx, u3]
        refine draw_det Tt_ok mixed [3156, 3157, 20] [([0], [0, 1], [], false), ([0], [0], [], false), ([143], [0], [], false), ([144], [0], [], false), ([145], [0], [], false), ([12], [], [], false), ([3], [], [], false), ([0], [], [], false), ([149], [], [], false), ([150], [], [], false), ([151], [], [], false), ([152], [], [], false), ([153], [], [], false), ([147, 148, 154], [], [], false), ([155], [], [0], false), ([146, 156], [], [1], false), ([142], [], [], false), ([158], [], [], false), ([159, 157], [], [], true)] 3 (by decide +kernel) rfl (by decide) ?_
        simp (config := { maxSteps := 1000000 }) only [go_sem,↓reduceIte]
        iterate 13 (apply det_pure; · (intro fa ga oa K' hK; simp (config := { maxSteps := 1000000 }) only [go_sem,↓reduceIte,q0, q1, q2, q3, q9, q10, q11, q12, q13, hki, e4a, e6a, hg, h20, hg3, ho3, fC, codeC, List.length_map, c3, hli, hx, u3] at hK ⊢; exact hK))
        (apply det_pure; · (intro fa ga oa K' hK; simp (config := { maxSteps := 1000000 }) only [go_sem,↓reduceIte,buildA] at hK ⊢; exact hK))
        (apply det_new; · (intro fa ga oa K' hK; simp (config := { maxSteps := 1000000 }) only [go_sem,↓reduceIte,q0, q1, q2, q3, q9, q10, q11, q12, q13, hki, e4a, e6a, hg, h20, hg3, ho3, fC, codeC, List.length_map, c3, hli, hx, u3, elemTy] at hK ⊢; exact hK))
        (apply det_new; · (intro fa ga oa K' hK; simp (config := { maxSteps := 1000000 }) only [go_sem,↓reduceIte,q0, q1, q2, q3, q9, q10, q11, q12, q13, hki, e4a, e6a, hg, h20, hg3, ho3, fC, codeC, List.length_map, c3, hli, hx, u3, elemTy] at hK ⊢; first | exact ⟨⟨by decide, by decide⟩, hK⟩ | exact ⟨⟨by decide, by omega⟩, hK⟩ | exact ⟨Nat.le_of_eq (flatR_len _).symm, ⟨by decide, by omega⟩, hK⟩ | exact ⟨Nat.le_refl _, ⟨by decide, by omega⟩, hK⟩))
        iterate 2 (apply det_pure; · (intro fa ga oa K' hK; simp (config := { maxSteps := 1000000 }) only [go_sem,↓reduceIte,q0, q1, q2, q3, q9, q10, q11, q12, q13, hki, e4a, e6a, hg, h20, hg3, ho3, fC, codeC, List.length_map, c3, hli, hx, u3] at hK ⊢; exact hK))
        apply det_last
        intro K' hK'
        simp (config := { maxSteps := 1000000 }) only [go_sem,↓reduceIte,q0, q1, q2, q3, q9, q10, q11, q12, q13, hki, e4a, e6a, hg, h20, hg3, ho3, fC, codeC, List.length_map, c3, hli, hx, u3]
        refine hK' _ ?_
        clear hK' K'
        simp (config := { maxSteps := 1000000 }) only [go_sem,↓reduceIte,q0, q1, q2, q3, q9, q10, q11, q12, q13, hki, e4a, e6a, hg, h20, hg3, ho3, fC, codeC, List.length_map, c3, hli, hx, u3]
        refine hook_pure rfl (by simp (config := { maxSteps := 1000000 }) only [go_sem,↓reduceIte]; exact OpR_A op) (by simp (config := { maxSteps := 1000000 }) only [go_sem,↓reduceIte]; rfl) ?_
        rintro _ rfl
        rcases hsc with ⟨s1, s2, s3, hfx⟩ | ⟨s1, s2, s3, hfx⟩ | ⟨s1, s2, s3, hfx⟩ | ⟨s1, s2, s3, hfx⟩
        · rw [hfx]
          simp (config := { maxSteps := 1000000 }) only [go_sem,↓reduceIte,q0, q1, q2, q3, q9, q10, q11, q12, q13, hki, e4a, e6a, hg, h20, hg3, ho3, fC, codeC, List.length_map, c3, hli, hx, u3, s1, s2, s3, buildA]
          refine draw_det Tt_ok mixed [3017] [([10], [], [], false), ([191], [], [], false), ([10], [0], [], false), ([193], [0], [], false), ([17], [], [], false), ([195, 192], [], [0], false), ([17], [], [], false), ([196, 194], [], [], true)] 1 (by decide +kernel) rfl (by decide) ?_
          simp (config := { maxSteps := 1000000 }) only [go_sem,↓reduceIte]
          iterate 5 (apply det_pure; · (intro fa ga oa K' hK; simp (config := { maxSteps := 1000000 }) only [go_sem,↓reduceIte,q0, q1, q2, q3, q9, q10, q11, q12, q13, hki, e4a, e6a, hg, h20, hg3, ho3, fC, codeC, List.length_map, c3, hli, hx, u3, s1, s2, s3] at hK ⊢; exact hK))
          (apply det_store; (focus simp); (focus (intro fa ga oa K' hK; simp (config := { maxSteps := 1000000 }) only [go_sem,↓reduceIte,q0, q1, q2, q3, q9, q10, q11, q12, q13, hki, e4a, e6a, hg, h20, hg3, ho3, fC, codeC, List.length_map, c3, hli, hx, u3, s1, s2, s3] at hK ⊢; exact hK)))
          (apply det_pure; · (intro fa ga oa K' hK; simp (config := { maxSteps := 1000000 }) only [go_sem,↓reduceIte,q0, q1, q2, q3, q9, q10, q11, q12, q13, hki, e4a, e6a, hg, h20, hg3, ho3, fC, codeC, List.length_map, c3, hli, hx, u3, s1, s2, s3] at hK ⊢; exact hK))
          apply det_last
          intro K' hK'
          simp (config := { maxSteps := 1000000 }) only [go_sem,↓reduceIte,q0, q1, q2, q3, q9, q10, q11, q12, q13, hki, e4a, e6a, hg, h20, hg3, ho3, fC, codeC, List.length_map, c3, hli, hx, u3, s1, s2, s3]
          refine hK' _ ?_
          clear hK' K'
          simp (config := { maxSteps := 1000000 }) only [go_sem,↓reduceIte,q0, q1, q2, q3, q9, q10, q11, q12, q13, hki, e4a, e6a, hg, h20, hg3, ho3, fC, codeC, List.length_map, c3, hli, hx, u3, s1, s2, s3]
          refine hook_pure rfl (by simp (config := { maxSteps := 1000000 }) only [go_sem,↓reduceIte]; exact Enc_X _ _ _ _) (by simp (config := { maxSteps := 1000000 }) only [go_sem,↓reduceIte]; rfl) ?_
          rintro _ ⟨e, rfl⟩
          simp (config := { maxSteps := 1000000 }) only [go_sem,↓reduceIte,q0, q1, q2, q3, q9, q10, q11, q12, q13, hki, e4a, e6a, hg, h20, hg3, ho3, fC, codeC, List.length_map, c3, hli, hx, u3, s1, s2, s3, elemTy]
          refine ⟨Nat.le_refl _, ⟨by decide, by omega⟩, ?_⟩
          refine retF_at ⟨fun i hi => by (have := far hi; simp only [upd, this, if_false]; exact hgo i hi), fun i h5 hi => by (have := far hi; simp only [upd, this, h5, if_false]; exact hoo i h5 hi), rfl, ⟨by simp [upd, hg], _, lc, pc, _, rfl, ?_, hl, ?_⟩⟩
          · exact .inr ⟨by simp [addX], 3223, .inr rfl, by simp [upd, addX], by simp [upd, addX, codeC, List.take_of_length_le]⟩
          · exact .inr ⟨by simp [addX], by simp [upd, addX], by simp [upd, addX, flatR_take, useR]⟩
        · rw [hfx]
          simp (config := { maxSteps := 1000000 }) only [go_sem,↓reduceIte,q0, q1, q2, q3, q9, q10, q11, q12, q13, hki, e4a, e6a, hg, h20, hg3, ho3, fC, codeC, List.length_map, c3, hli, hx, u3, s1, s2, s3, buildA]
          refine draw_det Tt_ok mixed [3017] [([10], [], [], false), ([199], [], [], false), ([10], [0], [], false), ([201], [0], [], false), ([17], [], [], false), ([203, 200], [], [0], false), ([17], [], [], false), ([204, 202], [], [], true)] 1 (by decide +kernel) rfl (by decide) ?_
          simp (config := { maxSteps := 1000000 }) only [go_sem,↓reduceIte]
          iterate 5 (apply det_pure; · (intro fa ga oa K' hK; simp (config := { maxSteps := 1000000 }) only [go_sem,↓reduceIte,q0, q1, q2, q3, q9, q10, q11, q12, q13, hki, e4a, e6a, hg, h20, hg3, ho3, fC, codeC, List.length_map, c3, hli, hx, u3, s1, s2, s3] at hK ⊢; exact hK))
          (apply det_store; (focus simp); (focus (intro fa ga oa K' hK; simp (config := { maxSteps := 1000000 }) only [go_sem,↓reduceIte,q0, q1, q2, q3, q9, q10, q11, q12, q13, hki, e4a, e6a, hg, h20, hg3, ho3, fC, codeC, List.length_map, c3, hli, hx, u3, s1, s2, s3] at hK ⊢; exact hK)))
          (apply det_pure; · (intro fa ga oa K' hK; simp (config := { maxSteps := 1000000 }) only [go_sem,↓reduceIte,q0, q1, q2, q3, q9, q10, q11, q12, q13, hki, e4a, e6a, hg, h20, hg3, ho3, fC, codeC, List.length_map, c3, hli, hx, u3, s1, s2, s3] at hK ⊢; exact hK))
          apply det_last
          intro K' hK'
          simp (config := { maxSteps := 1000000 }) only [go_sem,↓reduceIte,q0, q1, q2, q3, q9, q10, q11, q12, q13, hki, e4a, e6a, hg, h20, hg3, ho3, fC, codeC, List.length_map, c3, hli, hx, u3, s1, s2, s3]
          refine hK' _ ?_
          clear hK' K'
          simp (config := { maxSteps := 1000000 }) only [go_sem,↓reduceIte,q0, q1, q2, q3, q9, q10, q11, q12, q13, hki, e4a, e6a, hg, h20, hg3, ho3, fC, codeC, List.length_map, c3, hli, hx, u3, s1, s2, s3]
          refine hook_pure rfl (by simp (config := { maxSteps := 1000000 }) only [go_sem,↓reduceIte]; exact Enc_X _ _ _ _) (by simp (config := { maxSteps := 1000000 }) only [go_sem,↓reduceIte]; rfl) ?_
          rintro _ ⟨e, rfl⟩
          simp (config := { maxSteps := 1000000 }) only [go_sem,↓reduceIte,q0, q1, q2, q3, q9, q10, q11, q12, q13, hki, e4a, e6a, hg, h20, hg3, ho3, fC, codeC, List.length_map, c3, hli, hx, u3, s1, s2, s3, elemTy]
          refine ⟨Nat.le_refl _, ⟨by decide, by omega⟩, ?_⟩
          refine retF_at ⟨fun i hi => by (have := far hi; simp only [upd, this, if_false]; exact hgo i hi), fun i h5 hi => by (have := far hi; simp only [upd, this, h5, if_false]; exact hoo i h5 hi), rfl, ⟨by simp [upd, hg], _, lc, pc, _, rfl, ?_, hl, ?_⟩⟩
          · exact .inr ⟨by simp [addX], 3223, .inr rfl, by simp [upd, addX], by simp [upd, addX, codeC, List.take_of_length_le]⟩
          · exact .inr ⟨by simp [addX], by simp [upd, addX], by simp [upd, addX, flatR_take, useR]⟩
        · rw [hfx]
          simp (config := { maxSteps := 1000000 }) only [go_sem,↓reduceIte,q0, q1, q2, q3, q9, q10, q11, q12, q13, hki, e4a, e6a, hg, h20, hg3, ho3, fC, codeC, List.length_map, c3, hli, hx, u3, s1, s2, s3, buildA]
          refine hook_pure rfl (by simp (config := { maxSteps := 1000000 }) only [go_sem,↓reduceIte]; exact Enc_X _ _ _ _) (by simp (config := { maxSteps := 1000000 }) only [go_sem,↓reduceIte]; rfl) ?_
          rintro _ ⟨e, rfl⟩
          simp (config := { maxSteps := 1000000 }) only [go_sem,↓reduceIte,q0, q1, q2, q3, q9, q10, q11, q12, q13, hki, e4a, e6a, hg, h20, hg3, ho3, fC, codeC, List.length_map, c3, hli, hx, u3, s1, s2, s3, elemTy]
          refine ⟨Nat.le_refl _, ⟨by decide, by omega⟩, ?_⟩
          refine retF_at ⟨fun i hi => by (have := far hi; simp only [upd, this, if_false]; exact hgo i hi), fun i h5 hi => by (have := far hi; simp only [upd, this, h5, if_false]; exact hoo i h5 hi), rfl, ⟨by simp [upd, hg], _, lc, pc, _, rfl, ?_, hl, ?_⟩⟩
          · exact .inr ⟨by simp [addX], 3223, .inr rfl, by simp [upd, addX], by simp [upd, addX, codeC, List.take_of_length_le]⟩
          · exact .inr ⟨by simp [addX], by simp [upd, addX], by simp [upd, addX, flatR_take, useR]⟩
        · rw [hfx]
          simp (config := { maxSteps := 1000000 }) only [go_sem,↓reduceIte,q0, q1, q2, q3, q9, q10, q11, q12, q13, hki, e4a, e6a, hg, h20, hg3, ho3, fC, codeC, List.length_map, c3, hli, hx, u3, s1, s2, s3, buildA]
          refine draw_det Tt_ok mixed [3017] [([10], [], [], false), ([180], [], [], false), ([10], [0], [], false), ([182], [0], [], false), ([10], [0], [], false), ([184], [0], [], false), ([17], [], [], false), ([186, 181], [], [0], false), ([17], [], [], false), ([187, 183], [], [0], false), ([17], [], [], false), ([188, 185], [], [], true)] 1 (by decide +kernel) rfl (by decide) ?_
          simp (config := { maxSteps := 1000000 }) only [go_sem,↓reduceIte]
          iterate 7 (apply det_pure; · (intro fa ga oa K' hK; simp (config := { maxSteps := 1000000 }) only [go_sem,↓reduceIte,q0, q1, q2, q3, q9, q10, q11, q12, q13, hki, e4a, e6a, hg, h20, hg3, ho3, fC, codeC, List.length_map, c3, hli, hx, u3, s1, s2, s3] at hK ⊢; exact hK))
          (apply det_store; (focus simp); (focus (intro fa ga oa K' hK; simp (config := { maxSteps := 1000000 }) only [go_sem,↓reduceIte,q0, q1, q2, q3, q9, q10, q11, q12, q13, hki, e4a, e6a, hg, h20, hg3, ho3, fC, codeC, List.length_map, c3, hli, hx, u3, s1, s2, s3] at hK ⊢; exact hK)))
          (apply det_pure; · (intro fa ga oa K' hK; simp (config := { maxSteps := 1000000 }) only [go_sem,↓reduceIte,q0, q1, q2, q3, q9, q10, q11, q12, q13, hki, e4a, e6a, hg, h20, hg3, ho3, fC, codeC, List.length_map, c3, hli, hx, u3, s1, s2, s3] at hK ⊢; exact hK))
          (apply det_store; (focus simp); (focus (intro fa ga oa K' hK; simp (config := { maxSteps := 1000000 }) only [go_sem,↓reduceIte,q0, q1, q2, q3, q9, q10, q11, q12, q13, hki, e4a, e6a, hg, h20, hg3, ho3, fC, codeC, List.length_map, c3, hli, hx, u3, s1, s2, s3] at hK ⊢; exact hK)))
          (apply det_pure; · (intro fa ga oa K' hK; simp (config := { maxSteps := 1000000 }) only [go_sem,↓reduceIte,q0, q1, q2, q3, q9, q10, q11, q12, q13, hki, e4a, e6a, hg, h20, hg3, ho3, fC, codeC, List.length_map, c3, hli, hx, u3, s1, s2, s3] at hK ⊢; exact hK))
          apply det_last
          intro K' hK'
          simp (config := { maxSteps := 1000000 }) only [go_sem,↓reduceIte,q0, q1, q2, q3, q9, q10, q11, q12, q13, hki, e4a, e6a, hg, h20, hg3, ho3, fC, codeC, List.length_map, c3, hli, hx, u3, s1, s2, s3]
          refine hK' _ ?_
          clear hK' K'
          simp (config := { maxSteps := 1000000 }) only [go_sem,↓reduceIte,q0, q1, q2, q3, q9, q10, q11, q12, q13, hki, e4a, e6a, hg, h20, hg3, ho3, fC, codeC, List.length_map, c3, hli, hx, u3, s1, s2, s3]
          refine hook_pure rfl (by simp (config := { maxSteps := 1000000 }) only [go_sem,↓reduceIte]; exact Enc_X _ _ _ _) (by simp (config := { maxSteps := 1000000 }) only [go_sem,↓reduceIte]; rfl) ?_
          rintro _ ⟨e, rfl⟩
          simp (config := { maxSteps := 1000000 }) only [go_sem,↓reduceIte,q0, q1, q2, q3, q9, q10, q11, q12, q13, hki, e4a, e6a, hg, h20, hg3, ho3, fC, codeC, List.length_map, c3, hli, hx, u3, s1, s2, s3, elemTy]
          refine ⟨Nat.le_refl _, ⟨by decide, by omega⟩, ?_⟩
          refine retF_at ⟨fun i hi => by (have := far hi; simp only [upd, this, if_false]; exact hgo i hi), fun i h5 hi => by (have := far hi; simp only [upd, this, h5, if_false]; exact hoo i h5 hi), rfl, ⟨by simp [upd, hg], _, lc, pc, _, rfl, ?_, hl, ?_⟩⟩
          · exact .inr ⟨by simp [addX], 3223, .inr rfl, by simp [upd, addX], by simp [upd, addX, codeC, List.take_of_length_le]⟩
          · exact .inr ⟨by simp [addX], by simp [upd, addX], by simp [upd, addX, flatR_take, useR]⟩
  · -- .word
    have hwa : IntKind.u32.wrap (a : Int) = (a : Int) := by rw [IntKind.wrap_u32]; omega
    rcases hc with ⟨c1, rfl⟩ | ⟨c1, ci, rfl | rfl, rfl, c3⟩
    · have hlen : ¬ st.code.length = 16384 := by rw [c1]; decide
      rw [endA_word e6 hlen] at hP
      subst hP
      by_cases hx : xl = []
      · rw [show useX st line xl = st from if_pos hx]
        subst hx
        simp (config := { maxSteps := 1000000 }) only [go_sem,↓reduceIte,q0, q1, q2, q3, q9, q10, q11, q12, q13, hki, e4a, e6a, hg, h20, hg3, ho3, fC, hwa, codeC, List.length_map]
        refine draw_det Tt_ok mixed [3171, 3172, 20] [([0], [0, 1], [], false), ([0], [0], [], false), ([163], [0], [], false), ([164], [0], [], false), ([165], [0], [], false), ([166], [0], [], false), ([10], [], [], false), ([168], [], [], false), ([169], [], [], false), ([170], [], [0], false), ([167, 171], [], [1], false), ([162], [], [], false), ([173], [], [], false), ([174], [], [], false), ([175, 172], [], [], true)] 3 (by decide +kernel) rfl (by decide) ?_
        simp (config := { maxSteps := 1000000 }) only [go_sem,↓reduceIte]
        iterate 9 (apply det_pure; · (intro fa ga oa K' hK; simp (config := { maxSteps := 1000000 }) only [go_sem,↓reduceIte,q0, q1, q2, q3, q9, q10, q11, q12, q13, hki, e4a, e6a, hg, h20, hg3, ho3, fC, hwa, codeC, List.length_map] at hK ⊢; exact hK))
        (apply det_new; · (intro fa ga oa K' hK; simp (config := { maxSteps := 1000000 }) only [go_sem,↓reduceIte,q0, q1, q2, q3, q9, q10, q11, q12, q13, hki, e4a, e6a, hg, h20, hg3, ho3, fC, hwa, codeC, List.length_map, elemTy] at hK ⊢; exact hK))
        (apply det_new; · (intro fa ga oa K' hK; simp (config := { maxSteps := 1000000 }) only [go_sem,↓reduceIte,q0, q1, q2, q3, q9, q10, q11, q12, q13, hki, e4a, e6a, hg, h20, hg3, ho3, fC, hwa, codeC, List.length_map, elemTy] at hK ⊢; first | exact ⟨⟨by decide, by decide⟩, hK⟩ | exact ⟨⟨by decide, by omega⟩, hK⟩ | exact ⟨Nat.le_of_eq (flatR_len _).symm, ⟨by decide, by omega⟩, hK⟩ | exact ⟨Nat.le_refl _, ⟨by decide, by omega⟩, hK⟩))
        iterate 3 (apply det_pure; · (intro fa ga oa K' hK; simp (config := { maxSteps := 1000000 }) only [go_sem,↓reduceIte,q0, q1, q2, q3, q9, q10, q11, q12, q13, hki, e4a, e6a, hg, h20, hg3, ho3, fC, hwa, codeC, List.length_map] at hK ⊢; exact hK))
        apply det_last
        intro K' hK'
        simp (config := { maxSteps := 1000000 }) only [go_sem,↓reduceIte,q0, q1, q2, q3, q9, q10, q11, q12, q13, hki, e4a, e6a, hg, h20, hg3, ho3, fC, hwa, codeC, List.length_map]
        refine hK' _ ?_
        clear hK' K'
        simp (config := { maxSteps := 1000000 }) only [go_sem,↓reduceIte,q0, q1, q2, q3, q9, q10, q11, q12, q13, hki, e4a, e6a, hg, h20, hg3, ho3, fC, hwa, codeC, List.length_map]
        refine retF_at ⟨fun i hi => by (have := far hi; simp only [upd, this, if_false]; exact hgo i hi), fun i h5 hi => by (have := far hi; simp only [upd, this, h5, if_false]; exact hoo i h5 hi), rfl, ⟨by simp [upd, hg], _, lc, pc, _, rfl, ?_, hl, ?_⟩⟩
        · exact .inr ⟨by simp [addX], 3172, .inl rfl, by simp [upd, c1, addX], by simp [upd, c1, addX, codeC]⟩
        · exact hu
      rw [show useX st line xl = { st with uses := st.uses ++ [(line, st.code.length, xl)] } from if_neg hx]
      rcases hu with ⟨u1, rfl⟩ | ⟨u1, rfl, u3⟩
      · simp (config := { maxSteps := 1000000 }) only [go_sem,↓reduceIte,q0, q1, q2, q3, q9, q10, q11, q12, q13, hki, e4a, e6a, hg, h20, hg3, ho3, fC, hwa, codeC, List.length_map, hx]
        refine draw_det Tt_ok mixed [3156, 3157, 20] [([0], [0, 1], [], false), ([0], [0], [], false), ([143], [0], [], false), ([144], [0], [], false), ([145], [0], [], false), ([12], [], [], false), ([3], [], [], false), ([0], [], [], false), ([149], [], [], false), ([150], [], [], false), ([151], [], [], false), ([152], [], [], false), ([153], [], [], false), ([147, 148, 154], [], [], false), ([155], [], [0], false), ([146, 156], [], [1], false), ([142], [], [], false), ([158], [], [], false), ([159, 157], [], [], true)] 3 (by decide +kernel) rfl (by decide) ?_
        simp (config := { maxSteps := 1000000 }) only [go_sem,↓reduceIte]
        iterate 13 (apply det_pure; · (intro fa ga oa K' hK; simp (config := { maxSteps := 1000000 }) only [go_sem,↓reduceIte,q0, q1, q2, q3, q9, q10, q11, q12, q13, hki, e4a, e6a, hg, h20, hg3, ho3, fC, hwa, codeC, List.length_map, hx] at hK ⊢; exact hK))
        (apply det_pure; · (intro fa ga oa K' hK; simp (config := { maxSteps := 1000000 }) only [go_sem,↓reduceIte,buildA] at hK ⊢; exact hK))
        (apply det_new; · (intro fa ga oa K' hK; simp (config := { maxSteps := 1000000 }) only [go_sem,↓reduceIte,q0, q1, q2, q3, q9, q10, q11, q12, q13, hki, e4a, e6a, hg, h20, hg3, ho3, fC, hwa, codeC, List.length_map, hx, elemTy] at hK ⊢; exact hK))
        (apply det_new; · (intro fa ga oa K' hK; simp (config := { maxSteps := 1000000 }) only [go_sem,↓reduceIte,q0, q1, q2, q3, q9, q10, q11, q12, q13, hki, e4a, e6a, hg, h20, hg3, ho3, fC, hwa, codeC, List.length_map, hx, elemTy] at hK ⊢; first | exact ⟨⟨by decide, by decide⟩, hK⟩ | exact ⟨⟨by decide, by omega⟩, hK⟩ | exact ⟨Nat.le_of_eq (flatR_len _).symm, ⟨by decide, by omega⟩, hK⟩ | exact ⟨Nat.le_refl _, ⟨by decide, by omega⟩, hK⟩))
        iterate 2 (apply det_pure; · (intro fa ga oa K' hK; simp (config := { maxSteps := 1000000 }) only [go_sem,↓reduceIte,q0, q1, q2, q3, q9, q10, q11, q12, q13, hki, e4a, e6a, hg, h20, hg3, ho3, fC, hwa, codeC, List.length_map, hx] at hK ⊢; exact hK))
        apply det_last
        intro K' hK'
        simp (config := { maxSteps := 1000000 }) only [go_sem,↓reduceIte,q0, q1, q2, q3, q9, q10, q11, q12, q13, hki, e4a, e6a, hg, h20, hg3, ho3, fC, hwa, codeC, List.length_map, hx]
        refine hK' _ ?_
        clear hK' K'
        simp (config := { maxSteps := 1000000 }) only [go_sem,↓reduceIte,q0, q1, q2, q3, q9, q10, q11, q12, q13, hki, e4a, e6a, hg, h20, hg3, ho3, fC, hwa, codeC, List.length_map, hx]
        refine draw_det Tt_ok mixed [3171, 3172, 20] [([0], [0, 1], [], false), ([0], [0], [], false), ([163], [0], [], false), ([164], [0], [], false), ([165], [0], [], false), ([166], [0], [], false), ([10], [], [], false), ([168], [], [], false), ([169], [], [], false), ([170], [], [0], false), ([167, 171], [], [1], false), ([162], [], [], false), ([173], [], [], false), ([174], [], [], false), ([175, 172], [], [], true)] 3 (by decide +kernel) rfl (by decide) ?_
        simp (config := { maxSteps := 1000000 }) only [go_sem,↓reduceIte]
        iterate 9 (apply det_pure; · (intro fa ga oa K' hK; simp (config := { maxSteps := 1000000 }) only [go_sem,↓reduceIte,q0, q1, q2, q3, q9, q10, q11, q12, q13, hki, e4a, e6a, hg, h20, hg3, ho3, fC, hwa, codeC, List.length_map, hx] at hK ⊢; exact hK))
        (apply det_new; · (intro fa ga oa K' hK; simp (config := { maxSteps := 1000000 }) only [go_sem,↓reduceIte,q0, q1, q2, q3, q9, q10, q11, q12, q13, hki, e4a, e6a, hg, h20, hg3, ho3, fC, hwa, codeC, List.length_map, hx, elemTy] at hK ⊢; exact hK))
        (apply det_new; · (intro fa ga oa K' hK; simp (config := { maxSteps := 1000000 }) only [go_sem,↓reduceIte,q0, q1, q2, q3, q9, q10, q11, q12, q13, hki, e4a, e6a, hg, h20, hg3, ho3, fC, hwa, codeC, List.length_map, hx, elemTy] at hK ⊢; first | exact ⟨⟨by decide, by decide⟩, hK⟩ | exact ⟨⟨by decide, by omega⟩, hK⟩ | exact ⟨Nat.le_of_eq (flatR_len _).symm, ⟨by decide, by omega⟩, hK⟩ | exact ⟨Nat.le_refl _, ⟨by decide, by omega⟩, hK⟩))
        iterate 3 (apply det_pure; · (intro fa ga oa K' hK; simp (config := { maxSteps := 1000000 }) only [go_sem,↓reduceIte,q0, q1, q2, q3, q9, q10, q11, q12, q13, hki, e4a, e6a, hg, h20, hg3, ho3, fC, hwa, codeC, List.length_map, hx] at hK ⊢; exact hK))
        apply det_last
        intro K' hK'
        simp (config := { maxSteps := 1000000 }) only [go_sem,↓reduceIte,q0, q1, q2, q3, q9, q10, q11, q12, q13, hki, e4a, e6a, hg, h20, hg3, ho3, fC, hwa, codeC, List.length_map, hx]
        refine hK' _ ?_
        clear hK' K'
        simp (config := { maxSteps := 1000000 }) only [go_sem,↓reduceIte,q0, q1, q2, q3, q9, q10, q11, q12, q13, hki, e4a, e6a, hg, h20, hg3, ho3, fC, hwa, codeC, List.length_map, hx]
        refine retF_at ⟨fun i hi => by (have := far hi; simp only [upd, this, if_false]; exact hgo i hi), fun i h5 hi => by (have := far hi; simp only [upd, this, h5, if_false]; exact hoo i h5 hi), rfl, ⟨by simp [upd, hg], _, lc, pc, _, rfl, ?_, hl, ?_⟩⟩
        · exact .inr ⟨by simp [addX], 3172, .inl rfl, by simp [upd, c1, addX], by simp [upd, c1, addX, codeC]⟩
        · exact .inr ⟨by simp [addX], by simp [upd, u1, addX], by simp [upd, u1, addX, useR, c1]⟩
      · simp (config := { maxSteps := 1000000 }) only [go_sem,↓reduceIte,q0, q1, q2, q3, q9, q10, q11, q12, q13, hki, e4a, e6a, hg, h20, hg3, ho3, fC, hwa, codeC, List.length_map, hx, u3]
        refine draw_det Tt_ok mixed [3156, 3157, 20] [([0], [0, 1], [], false), ([0], [0], [], false), ([143], [0], [], false), ([144], [0], [], false), ([145], [0], [], false), ([12], [], [], false), ([3], [], [], false), ([0], [], [], false), ([149], [], [], false), ([150], [], [], false), ([151], [], [], false), ([152], [], [], false), ([153], [], [], false), ([147, 148, 154], [], [], false), ([155], [], [0], false), ([146, 156], [], [1], false), ([142], [], [], false), ([158], [], [], false), ([159, 157], [], [], true)] 3 (by decide +kernel) rfl (by decide) ?_
        simp (config := { maxSteps := 1000000 }) only [go_sem,↓reduceIte]
        iterate 13 (apply det_pure; · (intro fa ga oa K' hK; simp (config := { maxSteps := 1000000 }) only [go_sem,↓reduceIte,q0, q1, q2, q3, q9, q10, q11, q12, q13, hki, e4a, e6a, hg, h20, hg3, ho3, fC, hwa, codeC, List.length_map, hx, u3] at hK ⊢; exact hK))
        (apply det_pure; · (intro fa ga oa K' hK; simp (config := { maxSteps := 1000000 }) only [go_sem,↓reduceIte,buildA] at hK ⊢; exact hK))
        (apply det_new; · (intro fa ga oa K' hK; simp (config := { maxSteps := 1000000 }) only [go_sem,↓reduceIte,q0, q1, q2, q3, q9, q10, q11, q12, q13, hki, e4a, e6a, hg, h20, hg3, ho3, fC, hwa, codeC, List.length_map, hx, u3, elemTy] at hK ⊢; exact hK))
        (apply det_new; · (intro fa ga oa K' hK; simp (config := { maxSteps := 1000000 }) only [go_sem,↓reduceIte,q0, q1, q2, q3, q9, q10, q11, q12, q13, hki, e4a, e6a, hg, h20, hg3, ho3, fC, hwa, codeC, List.length_map, hx, u3, elemTy] at hK ⊢; first | exact ⟨⟨by decide, by decide⟩, hK⟩ | exact ⟨⟨by decide, by omega⟩, hK⟩ | exact ⟨Nat.le_of_eq (flatR_len _).symm, ⟨by decide, by omega⟩, hK⟩ | exact ⟨Nat.le_refl _, ⟨by decide, by omega⟩, hK⟩))
        iterate 2 (apply det_pure; · (intro fa ga oa K' hK; simp (config := { maxSteps := 1000000 }) only [go_sem,↓reduceIte,q0, q1, q2, q3, q9, q10, q11, q12, q13, hki, e4a, e6a, hg, h20, hg3, ho3, fC, hwa, codeC, List.length_map, hx, u3] at hK ⊢; exact hK))
        apply det_last
        intro K' hK'
        simp (config := { maxSteps := 1000000 }) only [go_sem,↓reduceIte,q0, q1, q2, q3, q9, q10, q11, q12, q13, hki, e4a, e6a, hg, h20, hg3, ho3, fC, hwa, codeC, List.length_map, hx, u3]
        refine hK' _ ?_
        clear hK' K'
        simp (config := { maxSteps := 1000000 }) only [go_sem,↓reduceIte,q0, q1, q2, q3, q9, q10, q11, q12, q13, hki, e4a, e6a, hg, h20, hg3, ho3, fC, hwa, codeC, List.length_map, hx, u3]
        refine draw_det Tt_ok mixed [3171, 3172, 20] [([0], [0, 1], [], false), ([0], [0], [], false), ([163], [0], [], false), ([164], [0], [], false), ([165], [0], [], false), ([166], [0], [], false), ([10], [], [], false), ([168], [], [], false), ([169], [], [], false), ([170], [], [0], false), ([167, 171], [], [1], false), ([162], [], [], false), ([173], [], [], false), ([174], [], [], false), ([175, 172], [], [], true)] 3 (by decide +kernel) rfl (by decide) ?_
        simp (config := { maxSteps := 1000000 }) only [go_sem,↓reduceIte]
        iterate 9 (apply det_pure; · (intro fa ga oa K' hK; simp (config := { maxSteps := 1000000 }) only [go_sem,↓reduceIte,q0, q1, q2, q3, q9, q10, q11, q12, q13, hki, e4a, e6a, hg, h20, hg3, ho3, fC, hwa, codeC, List.length_map, hx, u3] at hK ⊢; exact hK))
        (apply det_new; · (intro fa ga oa K' hK; simp (config := { maxSteps := 1000000 }) only [go_sem,↓reduceIte,q0, q1, q2, q3, q9, q10, q11, q12, q13, hki, e4a, e6a, hg, h20, hg3, ho3, fC, hwa, codeC, List.length_map, hx, u3, elemTy] at hK ⊢; exact hK))
        (apply det_new; · (intro fa ga oa K' hK; simp (config := { maxSteps := 1000000 }) only [go_sem,↓reduceIte,q0, q1, q2, q3, q9, q10, q11, q12, q13, hki, e4a, e6a, hg, h20, hg3, ho3, fC, hwa, codeC, List.length_map, hx, u3, elemTy] at hK ⊢; first | exact ⟨⟨by decide, by decide⟩, hK⟩ | exact ⟨⟨by decide, by omega⟩, hK⟩ | exact ⟨Nat.le_of_eq (flatR_len _).symm, ⟨by decide, by omega⟩, hK⟩ | exact ⟨Nat.le_refl _, ⟨by decide, by omega⟩, hK⟩))
        iterate 3 (apply det_pure; · (intro fa ga oa K' hK; simp (config := { maxSteps := 1000000 }) only [go_sem,↓reduceIte,q0, q1, q2, q3, q9, q10, q11, q12, q13, hki, e4a, e6a, hg, h20, hg3, ho3, fC, hwa, codeC, List.length_map, hx, u3] at hK ⊢; exact hK))
        apply det_last
        intro K' hK'
        simp (config := { maxSteps := 1000000 }) only [go_sem,↓reduceIte,q0, q1, q2, q3, q9, q10, q11, q12, q13, hki, e4a, e6a, hg, h20, hg3, ho3, fC, hwa, codeC, List.length_map, hx, u3]
        refine hK' _ ?_
        clear hK' K'
        simp (config := { maxSteps := 1000000 }) only [go_sem,↓reduceIte,q0, q1, q2, q3, q9, q10, q11, q12, q13, hki, e4a, e6a, hg, h20, hg3, ho3, fC, hwa, codeC, List.length_map, hx, u3]
        refine retF_at ⟨fun i hi => by (have := far hi; simp only [upd, this, if_false]; exact hgo i hi), fun i h5 hi => by (have := far hi; simp only [upd, this, h5, if_false]; exact hoo i h5 hi), rfl, ⟨by simp [upd, hg], _, lc, pc, _, rfl, ?_, hl, ?_⟩⟩
        · exact .inr ⟨by simp [addX], 3172, .inl rfl, by simp [upd, c1, addX], by simp [upd, c1, addX, codeC]⟩
        · exact .inr ⟨by simp [addX], by simp [upd, addX], by simp [upd, addX, flatR_take, useR, c1]⟩
    · by_cases hlen : st.code.length = 16384
      · rw [endA_full e4 hlen] at hP
        subst hP
        have hli : ((st.code.length : Nat) : Int) = 16384 := by omega
        simp (config := { maxSteps := 1000000 }) only [go_sem,↓reduceIte,q0, q1, q2, q3, q9, q10, q11, q12, q13, hki, e4a, e6a, hg, h20, hg3, ho3, fC, hwa, codeC, List.length_map, c3, hli]
        exact retF_at ⟨hgo, hoo, rfl⟩
      have hli : ¬ ((st.code.length : Nat) : Int) = 16384 := by omega
      rw [endA_word e6 hlen] at hP
      subst hP
      by_cases hx : xl = []
      · rw [show useX st line xl = st from if_pos hx]
        subst hx
        simp (config := { maxSteps := 1000000 }) only [go_sem,↓reduceIte,q0, q1, q2, q3, q9, q10, q11, q12, q13, hki, e4a, e6a, hg, h20, hg3, ho3, fC, hwa, codeC, List.length_map, c3, hli]
        refine draw_det Tt_ok mixed [3171, 3172, 20] [([0], [0, 1], [], false), ([0], [0], [], false), ([163], [0], [], false), ([164], [0], [], false), ([165], [0], [], false), ([166], [0], [], false), ([10], [], [], false), ([168], [], [], false), ([169], [], [], false), ([170], [], [0], false), ([167, 171], [], [1], false), ([162], [], [], false), ([173], [], [], false), ([174], [], [], false), ([175, 172], [], [], true)] 3 (by decide +kernel) rfl (by decide) ?_
        simp (config := { maxSteps := 1000000 }) only [go_sem,↓reduceIte]
        iterate 9 (apply det_pure; · (intro fa ga oa K' hK; simp (config := { maxSteps := 1000000 }) only [go_sem,↓reduceIte,q0, q1, q2, q3, q9, q10, q11, q12, q13, hki, e4a, e6a, hg, h20, hg3, ho3, fC, hwa, codeC, List.length_map, c3, hli] at hK ⊢; exact hK))
        (apply det_new; · (intro fa ga oa K' hK; simp (config := { maxSteps := 1000000 }) only [go_sem,↓reduceIte,q0, q1, q2, q3, q9, q10, q11, q12, q13, hki, e4a, e6a, hg, h20, hg3, ho3, fC, hwa, codeC, List.length_map, c3, hli, elemTy] at hK ⊢; exact hK))
        (apply det_new; · (intro fa ga oa K' hK; simp (config := { maxSteps := 1000000 }) only [go_sem,↓reduceIte,q0, q1, q2, q3, q9, q10, q11, q12, q13, hki, e4a, e6a, hg, h20, hg3, ho3, fC, hwa, codeC, List.length_map, c3, hli, elemTy] at hK ⊢; first | exact ⟨⟨by decide, by decide⟩, hK⟩ | exact ⟨⟨by decide, by omega⟩, hK⟩ | exact ⟨Nat.le_of_eq (flatR_len _).symm, ⟨by decide, by omega⟩, hK⟩ | exact ⟨Nat.le_refl _, ⟨by decide, by omega⟩, hK⟩))
        iterate 3 (apply det_pure; · (intro fa ga oa K' hK; simp (config := { maxSteps := 1000000 }) only [go_sem,↓reduceIte,q0, q1, q2, q3, q9, q10, q11, q12, q13, hki, e4a, e6a, hg, h20, hg3, ho3, fC, hwa, codeC, List.length_map, c3, hli] at hK ⊢; exact hK))
        apply det_last
        intro K' hK'
        simp (config := { maxSteps := 1000000 }) only [go_sem,↓reduceIte,q0, q1, q2, q3, q9, q10, q11, q12, q13, hki, e4a, e6a, hg, h20, hg3, ho3, fC, hwa, codeC, List.length_map, c3, hli]
        refine hK' _ ?_
        clear hK' K'
        simp (config := { maxSteps := 1000000 }) only [go_sem,↓reduceIte,q0, q1, q2, q3, q9, q10, q11, q12, q13, hki, e4a, e6a, hg, h20, hg3, ho3, fC, hwa, codeC, List.length_map, c3, hli]
        refine retF_at ⟨fun i hi => by (have := far hi; simp only [upd, this, if_false]; exact hgo i hi), fun i h5 hi => by (have := far hi; simp only [upd, this, h5, if_false]; exact hoo i h5 hi), rfl, ⟨by simp [upd, hg], _, lc, pc, _, rfl, ?_, hl, ?_⟩⟩
        · exact .inr ⟨by simp [addX], 3172, .inl rfl, by simp [upd, addX], by simp [upd, addX, codeC, List.take_of_length_le]⟩
        · exact hu
      rw [show useX st line xl = { st with uses := st.uses ++ [(line, st.code.length, xl)] } from if_neg hx]
      rcases hu with ⟨u1, rfl⟩ | ⟨u1, rfl, u3⟩
      · simp (config := { maxSteps := 1000000 }) only [go_sem,↓reduceIte,q0, q1, q2, q3, q9, q10, q11, q12, q13, hki, e4a, e6a, hg, h20, hg3, ho3, fC, hwa, codeC, List.length_map, c3, hli, hx]
        refine draw_det Tt_ok mixed [3156, 3157, 20] [([0], [0, 1], [], false), ([0], [0], [], false), ([143], [0], [], false), ([144], [0], [], false), ([145], [0], [], false), ([12], [], [], false), ([3], [], [], false), ([0], [], [], false), ([149], [], [], false), ([150], [], [], false), ([151], [], [], false), ([152], [], [], false), ([153], [], [], false), ([147, 148, 154], [], [], false), ([155], [], [0], false), ([146, 156], [], [1], false), ([142], [], [], false), ([158], [], [], false), ([159, 157], [], [], true)] 3 (by decide +kernel) rfl (by decide) ?_
        simp (config := { maxSteps := 1000000 }) only [go_sem,↓reduceIte]
        iterate 13 (apply det_pure; · (intro fa ga oa K' hK; simp (config := { maxSteps := 1000000 }) only [go_sem,↓reduceIte,q0, q1, q2, q3, q9, q10, q11, q12, q13, hki, e4a, e6a, hg, h20, hg3, ho3, fC, hwa, codeC, List.length_map, c3, hli, hx] at hK ⊢; exact hK))
        (apply det_pure; · (intro fa ga oa K' hK; simp (config := { maxSteps := 1000000 }) only [go_sem,↓reduceIte,buildA] at hK ⊢; exact hK))
        (apply det_new; · (intro fa ga oa K' hK; simp (config := { maxSteps := 1000000 }) only [go_sem,↓reduceIte,q0, q1, q2, q3, q9, q10, q11, q12, q13, hki, e4a, e6a, hg, h20, hg3, ho3, fC, hwa, codeC, List.length_map, c3, hli, hx, elemTy] at hK ⊢; exact hK))
        (apply det_new; · (intro fa ga oa K' hK; simp (config := { maxSteps := 1000000 }) only [go_sem,↓reduceIte,q0, q1, q2, q3, q9, q10, q11, q12, q13, hki, e4a, e6a, hg, h20, hg3, ho3, fC, hwa, codeC, List.length_map, c3, hli, hx, elemTy] at hK ⊢; first | exact ⟨⟨by decide, by decide⟩, hK⟩ | exact ⟨⟨by decide, by omega⟩, hK⟩ | exact ⟨Nat.le_of_eq (flatR_len _).symm, ⟨by decide, by omega⟩, hK⟩ | exact ⟨Nat.le_refl _, ⟨by decide, by omega⟩, hK⟩))
        iterate 2 (apply det_pure; · (intro fa ga oa K' hK; simp (config := { maxSteps := 1000000 }) only [go_sem,↓reduceIte,q0, q1, q2, q3, q9, q10, q11, q12, q13, hki, e4a, e6a, hg, h20, hg3, ho3, fC, hwa, codeC, List.length_map, c3, hli, hx] at hK ⊢; exact hK))
        apply det_last
        intro K' hK'
        simp (config := { maxSteps := 1000000 }) only [go_sem,↓reduceIte,q0, q1, q2, q3, q9, q10, q11, q12, q13, hki, e4a, e6a, hg, h20, hg3, ho3, fC, hwa, codeC, List.length_map, c3, hli, hx]
        refine hK' _ ?_
        clear hK' K'
        simp (config := { maxSteps := 1000000 }) only [go_sem,↓reduceIte,q0, q1, q2, q3, q9, q10, q11, q12, q13, hki, e4a, e6a, hg, h20, hg3, ho3, fC, hwa, codeC, List.length_map, c3, hli, hx]
        refine draw_det Tt_ok mixed [3171, 3172, 20] [([0], [0, 1], [], false), ([0], [0], [], false), ([163], [0], [], false), ([164], [0], [], false), ([165], [0], [], false), ([166], [0], [], false), ([10], [], [], false), ([168], [], [], false), ([169], [], [], false), ([170], [], [0], false), ([167, 171], [], [1], false), ([162], [], [], false), ([173], [], [], false), ([174], [], [], false), ([175, 172], [], [], true)] 3 (by decide +kernel) rfl (by decide) ?_
        simp (config := { maxSteps := 1000000 }) only [go_sem,↓reduceIte]
        iterate 9 (apply det_pure; · (intro fa ga oa K' hK; simp (config := { maxSteps := 1000000 }) only [go_sem,↓reduceIte,q0, q1, q2, q3, q9, q10, q11, q12, q13, hki, e4a, e6a, hg, h20, hg3, ho3, fC, hwa, codeC, List.length_map, c3, hli, hx] at hK ⊢; exact hK))
        (apply det_new; · (intro fa ga oa K' hK; simp (config := { maxSteps := 1000000 }) only [go_sem,↓reduceIte,q0, q1, q2, q3, q9, q10, q11, q12, q13, hki, e4a, e6a, hg, h20, hg3, ho3, fC, hwa, codeC, List.length_map, c3, hli, hx, elemTy] at hK ⊢; exact hK))
        (apply det_new; · (intro fa ga oa K' hK; simp (config := { maxSteps := 1000000 }) only [go_sem,↓reduceIte,q0, q1, q2, q3, q9, q10, q11, q12, q13, hki, e4a, e6a, hg, h20, hg3, ho3, fC, hwa, codeC, List.length_map, c3, hli, hx, elemTy] at hK ⊢; first | exact ⟨⟨by decide, by decide⟩, hK⟩ | exact ⟨⟨by decide, by omega⟩, hK⟩ | exact ⟨Nat.le_of_eq (flatR_len _).symm, ⟨by decide, by omega⟩, hK⟩ | exact ⟨Nat.le_refl _, ⟨by decide, by omega⟩, hK⟩))
        iterate 3 (apply det_pure; · (intro fa ga oa K' hK; simp (config := { maxSteps := 1000000 }) only [go_sem,↓reduceIte,q0, q1, q2, q3, q9, q10, q11, q12, q13, hki, e4a, e6a, hg, h20, hg3, ho3, fC, hwa, codeC, List.length_map, c3, hli, hx] at hK ⊢; exact hK))
        apply det_last
        intro K' hK'
        simp (config := { maxSteps := 1000000 }) only [go_sem,↓reduceIte,q0, q1, q2, q3, q9, q10, q11, q12, q13, hki, e4a, e6a, hg, h20, hg3, ho3, fC, hwa, codeC, List.length_map, c3, hli, hx]
        refine hK' _ ?_
        clear hK' K'
        simp (config := { maxSteps := 1000000 }) only [go_sem,↓reduceIte,q0, q1, q2, q3, q9, q10, q11, q12, q13, hki, e4a, e6a, hg, h20, hg3, ho3, fC, hwa, codeC, List.length_map, c3, hli, hx]
        refine retF_at ⟨fun i hi => by (have := far hi; simp only [upd, this, if_false]; exact hgo i hi), fun i h5 hi => by (have := far hi; simp only [upd, this, h5, if_false]; exact hoo i h5 hi), rfl, ⟨by simp [upd, hg], _, lc, pc, _, rfl, ?_, hl, ?_⟩⟩
        · exact .inr ⟨by simp [addX], 3172, .inl rfl, by simp [upd, addX], by simp [upd, addX, codeC, List.take_of_length_le]⟩
        · exact .inr ⟨by simp [addX], by simp [upd, u1, addX], by simp [upd, u1, addX, useR]⟩
      · simp (config := { maxSteps := 1000000 }) only [go_sem,↓reduceIte,q0, q1, q2, q3, q9, q10, q11, q12, q13, hki, e4a, e6a, hg, h20, hg3, ho3, fC, hwa, codeC, List.length_map, c3, hli, hx, u3]
        refine draw_det Tt_ok mixed [3156, 3157, 20] [([0], [0, 1], [], false), ([0], [0], [], false), ([143], [0], [], false), ([144], [0], [], false), ([145], [0], [], false), ([12], [], [], false), ([3], [], [], false), ([0], [], [], false), ([149], [], [], false), ([150], [], [], false), ([151], [], [], false), ([152], [], [], false), ([153], [], [], false), ([147, 148, 154], [], [], false), ([155], [], [0], false), ([146, 156], [], [1], false), ([142], [], [], false), ([158], [], [], false), ([159, 157], [], [], true)] 3 (by decide +kernel) rfl (by decide) ?_
        simp (config := { maxSteps := 1000000 }) only [go_sem,↓reduceIte]
        iterate 13 (apply det_pure; · (intro fa ga oa K' hK; simp (config := { maxSteps := 1000000 }) only [go_sem,↓reduceIte,q0, q1, q2, q3, q9, q10, q11, q12, q13, hki, e4a, e6a, hg, h20, hg3, ho3, fC, hwa, codeC, List.length_map, c3, hli, hx, u3] at hK ⊢; exact hK))
        (apply det_pure; · (intro fa ga oa K' hK; simp (config := { maxSteps := 1000000 }) only [go_sem,↓reduceIte,buildA] at hK ⊢; exact hK))
        (apply det_new; · (intro fa ga oa K' hK; simp (config := { maxSteps := 1000000 }) only [go_sem,↓reduceIte,q0, q1, q2, q3, q9, q10, q11, q12, q13, hki, e4a, e6a, hg, h20, hg3, ho3, fC, hwa, codeC, List.length_map, c3, hli, hx, u3, elemTy] at hK ⊢; exact hK))
        (apply det_new; · (intro fa ga oa K' hK; simp (config := { maxSteps := 1000000 }) only [go_sem,↓reduceIte,q0, q1, q2, q3, q9, q10, q11, q12, q13, hki, e4a, e6a, hg, h20, hg3, ho3, fC, hwa, codeC, List.length_map, c3, hli, hx, u3, elemTy] at hK ⊢; first | exact ⟨⟨by decide, by decide⟩, hK⟩ | exact ⟨⟨by decide, by omega⟩, hK⟩ | exact ⟨Nat.le_of_eq (flatR_len _).symm, ⟨by decide, by omega⟩, hK⟩ | exact ⟨Nat.le_refl _, ⟨by decide, by omega⟩, hK⟩))
        iterate 2 (apply det_pure; · (intro fa ga oa K' hK; simp (config := { maxSteps := 1000000 }) only [go_sem,↓reduceIte,q0, q1, q2, q3, q9, q10, q11, q12, q13, hki, e4a, e6a, hg, h20, hg3, ho3, fC, hwa, codeC, List.length_map, c3, hli, hx, u3] at hK ⊢; exact hK))
        apply det_last
        intro K' hK'
        simp (config := { maxSteps := 1000000 }) only [go_sem,↓reduceIte,q0, q1, q2, q3, q9, q10, q11, q12, q13, hki, e4a, e6a, hg, h20, hg3, ho3, fC, hwa, codeC, List.length_map, c3, hli, hx, u3]
        refine hK' _ ?_
        clear hK' K'
        simp (config := { maxSteps := 1000000 }) only [go_sem,↓reduceIte,q0, q1, q2, q3, q9, q10, q11, q12, q13, hki, e4a, e6a, hg, h20, hg3, ho3, fC, hwa, codeC, List.length_map, c3, hli, hx, u3]
        refine draw_det Tt_ok mixed [3171, 3172, 20] [([0], [0, 1], [], false), ([0], [0], [], false), ([163], [0], [], false), ([164], [0], [], false), ([165], [0], [], false), ([166], [0], [], false), ([10], [], [], false), ([168], [], [], false), ([169], [], [], false), ([170], [], [0], false), ([167, 171], [], [1], false), ([162], [], [], false), ([173], [], [], false), ([174], [], [], false), ([175, 172], [], [], true)] 3 (by decide +kernel) rfl (by decide) ?_
        simp (config := { maxSteps := 1000000 }) only [go_sem,↓reduceIte]
        iterate 9 (apply det_pure; · (intro fa ga oa K' hK; simp (config := { maxSteps := 1000000 }) only [go_sem,↓reduceIte,q0, q1, q2, q3, q9, q10, q11, q12, q13, hki, e4a, e6a, hg, h20, hg3, ho3, fC, hwa, codeC, List.length_map, c3, hli, hx, u3] at hK ⊢; exact hK))
        (apply det_new; · (intro fa ga oa K' hK; simp (config := { maxSteps := 1000000 }) only [go_sem,↓reduceIte,q0, q1, q2, q3, q9, q10, q11, q12, q13, hki, e4a, e6a, hg, h20, hg3, ho3, fC, hwa, codeC, List.length_map, c3, hli, hx, u3, elemTy] at hK ⊢; exact hK))
        (apply det_new; · (intro fa ga oa K' hK; simp (config := { maxSteps := 1000000 }) only [go_sem,↓reduceIte,q0, q1, q2, q3, q9, q10, q11, q12, q13, hki, e4a, e6a, hg, h20, hg3, ho3, fC, hwa, codeC, List.length_map, c3, hli, hx, u3, elemTy] at hK ⊢; first | exact ⟨⟨by decide, by decide⟩, hK⟩ | exact ⟨⟨by decide, by omega⟩, hK⟩ | exact ⟨Nat.le_of_eq (flatR_len _).symm, ⟨by decide, by omega⟩, hK⟩ | exact ⟨Nat.le_refl _, ⟨by decide, by omega⟩, hK⟩))
        iterate 3 (apply det_pure; · (intro fa ga oa K' hK; simp (config := { maxSteps := 1000000 }) only [go_sem,↓reduceIte,q0, q1, q2, q3, q9, q10, q11, q12, q13, hki, e4a, e6a, hg, h20, hg3, ho3, fC, hwa, codeC, List.length_map, c3, hli, hx, u3] at hK ⊢; exact hK))
        apply det_last
        intro K' hK'
        simp (config := { maxSteps := 1000000 }) only [go_sem,↓reduceIte,q0, q1, q2, q3, q9, q10, q11, q12, q13, hki, e4a, e6a, hg, h20, hg3, ho3, fC, hwa, codeC, List.length_map, c3, hli, hx, u3]
        refine hK' _ ?_
        clear hK' K'
        simp (config := { maxSteps := 1000000 }) only [go_sem,↓reduceIte,q0, q1, q2, q3, q9, q10, q11, q12, q13, hki, e4a, e6a, hg, h20, hg3, ho3, fC, hwa, codeC, List.length_map, c3, hli, hx, u3]
        refine retF_at ⟨fun i hi => by (have := far hi; simp only [upd, this, if_false]; exact hgo i hi), fun i h5 hi => by (have := far hi; simp only [upd, this, h5, if_false]; exact hoo i h5 hi), rfl, ⟨by simp [upd, hg], _, lc, pc, _, rfl, ?_, hl, ?_⟩⟩
        · exact .inr ⟨by simp [addX], 3172, .inl rfl, by simp [upd, addX], by simp [upd, addX, codeC, List.take_of_length_le]⟩
        · exact .inr ⟨by simp [addX], by simp [upd, addX], by simp [upd, addX, flatR_take, useR]⟩
    · by_cases hlen : st.code.length = 16384
      · rw [endA_full e4 hlen] at hP
        subst hP
        have hli : ((st.code.length : Nat) : Int) = 16384 := by omega
        simp (config := { maxSteps := 1000000 }) only [go_sem,↓reduceIte,q0, q1, q2, q3, q9, q10, q11, q12, q13, hki, e4a, e6a, hg, h20, hg3, ho3, fC, hwa, codeC, List.length_map, c3, hli]
        exact retF_at ⟨hgo, hoo, rfl⟩
      have hli : ¬ ((st.code.length : Nat) : Int) = 16384 := by omega
      rw [endA_word e6 hlen] at hP
      subst hP
      by_cases hx : xl = []
      · rw [show useX st line xl = st from if_pos hx]
        subst hx
        simp (config := { maxSteps := 1000000 }) only [go_sem,↓reduceIte,q0, q1, q2, q3, q9, q10, q11, q12, q13, hki, e4a, e6a, hg, h20, hg3, ho3, fC, hwa, codeC, List.length_map, c3, hli]
        refine draw_det Tt_ok mixed [3171, 3223, 20] [([0], [0, 1], [], false), ([0], [0], [], false), ([163], [0], [], false), ([164], [0], [], false), ([165], [0], [], false), ([166], [0], [], false), ([10], [], [], false), ([168], [], [], false), ([169], [], [], false), ([170], [], [0], false), ([167, 171], [], [1], false), ([162], [], [], false), ([173], [], [], false), ([174], [], [], false), ([175, 172], [], [], true)] 3 (by decide +kernel) rfl (by decide) ?_
        simp (config := { maxSteps := 1000000 }) only [go_sem,↓reduceIte]
        iterate 9 (apply det_pure; · (intro fa ga oa K' hK; simp (config := { maxSteps := 1000000 }) only [go_sem,↓reduceIte,q0, q1, q2, q3, q9, q10, q11, q12, q13, hki, e4a, e6a, hg, h20, hg3, ho3, fC, hwa, codeC, List.length_map, c3, hli] at hK ⊢; exact hK))
        (apply det_new; · (intro fa ga oa K' hK; simp (config := { maxSteps := 1000000 }) only [go_sem,↓reduceIte,q0, q1, q2, q3, q9, q10, q11, q12, q13, hki, e4a, e6a, hg, h20, hg3, ho3, fC, hwa, codeC, List.length_map, c3, hli, elemTy] at hK ⊢; exact hK))
        (apply det_new; · (intro fa ga oa K' hK; simp (config := { maxSteps := 1000000 }) only [go_sem,↓reduceIte,q0, q1, q2, q3, q9, q10, q11, q12, q13, hki, e4a, e6a, hg, h20, hg3, ho3, fC, hwa, codeC, List.length_map, c3, hli, elemTy] at hK ⊢; first | exact ⟨⟨by decide, by decide⟩, hK⟩ | exact ⟨⟨by decide, by omega⟩, hK⟩ | exact ⟨Nat.le_of_eq (flatR_len _).symm, ⟨by decide, by omega⟩, hK⟩ | exact ⟨Nat.le_refl _, ⟨by decide, by omega⟩, hK⟩))
        iterate 3 (apply det_pure; · (intro fa ga oa K' hK; simp (config := { maxSteps := 1000000 }) only [go_sem,↓reduceIte,q0, q1, q2, q3, q9, q10, q11, q12, q13, hki, e4a, e6a, hg, h20, hg3, ho3, fC, hwa, codeC, List.length_map, c3, hli] at hK ⊢; exact hK))
        apply det_last
        intro K' hK'
        simp (config := { maxSteps := 1000000 }) only [go_sem,↓reduceIte,q0, q1, q2, q3, q9, q10, q11, q12, q13, hki, e4a, e6a, hg, h20, hg3, ho3, fC, hwa, codeC, List.length_map, c3, hli]
        refine hK' _ ?_
        clear hK' K'
        simp (config := { maxSteps := 1000000 }) only [go_sem,↓reduceIte,q0, q1, q2, q3, q9, q10, q11, q12, q13, hki, e4a, e6a, hg, h20, hg3, ho3, fC, hwa, codeC, List.length_map, c3, hli]
        refine retF_at ⟨fun i hi => by (have := far hi; simp only [upd, this, if_false]; exact hgo i hi), fun i h5 hi => by (have := far hi; simp only [upd, this, h5, if_false]; exact hoo i h5 hi), rfl, ⟨by simp [upd, hg], _, lc, pc, _, rfl, ?_, hl, ?_⟩⟩
        · exact .inr ⟨by simp [addX], 3223, .inr rfl, by simp [upd, addX], by simp [upd, addX, codeC, List.take_of_length_le]⟩
        · exact hu
      rw [show useX st line xl = { st with uses := st.uses ++ [(line, st.code.length, xl)] } from if_neg hx]
      rcases hu with ⟨u1, rfl⟩ | ⟨u1, rfl, u3⟩
      · simp (config := { maxSteps := 1000000 }) only [go_sem,↓reduceIte,q0, q1, q2, q3, q9, q10, q11, q12, q13, hki, e4a, e6a, hg, h20, hg3, ho3, fC, hwa, codeC, List.length_map, c3, hli, hx]
        refine draw_det Tt_ok mixed [3156, 3157, 20] [([0], [0, 1], [], false), ([0], [0], [], false), ([143], [0], [], false), ([144], [0], [], false), ([145], [0], [], false), ([12], [], [], false), ([3], [], [], false), ([0], [], [], false), ([149], [], [], false), ([150], [], [], false), ([151], [], [], false), ([152], [], [], false), ([153], [], [], false), ([147, 148, 154], [], [], false), ([155], [], [0], false), ([146, 156], [], [1], false), ([142], [], [], false), ([158], [], [], false), ([159, 157], [], [], true)] 3 (by decide +kernel) rfl (by decide) ?_
        simp (config := { maxSteps := 1000000 }) only [go_sem,↓reduceIte]
        iterate 13 (apply det_pure; · (intro fa ga oa K' hK; simp (config := { maxSteps := 1000000 }) only [go_sem,↓reduceIte,q0, q1, q2, q3, q9, q10, q11, q12, q13, hki, e4a, e6a, hg, h20, hg3, ho3, fC, hwa, codeC, List.length_map, c3, hli, hx] at hK ⊢; exact hK))
        (apply det_pure; · (intro fa ga oa K' hK; simp (config := { maxSteps := 1000000 }) only [go_sem,↓reduceIte,buildA] at hK ⊢; exact hK))
        (apply det_new; · (intro fa ga oa K' hK; simp (config := { maxSteps := 1000000 }) only [go_sem,↓reduceIte,q0, q1, q2, q3, q9, q10, q11, q12, q13, hki, e4a, e6a, hg, h20, hg3, ho3, fC, hwa, codeC, List.length_map, c3, hli, hx, elemTy] at hK ⊢; exact hK))
        (apply det_new; · (intro fa ga oa K' hK; simp (config := { maxSteps := 1000000 }) only [go_sem,↓reduceIte,q0, q1, q2, q3, q9, q10, q11, q12, q13, hki, e4a, e6a, hg, h20, hg3, ho3, fC, hwa, codeC, List.length_map, c3, hli, hx, elemTy] at hK ⊢; first | exact ⟨⟨by decide, by decide⟩, hK⟩ | exact ⟨⟨by decide, by omega⟩, hK⟩ | exact ⟨Nat.le_of_eq (flatR_len _).symm, ⟨by decide, by omega⟩, hK⟩ | exact ⟨Nat.le_refl _, ⟨by decide, by omega⟩, hK⟩))
        iterate 2 (apply det_pure; · (intro fa ga oa K' hK; simp (config := { maxSteps := 1000000 }) only [go_sem,↓reduceIte,q0, q1, q2, q3, q9, q10, q11, q12, q13, hki, e4a, e6a, hg, h20, hg3, ho3, fC, hwa, codeC, List.length_map, c3, hli, hx] at hK ⊢; exact hK))
        apply det_last
        intro K' hK'
        simp (config := { maxSteps := 1000000 }) only [go_sem,↓reduceIte,q0, q1, q2, q3, q9, q10, q11, q12, q13, hki, e4a, e6a, hg, h20, hg3, ho3, fC, hwa, codeC, List.length_map, c3, hli, hx]
        refine hK' _ ?_
        clear hK' K'
        simp (config := { maxSteps := 1000000 }) only [go_sem,↓reduceIte,q0, q1, q2, q3, q9, q10, q11, q12, q13, hki, e4a, e6a, hg, h20, hg3, ho3, fC, hwa, codeC, List.length_map, c3, hli, hx]
        refine draw_det Tt_ok mixed [3171, 3223, 20] [([0], [0, 1], [], false), ([0], [0], [], false), ([163], [0], [], false), ([164], [0], [], false), ([165], [0], [], false), ([166], [0], [], false), ([10], [], [], false), ([168], [], [], false), ([169], [], [], false), ([170], [], [0], false), ([167, 171], [], [1], false), ([162], [], [], false), ([173], [], [], false), ([174], [], [], false), ([175, 172], [], [], true)] 3 (by decide +kernel) rfl (by decide) ?_
        simp (config := { maxSteps := 1000000 }) only [go_sem,↓reduceIte]
        iterate 9 (apply det_pure; · (intro fa ga oa K' hK; simp (config := { maxSteps := 1000000 }) only [go_sem,↓reduceIte,q0, q1, q2, q3, q9, q10, q11, q12, q13, hki, e4a, e6a, hg, h20, hg3, ho3, fC, hwa, codeC, List.length_map, c3, hli, hx] at hK ⊢; exact hK))
        (apply det_new; · (intro fa ga oa K' hK; simp (config := { maxSteps := 1000000 }) only [go_sem,↓reduceIte,q0, q1, q2, q3, q9, q10, q11, q12, q13, hki, e4a, e6a, hg, h20, hg3, ho3, fC, hwa, codeC, List.length_map, c3, hli, hx, elemTy] at hK ⊢; exact hK))
        (apply det_new; · (intro fa ga oa K' hK; simp (config := { maxSteps := 1000000 }) only [go_sem,↓reduceIte,q0, q1, q2, q3, q9, q10, q11, q12, q13, hki, e4a, e6a, hg, h20, hg3, ho3, fC, hwa, codeC, List.length_map, c3, hli, hx, elemTy] at hK ⊢; first | exact ⟨⟨by decide, by decide⟩, hK⟩ | exact ⟨⟨by decide, by omega⟩, hK⟩ | exact ⟨Nat.le_of_eq (flatR_len _).symm, ⟨by decide, by omega⟩, hK⟩ | exact ⟨Nat.le_refl _, ⟨by decide, by omega⟩, hK⟩))
        iterate 3 (apply det_pure; · (intro fa ga oa K' hK; simp (config := { maxSteps := 1000000 }) only [go_sem,↓reduceIte,q0, q1, q2, q3, q9, q10, q11, q12, q13, hki, e4a, e6a, hg, h20, hg3, ho3, fC, hwa, codeC, List.length_map, c3, hli, hx] at hK ⊢; exact hK))
        apply det_last
        intro K' hK'
        simp (config := { maxSteps := 1000000 }) only [go_sem,↓reduceIte,q0, q1, q2, q3, q9, q10, q11, q12, q13, hki, e4a, e6a, hg, h20, hg3, ho3, fC, hwa, codeC, List.length_map, c3, hli, hx]
        refine hK' _ ?_
        clear hK' K'
        simp (config := { maxSteps := 1000000 }) only [go_sem,↓reduceIte,q0, q1, q2, q3, q9, q10, q11, q12, q13, hki, e4a, e6a, hg, h20, hg3, ho3, fC, hwa, codeC, List.length_map, c3, hli, hx]
        refine retF_at ⟨fun i hi => by (have := far hi; simp only [upd, this, if_false]; exact hgo i hi), fun i h5 hi => by (have := far hi; simp only [upd, this, h5, if_false]; exact hoo i h5 hi), rfl, ⟨by simp [upd, hg], _, lc, pc, _, rfl, ?_, hl, ?_⟩⟩
        · exact .inr ⟨by simp [addX], 3223, .inr rfl, by simp [upd, addX], by simp [upd, addX, codeC, List.take_of_length_le]⟩
        · exact .inr ⟨by simp [addX], by simp [upd, u1, addX], by simp [upd, u1, addX, useR]⟩
      · simp (config := { maxSteps := 1000000 }) only [go_sem,↓reduceIte,q0, q1, q2, q3, q9, q10, q11, q12, q13, hki, e4a, e6a, hg, h20, hg3, ho3, fC, hwa, codeC, List.length_map, c3, hli, hx, u3]
        refine draw_det Tt_ok mixed [3156, 3157, 20] [([0], [0, 1], [], false), ([0], [0], [], false), ([143], [0], [], false), ([144], [0], [], false), ([145], [0], [], false), ([12], [], [], false), ([3], [], [], false), ([0], [], [], false), ([149], [], [], false), ([150], [], [], false), ([151], [], [], false), ([152], [], [], false), ([153], [], [], false), ([147, 148, 154], [], [], false), ([155], [], [0], false), ([146, 156], [], [1], false), ([142], [], [], false), ([158], [], [], false), ([159, 157], [], [], true)] 3 (by decide +kernel) rfl (by decide) ?_
        simp (config := { maxSteps := 1000000 }) only [go_sem,↓reduceIte]
        iterate 13 (apply det_pure; · (intro fa ga oa K' hK; simp (config := { maxSteps := 1000000 }) only [go_sem,↓reduceIte,q0, q1, q2, q3, q9, q10, q11, q12, q13, hki, e4a, e6a, hg, h20, hg3, ho3, fC, hwa, codeC, List.length_map, c3, hli, hx, u3] at hK ⊢; exact hK))
        (apply det_pure; · (intro fa ga oa K' hK; simp (config := { maxSteps := 1000000 }) only [go_sem,↓reduceIte,buildA] at hK ⊢; exact hK))
        (apply det_new; · (intro fa ga oa K' hK; simp (config := { maxSteps := 1000000 }) only [go_sem,↓reduceIte,q0, q1, q2, q3, q9, q10, q11, q12, q13, hki, e4a, e6a, hg, h20, hg3, ho3, fC, hwa, codeC, List.length_map, c3, hli, hx, u3, elemTy] at hK ⊢; exact hK))
        (apply det_new; · (intro fa ga oa K' hK; simp (config := { maxSteps := 1000000 }) only [go_sem,↓reduceIte,q0, q1, q2, q3, q9, q10, q11, q12, q13, hki, e4a, e6a, hg, h20, hg3, ho3, fC, hwa, codeC, List.length_map, c3, hli, hx, u3, elemTy] at hK ⊢; first | exact ⟨⟨by decide, by decide⟩, hK⟩ | exact ⟨⟨by decide, by omega⟩, hK⟩ | exact ⟨Nat.le_of_eq (flatR_len _).symm, ⟨by decide, by omega⟩, hK⟩ | exact ⟨Nat.le_refl _, ⟨by decide, by omega⟩, hK⟩))
        iterate 2 (apply det_pure; · (intro fa ga oa K' hK; simp (config := { maxSteps := 1000000 }) only [go_sem,↓reduceIte,q0, q1, q2, q3, q9, q10, q11, q12, q13, hki, e4a, e6a, hg, h20, hg3, ho3, fC, hwa, codeC, List.length_map, c3, hli, hx, u3] at hK ⊢; exact hK))
        apply det_last
        intro K' hK'
        simp (config := { maxSteps := 1000000 }) only [go_sem,↓reduceIte,q0, q1, q2, q3, q9, q10, q11, q12, q13, hki, e4a, e6a, hg, h20, hg3, ho3, fC, hwa, codeC, List.length_map, c3, hli, hx, u3]
        refine hK' _ ?_
        clear hK' K'
        simp (config := { maxSteps := 1000000 }) only [go_sem,↓reduceIte,q0, q1, q2, q3, q9, q10, q11, q12, q13, hki, e4a, e6a, hg, h20, hg3, ho3, fC, hwa, codeC, List.length_map, c3, hli, hx, u3]
        refine draw_det Tt_ok mixed [3171, 3223, 20] [([0], [0, 1], [], false), ([0], [0], [], false), ([163], [0], [], false), ([164], [0], [], false), ([165], [0], [], false), ([166], [0], [], false), ([10], [], [], false), ([168], [], [], false), ([169], [], [], false), ([170], [], [0], false), ([167, 171], [], [1], false), ([162], [], [], false), ([173], [], [], false), ([174], [], [], false), ([175, 172], [], [], true)] 3 (by decide +kernel) rfl (by decide) ?_
        simp (config := { maxSteps := 1000000 }) only [go_sem,↓reduceIte]
        iterate 9 (apply det_pure; · (intro fa ga oa K' hK; simp (config := { maxSteps := 1000000 }) only [go_sem,↓reduceIte,q0, q1, q2, q3, q9, q10, q11, q12, q13, hki, e4a, e6a, hg, h20, hg3, ho3, fC, hwa, codeC, List.length_map, c3, hli, hx, u3] at hK ⊢; exact hK))
        (apply det_new; · (intro fa ga oa K' hK; simp (config := { maxSteps := 1000000 }) only [go_sem,↓reduceIte,q0, q1, q2, q3, q9, q10, q11, q12, q13, hki, e4a, e6a, hg, h20, hg3, ho3, fC, hwa, codeC, List.length_map, c3, hli, hx, u3, elemTy] at hK ⊢; exact hK))
        (apply det_new; · (intro fa ga oa K' hK; simp (config := { maxSteps := 1000000 }) only [go_sem,↓reduceIte,q0, q1, q2, q3, q9, q10, q11, q12, q13, hki, e4a, e6a, hg, h20, hg3, ho3, fC, hwa, codeC, List.length_map, c3, hli, hx, u3, elemTy] at hK ⊢; first | exact ⟨⟨by decide, by decide⟩, hK⟩ | exact ⟨⟨by decide, by omega⟩, hK⟩ | exact ⟨Nat.le_of_eq (flatR_len _).symm, ⟨by decide, by omega⟩, hK⟩ | exact ⟨Nat.le_refl _, ⟨by decide, by omega⟩, hK⟩))
        iterate 3 (apply det_pure; · (intro fa ga oa K' hK; simp (config := { maxSteps := 1000000 }) only [go_sem,↓reduceIte,q0, q1, q2, q3, q9, q10, q11, q12, q13, hki, e4a, e6a, hg, h20, hg3, ho3, fC, hwa, codeC, List.length_map, c3, hli, hx, u3] at hK ⊢; exact hK))
        apply det_last
        intro K' hK'
        simp (config := { maxSteps := 1000000 }) only [go_sem,↓reduceIte,q0, q1, q2, q3, q9, q10, q11, q12, q13, hki, e4a, e6a, hg, h20, hg3, ho3, fC, hwa, codeC, List.length_map, c3, hli, hx, u3]
        refine hK' _ ?_
        clear hK' K'
        simp (config := { maxSteps := 1000000 }) only [go_sem,↓reduceIte,q0, q1, q2, q3, q9, q10, q11, q12, q13, hki, e4a, e6a, hg, h20, hg3, ho3, fC, hwa, codeC, List.length_map, c3, hli, hx, u3]
        refine retF_at ⟨fun i hi => by (have := far hi; simp only [upd, this, if_false]; exact hgo i hi), fun i h5 hi => by (have := far hi; simp only [upd, this, h5, if_false]; exact hoo i h5 hi), rfl, ⟨by simp [upd, hg], _, lc, pc, _, rfl, ?_, hl, ?_⟩⟩
        · exact .inr ⟨by simp [addX], 3223, .inr rfl, by simp [upd, addX], by simp [upd, addX, codeC, List.take_of_length_le]⟩
        · exact .inr ⟨by simp [addX], by simp [upd, addX], by simp [upd, addX, flatR_take, useR]⟩
  · -- .data
    rw [endA_data e4] at hP
    subst hP
    simp (config := { maxSteps := 1000000 }) only [go_sem,↓reduceIte,q0, q1, q2, q3, q9, q10, q11, q12, q13, hki, e4a, e6a, hg, h20, hg3, ho3, fC, List.map_cons, List.map_nil]
    refine retF_at ⟨hgo, fun i h5 hi => by simp only [upd]; rw [if_neg h5, if_neg h5]; exact hoo i h5 hi, rfl, ⟨hg, cc, lc, pc, uc, by simp [upd], CodeAt.of hc (fun i hi => rfl) (fun i hi => by simp only [upd]; rw [if_neg (by omega), if_neg (by omega)]), hl, hu⟩⟩

end Go.Proofs.YtifciocionlciaaGreatDoor

namespace Go.Proofs.YtifciocionlciaaGreatDoor
open Go Go.Am Go.Asm

set_option maxHeartbeats 2000000 in
theorem LinesR_A (s : Str) (hl : s.length ≤ 1000000000) : PureR Tryz.prog 13 [sv s] (· = .one (.d (strs (splitC 10 s)))) := by
  refine pure_of_wp Tt_ok mixed Tryz.func13 rfl (by rfl) [2] rfl (by kernel_rfl) (by simp [Tryz.ntmps13]) fun g => ?_
  simp (config := { maxSteps := 1000000 }) only [go_sem,↓reduceIte]
  refine loop_intro (fun n st => ∃ (t : Str) (done : List Str), t.length = n ∧ st.f 0 = sv t ∧ AllW 3 [20] done st ∧ t.length ≤ s.length ∧ done.length + t.length ≤ s.length ∧ splitC 10 s = done ++ splitC 10 t) s.length ?_ ?_
  · refine ⟨s, [], rfl, ?_⟩
    simp (config := { maxSteps := 1000000 }) only [go_sem,↓reduceIte]
    first | exact ⟨.inl ⟨by simp [upd], rfl⟩, Nat.le_refl _, Nat.le_of_eq (by simp)⟩ | (simp [AllW, upd]; done)
  rintro n f g ob ⟨t, done, rfl, q0, hW, htl, hdl, hsp⟩
  simp only at q0
  have hul := upto_len 10 t
  simp (config := { maxSteps := 1000000 }) only [go_sem,↓reduceIte,q0]
  refine hook_call rfl (by simp (config := { maxSteps := 1000000 }) only [go_sem,↓reduceIte]; exact find_A t 10 (by omega)) (by simp (config := { maxSteps := 1000000 }) only [go_sem,↓reduceIte]; rfl) ?_
  rintro _ rfl
  simp (config := { maxSteps := 1000000 }) only [go_sem,↓reduceIte,q0]
  refine ⟨fun he => ?_, fun he => ?_⟩
  · have hm : (10 : UInt8) ∉ t := fun h => by have := (upto_lt 10 t).2 h; omega
    rw [hsp, splitC_none hm]
    rcases hW with ⟨q3, qL⟩ | ⟨id, hid, q3, qo⟩
    · simp only at q3
      simp (config := { maxSteps := 1000000 }) only [go_sem,↓reduceIte,q3, elemTy]
      refine ⟨⟨by decide, by decide⟩, _, ⟨_, frz_strs (L := done ++ [t]) rfl (by simp [upd, qL]) (by simp [qL]), rfl⟩, rfl⟩
    · simp only [List.mem_singleton] at hid
      subst hid
      simp only at q3 qo
      simp (config := { maxSteps := 1000000 }) only [go_sem,↓reduceIte,q3, qo, elemTy]
      refine ⟨Nat.le_refl _, ⟨by decide, by omega⟩, _, ⟨_, frz_strs (L := done ++ [t]) rfl (by simp [upd, List.take_of_length_le]) (by simp), rfl⟩, rfl⟩
  · have hm : (10 : UInt8) ∈ t := (upto_lt 10 t).1 (by omega)
    have hlt := (upto_lt 10 t).2 hm
    have hwp := wrap_succ (k := (upto 10 t).length) (by omega)
    have hnext : splitC 10 s = (done ++ [upto 10 t]) ++ splitC 10 (t.drop ((upto 10 t).length + 1)) := by rw [hsp, splitC_upto hm]; simp
    refine ⟨by omega, by omega, ?_⟩
    rw [upto_take]
    rcases hW with ⟨q3, qL⟩ | ⟨id, hid, q3, qo⟩
    · simp only at q3
      simp (config := { maxSteps := 1000000 }) only [go_sem,↓reduceIte,q3, elemTy, hwp]
      refine ⟨⟨by decide, by decide⟩, ?_⟩
      simp (config := { maxSteps := 1000000 }) only [go_sem,↓reduceIte,q0, hwp]
      refine ⟨by omega, Nat.le_refl _, ?_⟩
      refine round_end (t.drop ((upto 10 t).length + 1)).length (by rw [List.length_drop]; omega) ⟨t.drop ((upto 10 t).length + 1), done ++ [upto 10 t], rfl, ?_⟩
      simp (config := { maxSteps := 1000000 }) only [go_sem,↓reduceIte]
      exact ⟨.inr ⟨20, by simp, by simp [upd, qL], by simp [upd, qL]⟩, by rw [List.length_drop]; omega, by simp only [List.length_append, List.length_cons, List.length_nil, List.length_drop]; omega, hnext⟩
    · simp only [List.mem_singleton] at hid
      subst hid
      simp only at q3 qo
      simp (config := { maxSteps := 1000000 }) only [go_sem,↓reduceIte,q3, qo, elemTy, hwp]
      refine ⟨Nat.le_refl _, ⟨by decide, by omega⟩, ?_⟩
      simp (config := { maxSteps := 1000000 }) only [go_sem,↓reduceIte,q0, hwp]
      refine ⟨by omega, Nat.le_refl _, ?_⟩
      refine round_end (t.drop ((upto 10 t).length + 1)).length (by rw [List.length_drop]; omega) ⟨t.drop ((upto 10 t).length + 1), done ++ [upto 10 t], rfl, ?_⟩
      simp (config := { maxSteps := 1000000 }) only [go_sem,↓reduceIte]
      exact ⟨.inr ⟨20, by simp, by simp [upd], by simp [upd, List.take_of_length_le]⟩, by rw [List.length_drop]; omega, by simp only [List.length_append, List.length_cons, List.length_nil, List.length_drop]; omega, hnext⟩

end Go.Proofs.YtifciocionlciaaGreatDoor

namespace Go.Proofs.YtifciocionlciaaGreatDoor
open Go Go.Am Go.Asm

theorem addW_labs {st st' : Sta} {w : Nat} (h : addW st w = .ok st') : st'.labs = st.labs := by
  unfold addW at h; split at h <;> cases h; rfl
theorem opA_labs {n : Nat} {st st' : Sta} {op : Str} {args : List Str} (h : Asm.opA n st op args = .ok st') : st'.labs = st.labs := by
  unfold Asm.opA at h
  have hd : ∀ b, dirA st b args = .ok st' → st'.labs = st.labs := by
    intro b h
    unfold dirA at h
    repeat' split at h
    all_goals first | (cases h; rfl) | (cases h; done) | exact addW_labs h
  split at h
  · cases h; rfl
  · split at h
    · exact hd _ h
    · split at h
      · exact hd _ h
      · split at h
        · cases h
        · unfold insA at h
          repeat' split at h
          all_goals first | (cases h; done) | exact addW_labs h | exact (addW_labs h : _)
theorem stepA_labs {n : Nat} {st st' : Sta} {s : Str} (h : stepA n st s = .ok st') : st'.labs.length ≤ st.labs.length + 1 := by
  unfold stepA at h
  repeat' split at h
  · cases h
  · rw [opA_labs h]; omega
  · cases h
  · rw [opA_labs h]; simp

theorem Right8_A (a : List Nat × Nat) : PureR Tryz.prog 8 [imgV a] (· = bv (decide (a.1.length ≤ 16384 ∧ a.2 ≤ 32768))) := by
  refine pure_of_wp Tt_ok mixed Tryz.func8 rfl (by rfl) [2] rfl (by kernel_rfl) (by simp [Tryz.ntmps8]) fun g => ?_
  unfold imgV codeD
  have h0 : (0 : Int) ≤ (a.2 : Int) := by omega
  by_cases h1 : a.1.length ≤ 16384
  · have h1i : ((a.1.length : Nat) : Int) ≤ 16384 := by omega
    by_cases h2 : a.2 ≤ 32768
    · have h2i : (a.2 : Int) ≤ 32768 := by omega
      rw [decide_eq_true ⟨h1, h2⟩]
      simp (config := { maxSteps := 1000000 }) only [go_sem,↓reduceIte,List.length_map, h1i, h2i, h0]
    · have h2i : ¬ (a.2 : Int) ≤ 32768 := by omega
      rw [decide_eq_false (fun h => h2 h.2)]
      simp (config := { maxSteps := 1000000 }) only [go_sem,↓reduceIte,List.length_map, h1i, h2i, h0]
  · have h1i : ¬ ((a.1.length : Nat) : Int) ≤ 16384 := by omega
    rw [decide_eq_false (fun h => h1 h.1)]
    simp (config := { maxSteps := 1000000 }) only [go_sem,↓reduceIte,List.length_map, h1i]

end Go.Proofs.YtifciocionlciaaGreatDoor

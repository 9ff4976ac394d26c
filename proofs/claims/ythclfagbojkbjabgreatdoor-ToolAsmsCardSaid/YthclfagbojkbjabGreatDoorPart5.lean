/- A part of the proof; no conditions. -/
import Derived.Test.YthclfagbojkbjabGreatDoorPart4
set_option linter.unusedSimpArgs false
set_option linter.unusedVariables false
namespace Go.Proofs.YthclfagbojkbjabGreatDoor
open Go Go.Am Go.Asm

def hexU (c : UInt8) : Nat := match hexV c with | some v => v | none => 16
theorem hexV_le {c : UInt8} {v : Nat} (h : hexV c = some v) : v ≤ 15 := by
  unfold hexV at h
  repeat' split at h
  · rename_i hd
    unfold digit at hd
    simp only [Bool.and_eq_true, decide_eq_true_eq] at hd
    cases h; omega
  · cases h; omega
  · cases h; omega
  · cases h
theorem hexU_digit {c : UInt8} (h : 48 ≤ c.toNat ∧ c.toNat ≤ 57) : hexU c = c.toNat - 48 := by
  have : digit c = true := by unfold digit; simp [h.1, h.2]
  simp [hexU, hexV, this]
theorem hexU_low {c : UInt8} (h : 97 ≤ c.toNat ∧ c.toNat ≤ 102) : hexU c = c.toNat - 87 := by
  have : digit c = false := by unfold digit; simp; omega
  simp [hexU, hexV, this, h.1, h.2]
theorem hexU_up {c : UInt8} (h : 65 ≤ c.toNat ∧ c.toNat ≤ 70) : hexU c = c.toNat - 55 := by
  have : digit c = false := by unfold digit; simp; omega
  have h2 : ¬ (97 ≤ c.toNat ∧ c.toNat ≤ 102) := by omega
  simp [hexU, hexV, this, h2, h.1, h.2]
theorem hexU_no {c : UInt8} (h1 : ¬ (48 ≤ c.toNat ∧ c.toNat ≤ 57)) (h2 : ¬ (97 ≤ c.toNat ∧ c.toNat ≤ 102)) (h3 : ¬ (65 ≤ c.toNat ∧ c.toNat ≤ 70)) : hexU c = 16 := by
  have : digit c = false := by unfold digit; simp; omega
  simp [hexU, hexV, this, h2, h3]

theorem hexdigitR_A (c : UInt8) : PureR Tryz.prog 68 [iv .u8 c.toNat] (· = iv .u32 (hexU c : Nat)) := by
  refine pure_of_wp Tt_ok mixed Tryz.func68 rfl (by rfl) [2] rfl (by kernel_rfl) (by simp [Tryz.ntmps68]) fun g => ?_
  have hlt := c.toNat_lt
  have wb : ∀ n : Nat, n < 256 → IntKind.u8.wrap (n : Int) = n := fun n h => by rw [IntKind.wrap_u8]; omega
  have ww : ∀ n : Nat, n < 4294967296 → IntKind.u32.wrap (n : Int) = n := fun n h => by rw [IntKind.wrap_u32]; omega
  simp (config := { maxSteps := 1000000 }) only [go_sem,↓reduceIte]
  refine hook_call rfl (by simp (config := { maxSteps := 1000000 }) only [go_sem,↓reduceIte]; exact digit_A c) (by simp (config := { maxSteps := 1000000 }) only [go_sem,↓reduceIte]; rfl) ?_
  rintro _ rfl
  by_cases hd : 48 ≤ c.toNat ∧ c.toNat ≤ 57
  · have hdd : digit c = true := by unfold digit; simp [hd.1, hd.2]
    have w1 : IntKind.u8.wrap ((c.toNat : Int) - 48) = ((c.toNat - 48 : Nat) : Int) := by rw [IntKind.wrap_u8]; omega
    rw [hdd, hexU_digit hd]
    simp (config := { maxSteps := 1000000 }) only [go_sem,↓reduceIte,w1, ww (c.toNat - 48) (by omega)]
  have hdd : digit c = false := by unfold digit; simp; omega
  rw [hdd]
  by_cases hl : 97 ≤ c.toNat ∧ c.toNat ≤ 102
  · have e1 : (97 : Int) ≤ (c.toNat : Int) := by omega
    have e2 : (c.toNat : Int) ≤ 102 := by omega
    have w1 : IntKind.u8.wrap ((c.toNat : Int) - 97) = ((c.toNat - 97 : Nat) : Int) := by rw [IntKind.wrap_u8]; omega
    have w2 : IntKind.u32.wrap (((c.toNat - 97 : Nat) : Int) + 10) = ((c.toNat - 87 : Nat) : Int) := by rw [IntKind.wrap_u32]; omega
    rw [hexU_low hl]
    simp (config := { maxSteps := 1000000 }) only [go_sem,↓reduceIte,e1, e2, w1, ww (c.toNat - 97) (by omega), w2]
  by_cases hu : 65 ≤ c.toNat ∧ c.toNat ≤ 70
  · have e1 : ¬ (97 : Int) ≤ (c.toNat : Int) := by omega
    have e3 : (65 : Int) ≤ (c.toNat : Int) := by omega
    have e4 : (c.toNat : Int) ≤ 70 := by omega
    have w1 : IntKind.u8.wrap ((c.toNat : Int) - 65) = ((c.toNat - 65 : Nat) : Int) := by rw [IntKind.wrap_u8]; omega
    have w2 : IntKind.u32.wrap (((c.toNat - 65 : Nat) : Int) + 10) = ((c.toNat - 55 : Nat) : Int) := by rw [IntKind.wrap_u32]; omega
    rw [hexU_up hu]
    simp (config := { maxSteps := 1000000 }) only [go_sem,↓reduceIte,e1, e3, e4, w1, ww (c.toNat - 65) (by omega), w2]
  rw [hexU_no hd hl hu]
  by_cases e1 : (97 : Int) ≤ (c.toNat : Int)
  · have e2 : ¬ (c.toNat : Int) ≤ 102 := by omega
    have e3 : (65 : Int) ≤ (c.toNat : Int) := by omega
    have e4 : ¬ (c.toNat : Int) ≤ 70 := by omega
    simp (config := { maxSteps := 1000000 }) only [go_sem,↓reduceIte,e1, e2, e3, e4]
  · by_cases e3 : (65 : Int) ≤ (c.toNat : Int)
    · have e4 : ¬ (c.toNat : Int) ≤ 70 := by omega
      simp (config := { maxSteps := 1000000 }) only [go_sem,↓reduceIte,e1, e3, e4]
    · simp (config := { maxSteps := 1000000 }) only [go_sem,↓reduceIte,e1, e3]

/-! ### Numbers -/
def numV : Opd → AV
  | .num n => .tup [iv .u32 (n : Nat), iv .i64 0]
  | .great => .tup [iv .u32 0, iv .i64 2]
  | _ => .tup [iv .u32 0, iv .i64 1]
/-- A number of an operand, in the reference's order. -/
def numO (s : Str) : Opd :=
  match charOf s with
  | some n => .num n
  | none => match s with
    | 48 :: 120 :: c :: d => (match hexN (c :: d) with | some n => .num n | none => .other)
    | s => (match parseN s with | .ok n => .num n | .rng => .great | .syn => .other)
theorem num_same (s : Str) : numV (numO s) = numV (operandA s) := by
  unfold numO operandA
  cases hc : charOf s with
  | some n =>
    unfold charOf at hc
    split at hc
    · rename_i a c b
      split at hc
      · rename_i h
        obtain ⟨rfl, rfl, hok⟩ := h
        cases hc
        have hr : regOf [39, c, 39] = none := rfl
        have hp : parseN [39, c, 39] = .syn := by
          unfold parseN
          rw [if_neg (by simp), if_neg (by simp [digit])]
        rw [hr, hp]
        have h2 : charOf [39, c, 39] = some c.toNat := if_pos ⟨rfl, rfl, hok⟩
        have h3 : restOpd [39, c, 39] = (match charOf [39, c, 39] with | some n => .num n | none => if isLabel [39, c, 39] = true then .lab else .other) := rfl
        simp only [h3, h2]
      · cases hc
    · cases hc
  | none =>
    simp only []
    split
    · rename_i c d
      have hr : regOf (48 :: 120 :: c :: d) = none := rfl
      have hp : parseN (48 :: 120 :: c :: d) = .syn := by
        unfold parseN
        rw [if_pos (.inr ⟨by simp, rfl⟩)]
      rw [hr, hp]
      have h3 : restOpd (48 :: 120 :: c :: d) = (match hexN (c :: d) with | some n => .num n | none => .other) := rfl
      simp only [h3]
    · rename_i hne
      cases hr : regOf s with
      | some n =>
        have hp : parseN s = .syn := by
          unfold regOf at hr
          split at hr
          · rename_i d
            unfold parseN
            rw [if_neg (by simp), if_neg (by simp [digit])]
          · cases hr
        rw [hp]
        rfl
      | none =>
        cases hp : parseN s with
        | ok n => rfl
        | rng => rfl
        | syn =>
          simp only []
          unfold restOpd
          split
          · rename_i d
            cases d with
            | nil => rfl
            | cons c d => exact absurd rfl (hne c d)
          · rw [hc]
            simp only []
            split <;> rfl

theorem hexGo_snoc (a : Nat) (s : Str) (c : UInt8) : hexGo a (s ++ [c]) = (hexGo a s).bind fun m => (hexV c).map fun v => 16 * m + v := by
  induction s generalizing a with
  | nil => cases h : hexV c <;> simp [hexGo, h]
  | cons b s ih =>
    simp only [List.cons_append, hexGo]
    cases h : hexV b with
    | none => rfl
    | some v => exact ih _
theorem hexGo_none {a : Nat} {c : UInt8} (h : hexV c = none) : ∀ {s : Str}, c ∈ s → hexGo a s = none
  | [], hm => by simp at hm
  | b :: s, hm => by
    unfold hexGo
    rcases List.mem_cons.1 hm with rfl | hm
    · rw [h]; rfl
    · cases hb : hexV b with
      | none => rfl
      | some v => exact hexGo_none h hm
theorem hexGo_lt : ∀ {s : Str} {a n : Nat}, hexGo a s = some n → n < (a + 1) * 16 ^ s.length
  | [], a, n, h => by cases h; simp
  | c :: s, a, n, h => by
    unfold hexGo at h
    cases hc : hexV c with
    | none => rw [hc] at h; cases h
    | some v =>
      rw [hc] at h
      have := hexGo_lt (s := s) (a := 16 * a + v) h
      have hv := hexV_le hc
      rw [List.length_cons, Nat.pow_succ]
      refine Nat.lt_of_lt_of_le this ?_
      rw [Nat.mul_comm (16 ^ s.length) 16, ← Nat.mul_assoc]
      exact Nat.mul_le_mul_right _ (by omega)

theorem numO_hex {c : UInt8} {d : Str} : numO (48 :: 120 :: c :: d) = (match hexN (c :: d) with | some n => .num n | none => .other) := by
  have hc : charOf (48 :: 120 :: c :: d) = none := by
    unfold charOf
    split
    · rename_i a x b e
      have := ((List.cons.injEq _ _ _ _).mp e).1
      rw [if_neg (by rw [← this]; simp)]
    · rfl
  unfold numO
  simp only [hc]
theorem numO_dec {s : Str} (hc : charOf s = none) (h : ∀ c d, s ≠ 48 :: 120 :: c :: d) : numO s = (match parseN s with | .ok n => .num n | .rng => .great | .syn => .other) := by
  unfold numO
  rw [hc]
  split
  · rename_i e; cases e
  · split
    · exact absurd rfl (h _ _)
    · rfl

set_option maxHeartbeats 16000000 in
set_option maxRecDepth 100000 in
theorem number_A (s : Str) (hl : s.length ≤ 1000000) : PureR Tryz.prog 40 [sv s] (· = numV (numO s)) := by
  refine pure_of_wp Tt_ok mixed Tryz.func40 rfl (by rfl) [2, 3] rfl (by kernel_rfl) (by simp [Tryz.ntmps40]) fun g => ?_
  by_cases hpre : ∃ c d, s = 48 :: 120 :: c :: d
  · obtain ⟨c, d, rfl⟩ := hpre
    rw [numO_hex]
    have z48 : ((48 : UInt8).toNat : Int) = 48 := rfl
    have z120 : ((120 : UInt8).toNat : Int) = 120 := rfl
    have hgt : (2 : Int) < ((d.length + 1 + 1 + 1 : Nat) : Int) := by omega
    by_cases h10 : 8 < (c :: d).length
    · have h10i : (10 : Int) < ((d.length + 1 + 1 + 1 : Nat) : Int) := by simp only [List.length_cons] at h10; omega
      rw [show hexN (c :: d) = none by unfold hexN; rw [if_neg (by omega)]]
      by_cases h3 : ((d.length + 1 + 1 + 1 : Nat) : Int) = 3
      · omega
      · simp (config := { maxSteps := 1000000 }) only [go_sem,↓reduceIte,h3, hgt, z48, z120, h10i]
        rfl
    have h10i : ¬ (10 : Int) < ((d.length + 1 + 1 + 1 : Nat) : Int) := by simp only [List.length_cons] at h10; omega
    rw [show hexN (c :: d) = hexGo 0 (c :: d) by unfold hexN; rw [if_pos (by simp only [List.length_cons] at h10 ⊢; omega)]]
    refine (Classical.em (((d.length + 1 + 1 + 1 : Nat) : Int) = 3)).elim (fun h3 => ?_) (fun h3 => ?_)
    all_goals
      simp (config := { maxSteps := 1000000 }) only [go_sem,↓reduceIte,h3, hgt, z48, z120, h10i]
      have hSl : (48 :: 120 :: c :: d : Str).length = (c :: d).length + 2 := rfl
      have hSg : ∀ k, (48 :: 120 :: c :: d : Str)[k + 2]? = (c :: d)[k]? := fun k => rfl
      generalize (48 :: 120 :: c :: d : Str) = S at hSl hSg ⊢
      clear h3 hgt h10i
      generalize c :: d = D at hSl hSg h10 ⊢
      refine loop_intro (fun nn st => ∃ k n : Nat, nn + k = D.length ∧ st.f 0 = sv S ∧ st.f 5 = iv .i64 ((k + 2 : Nat) : Int) ∧ st.f 4 = iv .u32 (n : Nat) ∧ hexGo 0 (D.take k) = some n) D.length ?_ ?_
      · refine ⟨0, 0, by omega, ?_⟩
        simp (config := { maxSteps := 1000000 }) only [go_sem,↓reduceIte,List.take_zero]
        rfl
      rintro nn f g ob ⟨k, n, hk, q0, q5, q4, hn⟩
      simp only at q0 q5 q4
      by_cases hlt : k < D.length
      · obtain ⟨x, hx⟩ := getq hlt
        have hgx : S[k + 2]? = some x := by rw [hSg]; exact hx
        have hkl : ((k + 2 : Nat) : Int) < (S.length : Int) := by omega
        have hk0 : (0 : Int) ≤ ((k + 2 : Nat) : Int) := by omega
        have hkw : IntKind.i64.wrap (((k + 2 : Nat) : Int) + 1) = ((k + 1 + 2 : Nat) : Int) := wrap_succ (by omega)
        have htk : D.take (k + 1) = D.take k ++ [x] := by rw [List.take_add_one, hx]; rfl
        simp (config := { maxSteps := 1000000 }) only [go_sem,↓reduceIte,q0, q5, q4, hgx, hkl, hk0, Int.toNat_natCast]
        refine hook_call rfl (by simp (config := { maxSteps := 1000000 }) only [go_sem,↓reduceIte]; exact hexdigitR_A x) (by simp (config := { maxSteps := 1000000 }) only [go_sem,↓reduceIte]; rfl) ?_
        rintro _ rfl
        cases hv : hexV x with
        | none =>
          have hu : hexU x = 16 := by unfold hexU; rw [hv]
          rw [hu, hexGo_none hv (List.mem_of_getElem? hx)]
          simp (config := { maxSteps := 1000000 }) only [go_sem,↓reduceIte]
          rfl
        | some v =>
          have hu : hexU x = v := by unfold hexU; rw [hv]
          have hvl := hexV_le hv
          have hgo : hexGo 0 (D.take (k + 1)) = some (16 * n + v) := by rw [htk, hexGo_snoc, hn, hv]; rfl
          have hlt2 := hexGo_lt hgo
          have hpw : 16 ^ (D.take (k + 1)).length ≤ 16 ^ 8 := Nat.pow_le_pow_right (by decide) (by rw [List.length_take]; omega)
          have hpe : 16 ^ 8 = 4294967296 := by decide
          have hvi : ¬ (15 : Int) < (v : Int) := by omega
          have w1 : IntKind.u32.wrap ((n : Int) * 16) = ((n * 16 : Nat) : Int) := by rw [IntKind.wrap_u32]; omega
          have w2 : IntKind.u32.wrap (((n * 16 : Nat) : Int) + (v : Int)) = ((16 * n + v : Nat) : Int) := by rw [IntKind.wrap_u32]; omega
          rw [hu]
          simp (config := { maxSteps := 1000000 }) only [go_sem,↓reduceIte,hvi, q0, q5, q4, hgx, hk0, Int.toNat_natCast]
          refine hook_call rfl (by simp (config := { maxSteps := 1000000 }) only [go_sem,↓reduceIte]; exact hexdigitR_A x) (by simp (config := { maxSteps := 1000000 }) only [go_sem,↓reduceIte]; rfl) ?_
          rintro _ rfl
          rw [hu]
          simp (config := { maxSteps := 1000000 }) only [go_sem,↓reduceIte,q0, q5, q4, hkw, w1, w2]
          refine round_end (nn - 1) (by omega) ⟨k + 1, 16 * n + v, by omega, ?_⟩
          simp (config := { maxSteps := 1000000 }) only [go_sem,↓reduceIte,q0]
          exact hgo
      · have hkl : ¬ ((k + 2 : Nat) : Int) < (S.length : Int) := by omega
        rw [List.take_of_length_le (by omega)] at hn
        rw [hn]
        simp (config := { maxSteps := 1000000 }) only [go_sem,↓reduceIte,q0, q5, q4, hkl]
        rfl
  have hnp : ∀ c d, s ≠ 48 :: 120 :: c :: d := fun c d e => hpre ⟨c, d, e⟩
  clear hpre
  refine (Classical.em (s.length = 3)).elim (fun h3 => ?len3) (fun h3 => ?other)
  case' len3 =>
    have h3i : ((s.length : Nat) : Int) = 3 := by omega
    obtain ⟨a, c, b, hs3⟩ := three h3
    have g0 : s[0]? = some a := by rw [hs3]; rfl
    have g1 : s[1]? = some c := by rw [hs3]; rfl
    have g2 : s[2]? = some b := by rw [hs3]; rfl
    by_cases ha : a = 39
    case' neg =>
      have hcn : charOf s = none := by rw [hs3]; simp [charOf, ha]
      have ha2 : ¬ (a.toNat : Int) = 39 := u8_ne (d := 39) ha
      by_cases hz : a = 48
      case' neg =>
        have hz2 : ¬ (a.toNat : Int) = 48 := u8_ne (d := 48) hz
        simp (config := { maxSteps := 1000000 }) only [go_sem,↓reduceIte,h3i, g0, ha2, hz2]
      case' pos =>
        have hz2 : (a.toNat : Int) = 48 := by rw [hz]; rfl
        have hc2 : ¬ (c.toNat : Int) = 120 := u8_ne (d := 120) (fun e => hnp b [] (by rw [hs3, hz, e]))
        simp (config := { maxSteps := 1000000 }) only [go_sem,↓reduceIte,h3i, g0, g1, hz2, hc2]
    rotate_left 2
    have ha2 : (a.toNat : Int) = 39 := by rw [ha]; rfl
    by_cases hb : b = 39
    case' neg =>
      have hcn : charOf s = none := by rw [hs3]; simp [charOf, hb]
      have hb2 : ¬ (b.toNat : Int) = 39 := u8_ne (d := 39) hb
      simp (config := { maxSteps := 1000000 }) only [go_sem,↓reduceIte,h3i, g0, g2, ha2, hb2]
    rotate_left
    have hb2 : (b.toNat : Int) = 39 := by rw [hb]; rfl
    by_cases hc1 : 33 ≤ c.toNat
    case' neg =>
      have hcn : charOf s = none := by rw [hs3]; simp [charOf, charOk, hc1]
      have hc1i : ¬ (33 : Int) ≤ (c.toNat : Int) := by omega
      simp (config := { maxSteps := 1000000 }) only [go_sem,↓reduceIte,h3i, g0, g1, g2, ha2, hb2, hc1i]
    rotate_left
    have hc1i : (33 : Int) ≤ (c.toNat : Int) := by omega
    by_cases hc2 : c.toNat ≤ 126
    case' neg =>
      have hcn : charOf s = none := by rw [hs3]; simp [charOf, charOk, hc2]
      have hc2i : ¬ (c.toNat : Int) ≤ 126 := by omega
      simp (config := { maxSteps := 1000000 }) only [go_sem,↓reduceIte,h3i, g0, g1, g2, ha2, hb2, hc1i, hc2i]
    rotate_left
    have hc2i : (c.toNat : Int) ≤ 126 := by omega
    by_cases hc3 : c = 39
    case' pos =>
      have hcn : charOf s = none := by rw [hs3]; simp [charOf, charOk, hc3]
      have hc3i : (c.toNat : Int) = 39 := by rw [hc3]; rfl
      simp (config := { maxSteps := 1000000 }) only [go_sem,↓reduceIte,h3i, g0, g1, g2, ha2, hb2, hc1i, hc2i, hc3i]
    rotate_left
    have hc3i : ¬ (c.toNat : Int) = 39 := u8_ne (d := 39) hc3
    by_cases hc4 : c = 35
    case' pos =>
      have hcn : charOf s = none := by rw [hs3]; simp [charOf, charOk, hc4]
      have hc4i : (c.toNat : Int) = 35 := by rw [hc4]; rfl
      simp (config := { maxSteps := 1000000 }) only [go_sem,↓reduceIte,h3i, g0, g1, g2, ha2, hb2, hc1i, hc2i, hc3i, hc4i]
    rotate_left
    have hc4i : ¬ (c.toNat : Int) = 35 := u8_ne (d := 35) hc4
    by_cases hc5 : c = 44
    case' pos =>
      have hcn : charOf s = none := by rw [hs3]; simp [charOf, charOk, hc5]
      have hc5i : (c.toNat : Int) = 44 := by rw [hc5]; rfl
      simp (config := { maxSteps := 1000000 }) only [go_sem,↓reduceIte,h3i, g0, g1, g2, ha2, hb2, hc1i, hc2i, hc3i, hc4i, hc5i]
    rotate_left
    have hc5i : ¬ (c.toNat : Int) = 44 := u8_ne (d := 44) hc5
    by_cases hc6 : c = 58
    case' pos =>
      have hcn : charOf s = none := by rw [hs3]; simp [charOf, charOk, hc6]
      have hc6i : (c.toNat : Int) = 58 := by rw [hc6]; rfl
      simp (config := { maxSteps := 1000000 }) only [go_sem,↓reduceIte,h3i, g0, g1, g2, ha2, hb2, hc1i, hc2i, hc3i, hc4i, hc5i, hc6i]
    case neg =>
      have hc6i : ¬ (c.toNat : Int) = 58 := u8_ne (d := 58) hc6
      have hok : charOf s = some c.toNat := by
        rw [hs3]
        exact charOf_ok ha hb hc1 hc2 (by simp [badC, hc3, hc4, hc5, hc6])
      have hw : IntKind.u32.wrap (c.toNat : Int) = (c.toNat : Int) := by rw [IntKind.wrap_u32]; omega
      simp (config := { maxSteps := 1000000 }) only [go_sem,↓reduceIte,h3i, g0, g1, g2, ha2, hb2, hc1i, hc2i, hc3i, hc4i, hc5i, hc6i, hw]
      rw [show numO s = .num c.toNat by unfold numO; rw [hok]]
      rfl
  case' other =>
    have hcn : charOf s = none := charOf_len h3
    have h3i : ¬ ((s.length : Nat) : Int) = 3 := by omega
    by_cases h4 : s.length ≤ 2
    case' pos =>
      have h4i : ¬ (2 : Int) < ((s.length : Nat) : Int) := by omega
      simp (config := { maxSteps := 1000000 }) only [go_sem,↓reduceIte,h3i, h4i]
    case' neg =>
      have h4i : (2 : Int) < ((s.length : Nat) : Int) := by omega
      obtain ⟨a, c, b, r, hs⟩ : ∃ a c b r, s = a :: c :: b :: r := by
        match s, h4 with
        | a :: c :: b :: r, _ => exact ⟨a, c, b, r, rfl⟩
        | [], h => simp at h
        | [_], h => simp at h
        | [_, _], h => simp at h
      have g0 : s[0]? = some a := by rw [hs]; rfl
      have g1 : s[1]? = some c := by rw [hs]; rfl
      by_cases ha : a = 48
      case' neg =>
        have ha2 : ¬ (a.toNat : Int) = 48 := u8_ne (d := 48) ha
        simp (config := { maxSteps := 1000000 }) only [go_sem,↓reduceIte,h3i, h4i, g0, ha2]
      case' pos =>
        have ha2 : (a.toNat : Int) = 48 := by rw [ha]; rfl
        have hc2 : ¬ (c.toNat : Int) = 120 := u8_ne (d := 120) (fun e => hnp b r (by rw [hs, ha, e]))
        simp (config := { maxSteps := 1000000 }) only [go_sem,↓reduceIte,h3i, h4i, g0, g1, ha2, hc2]
  all_goals
    refine hook_call rfl (by simp (config := { maxSteps := 1000000 }) only [go_sem,↓reduceIte]; exact ParseR_A s (by omega)) (by simp (config := { maxSteps := 1000000 }) only [go_sem,↓reduceIte]; rfl) ?_
    rintro _ rfl
    rw [numO_dec hcn hnp]
    cases parseN s with
    | ok n =>
      unfold prV
      simp (config := { maxSteps := 1000000 }) only [go_sem,↓reduceIte]
      rfl
    | rng =>
      unfold prV
      simp (config := { maxSteps := 1000000 }) only [go_sem,↓reduceIte]
      rfl
    | syn =>
      unfold prV
      simp (config := { maxSteps := 1000000 }) only [go_sem,↓reduceIte]
      rfl

end Go.Proofs.YthclfagbojkbjabGreatDoor

namespace Go.Proofs.YthclfagbojkbjabGreatDoor
open Go Go.Am Go.Asm

def partsI (op : Nat) : Str := (if (Asm.shape op).1 = true then [97] else []) ++ (if (Asm.shape op).2.1 = true then [98] else []) ++ (if (Asm.shape op).2.2 = 2 then [114] else if (Asm.shape op).2.2 = 1 then [99] else [])
def partsT (op : Int) : Str := if knownN op.toNat = true then partsI op.toNat else [63]
theorem partsT_other {op : Int} (h : op.toNat = 0 ∨ 28 ≤ op.toNat) : partsT op = [63] := by
  unfold partsT
  rw [if_neg]
  unfold knownN
  simp; omega

theorem partsT_mid {op : Int} (h1 : 4 ≤ op) (h2 : op ≤ 15) : partsT op = [97, 98, 114] := by
  obtain ⟨k, rfl⟩ : ∃ k : Nat, op = k := ⟨op.toNat, by omega⟩
  have key : ∀ k : Nat, k < 16 → 4 ≤ k → partsT (k : Int) = [97, 98, 114] := by decide
  exact key k (by omega) (by omega)

set_option maxHeartbeats 4000000 in
set_option maxRecDepth 100000 in
theorem PartsR_A (op : Int) : PureR Tryz.prog 105 [iv .i64 op] (· = sv (partsT op)) := by
  refine pure_of_wp Tt_ok mixed Tryz.func105 rfl (by rfl) [2] rfl (by kernel_rfl) (by simp [Tryz.ntmps105]) fun g => ?_
  by_cases hr : 1 ≤ op ∧ op ≤ 27
  case neg =>
    rw [partsT_other (by omega)]
    simp (config := { maxSteps := 1000000 }) only [go_sem,↓reduceIte,show ¬ op = 1 by omega, show ¬ op = 2 by omega, show ¬ op = 3 by omega, show ¬ op = 16 by omega, show ¬ op = 17 by omega, show ¬ op = 18 by omega, show ¬ op = 19 by omega, show ¬ op = 20 by omega, show ¬ op = 21 by omega, show ¬ op = 22 by omega, show ¬ op = 23 by omega, show ¬ op = 24 by omega, show ¬ op = 25 by omega, show ¬ op = 26 by omega, show ¬ op = 27 by omega]
    exact fun h h' => by omega
  by_cases hm : 4 ≤ op ∧ op ≤ 15
  · rw [partsT_mid hm.1 hm.2]
    simp (config := { maxSteps := 1000000 }) only [go_sem,↓reduceIte,show ¬ op = 1 by omega, show ¬ op = 2 by omega, show ¬ op = 3 by omega, show ¬ op = 16 by omega, show ¬ op = 17 by omega, show ¬ op = 18 by omega, show ¬ op = 19 by omega, show ¬ op = 20 by omega, show ¬ op = 21 by omega, show ¬ op = 22 by omega, show ¬ op = 23 by omega, show ¬ op = 24 by omega, show ¬ op = 25 by omega, show ¬ op = 26 by omega, show ¬ op = 27 by omega, hm.1, hm.2]
  rcases (show op = 1 ∨ op = 2 ∨ op = 3 ∨ op = 16 ∨ op = 17 ∨ op = 18 ∨ op = 19 ∨ op = 20 ∨ op = 21 ∨ op = 22 ∨ op = 23 ∨ op = 24 ∨ op = 25 ∨ op = 26 ∨ op = 27 by omega) with rfl | rfl | rfl | rfl | rfl | rfl | rfl | rfl | rfl | rfl | rfl | rfl | rfl | rfl | rfl
  all_goals
    simp (config := { maxSteps := 1000000 }) only [go_sem,↓reduceIte]
    rfl

def hasC (s : Str) (c : UInt8) : Bool := s.contains c
theorem has_A (s : Str) (c : UInt8) (hl : s.length ≤ 1000000) : PureR Tryz.prog 106 [sv s, iv .u8 c.toNat] (· = bv (hasC s c)) := by
  refine pure_of_wp Tt_ok mixed Tryz.func106 rfl (by rfl) [4] rfl (by kernel_rfl) (by simp [Tryz.ntmps106]) fun g => ?_
  simp (config := { maxSteps := 1000000 }) only [go_sem,↓reduceIte]
  refine loop_intro (fun n st => ∃ k : Nat, n + k = s.length ∧ st.f 0 = sv s ∧ st.f 1 = iv .u8 c.toNat ∧ st.f 5 = iv .i64 k ∧ ∀ x ∈ s.take k, x ≠ c) s.length ?_ ?_
  · refine ⟨0, by omega, ?_⟩
    simp (config := { maxSteps := 1000000 }) only [go_sem,↓reduceIte]
    exact fun x hx => by simp at hx
  rintro n f g ob ⟨k, hk, q0, q1, q5, hno⟩
  simp only at q0 q1 q5
  have hw := wrap_succ (k := k) (by omega)
  by_cases hlt : k < s.length
  · obtain ⟨x, hx⟩ := getq hlt
    have hki : (k : Int) < (s.length : Int) := by omega
    have hk0 : (0 : Int) ≤ (k : Int) := by omega
    by_cases hxc : x = c
    · subst hxc
      simp (config := { maxSteps := 1000000 }) only [go_sem,↓reduceIte,q0, q1, q5, hki, hk0, hx]
      have : hasC s x = true := by unfold hasC; rw [List.contains_iff_mem]; exact List.mem_of_getElem? hx
      rw [this]
    · have hxi : ¬ (x.toNat : Int) = (c.toNat : Int) := fun e => hxc (UInt8.toNat_inj.1 (by omega))
      simp (config := { maxSteps := 1000000 }) only [go_sem,↓reduceIte,q0, q1, q5, hki, hk0, hx, hxi, hw]
      refine round_end (n - 1) (by omega) ⟨k + 1, by omega, ?_⟩
      simp (config := { maxSteps := 1000000 }) only [go_sem,↓reduceIte,q0, q1]
      intro y hy
      rw [List.take_add_one, hx, List.mem_append] at hy
      rcases hy with hy | hy
      · exact hno y hy
      · simp at hy; rw [hy]; exact hxc
  · have hki : ¬ (k : Int) < (s.length : Int) := by omega
    simp (config := { maxSteps := 1000000 }) only [go_sem,↓reduceIte,q0, q1, q5, hki]
    rw [List.take_of_length_le (by omega)] at hno
    have : hasC s c = false := by
      unfold hasC
      cases h : s.contains c with
      | false => rfl
      | true => exact absurd rfl (hno c (List.contains_iff_mem.1 h))
    rw [this]
theorem withinR_A (b : Bool) (v most : Int) : PureR Tryz.prog 107 [bv b, iv .i64 v, iv .i64 most] (· = bv (inW v most b)) := by
  refine pure_of_wp Tt_ok mixed Tryz.func107 rfl (by rfl) [6] rfl (by kernel_rfl) (by simp [Tryz.ntmps107]) fun g => ?_
  unfold inW
  cases b
  · simp (config := { maxSteps := 1000000 }) only [go_sem,↓reduceIte]
  · simp (config := { maxSteps := 1000000 }) only [go_sem,↓reduceIte]
    exact ⟨fun h => by simp [h], fun h => by simp [h]⟩

/-- The shapes, and what the reference calls them. -/
theorem parts_cases (op : Int) : (knownN op.toNat = false ∧ partsT op = [63]) ∨ (knownN op.toNat = true ∧ (
    (Asm.shape op.toNat = (true, false, 1) ∧ partsT op = [97, 99]) ∨ (Asm.shape op.toNat = (true, true, 0) ∧ partsT op = [97, 98]) ∨ (Asm.shape op.toNat = (true, true, 2) ∧ partsT op = [97, 98, 114]) ∨ (Asm.shape op.toNat = (true, true, 1) ∧ partsT op = [97, 98, 99]) ∨
    (Asm.shape op.toNat = (false, false, 1) ∧ partsT op = [99]) ∨ (Asm.shape op.toNat = (true, false, 0) ∧ partsT op = [97]) ∨ (Asm.shape op.toNat = (false, false, 0) ∧ partsT op = []))) := by
  unfold partsT
  cases hk : knownN op.toNat
  · exact .inl ⟨rfl, by simp⟩
  · refine .inr ⟨rfl, ?_⟩
    unfold partsI
    rcases shape_cases op.toNat with h | h | h | h | h | h | h <;> simp [h]

set_option maxHeartbeats 16000000 in
set_option maxRecDepth 100000 in
theorem RightR_A (op a b c : Int) : PureR Tryz.prog 70 [instV op a b c] (· = bv (rightI op a b c)) := by
  refine pure_of_wp Tt_ok mixed Tryz.func70 rfl (by rfl) [2] rfl (by kernel_rfl) (by simp [Tryz.ntmps70]) fun g => ?_
  unfold instV
  simp (config := { maxSteps := 1000000 }) only [go_sem,↓reduceIte]
  refine hook_call rfl (by simp (config := { maxSteps := 1000000 }) only [go_sem,↓reduceIte]; exact PartsR_A op) (by simp (config := { maxSteps := 1000000 }) only [go_sem,↓reduceIte]; rfl) ?_
  rintro _ rfl
  have hh : ∀ s : Str, s.length ≤ 3 → ∀ k : Nat, k < 256 → PureR Tryz.prog 106 [sv s, iv .u8 k] (· = bv (hasC s (UInt8.ofNat k))) := fun s hs k hk => by
    have := has_A s (UInt8.ofNat k) (by omega)
    rwa [show (UInt8.ofNat k).toNat = k by rw [UInt8.toNat_ofNat']; omega] at this
  rcases parts_cases op with ⟨hk, hp⟩ | ⟨hk, ⟨hs, hp⟩ | ⟨hs, hp⟩ | ⟨hs, hp⟩ | ⟨hs, hp⟩ | ⟨hs, hp⟩ | ⟨hs, hp⟩ | ⟨hs, hp⟩⟩
  · rw [hp, show rightI op a b c = false by unfold rightI; rw [hk]; rfl]
    simp (config := { maxSteps := 1000000 }) only [go_sem,↓reduceIte]
    refine hook_call rfl (by simp (config := { maxSteps := 1000000 }) only [go_sem,↓reduceIte]; exact hh [63] (by decide) 114 (by decide)) (by simp (config := { maxSteps := 1000000 }) only [go_sem,↓reduceIte]; rfl) ?_
    rintro _ rfl
    rw [show hasC [63] (UInt8.ofNat 114) = false by decide]
    simp (config := { maxSteps := 1000000 }) only [go_sem,↓reduceIte]
    refine draw_calls Tt_ok mixed (by decide +kernel) ?_
    simp (config := { maxSteps := 1000000 }) only [go_sem,↓reduceIte,reduceCtorEq]
  all_goals
    have hl3 : (partsT op).length ≤ 3 := by rw [hp]; decide
    have hne : (partsT op = [63]) = False := by rw [hp]; simp
    have e97 : hasC (partsT op) (UInt8.ofNat 97) = (Asm.shape op.toNat).1 := by rw [hp, hs]; decide
    have e98 : hasC (partsT op) (UInt8.ofNat 98) = (Asm.shape op.toNat).2.1 := by rw [hp, hs]; decide
    have e99 : hasC (partsT op) (UInt8.ofNat 99) = decide ((Asm.shape op.toNat).2.2 = 1) := by rw [hp, hs]; decide
    have e114 : hasC (partsT op) (UInt8.ofNat 114) = decide ((Asm.shape op.toNat).2.2 = 2) := by rw [hp, hs]; decide
    have hri : rightI op a b c = (inW a 15 (Asm.shape op.toNat).1 && (inW b 15 (Asm.shape op.toNat).2.1 && inW c (mostC op.toNat) (decide ((Asm.shape op.toNat).2.2 ≠ 0)))) := by unfold rightI; rw [hk, Bool.true_and]
    unfold mostC at hri
    rw [hs] at e97 e98 e99 e114 hri
    simp only [decide_true, decide_false, Nat.reduceEqDiff, ne_eq, not_true_eq_false, not_false_eq_true, if_true, if_false, reduceCtorEq] at e97 e98 e99 e114 hri
    rw [hri]
    clear hp hs hri hk
    simp (config := { maxSteps := 1000000 }) only [go_sem,↓reduceIte]
    refine hook_call rfl (by simp (config := { maxSteps := 1000000 }) only [go_sem,↓reduceIte]; exact hh (partsT op) hl3 114 (by decide)) (by simp (config := { maxSteps := 1000000 }) only [go_sem,↓reduceIte]; rfl) ?_
    rintro _ rfl
    rw [e114]
    simp (config := { maxSteps := 1000000 }) only [go_sem,↓reduceIte]
    refine draw_calls Tt_ok mixed (by decide +kernel) ?_
    simp (config := { maxSteps := 1000000 }) only [go_sem,↓reduceIte,hne]
    refine quiet_call rfl (hh (partsT op) hl3 97 (by decide)) (frzVs_data rfl) rfl ?_
    rw [e97]
    simp (config := { maxSteps := 1000000 }) only [go_sem,↓reduceIte]
    refine quiet_call rfl (withinR_A _ _ _) (frzVs_data rfl) rfl ?_
    generalize inW a 15 _ = w1
    cases w1
    · simp (config := { maxSteps := 1000000 }) only [go_sem,↓reduceIte]
      try simp
    simp (config := { maxSteps := 1000000 }) only [go_sem,↓reduceIte]
    refine quiet_call rfl (hh (partsT op) hl3 98 (by decide)) (frzVs_data rfl) rfl ?_
    rw [e98]
    simp (config := { maxSteps := 1000000 }) only [go_sem,↓reduceIte]
    refine quiet_call rfl (withinR_A _ _ _) (frzVs_data rfl) rfl ?_
    generalize inW b 15 _ = w2
    cases w2
    · simp (config := { maxSteps := 1000000 }) only [go_sem,↓reduceIte]
      try simp
    simp (config := { maxSteps := 1000000 }) only [go_sem,↓reduceIte]
    refine quiet_call rfl (hh (partsT op) hl3 99 (by decide)) (frzVs_data rfl) rfl ?_
    rw [e99]
    simp (config := { maxSteps := 1000000 }) only [go_sem,↓reduceIte]
    try
      refine quiet_call rfl (hh (partsT op) hl3 114 (by decide)) (frzVs_data rfl) rfl ?_
      rw [e114]
      simp (config := { maxSteps := 1000000 }) only [go_sem,↓reduceIte]
    refine quiet_call rfl (withinR_A _ _ _) (frzVs_data rfl) rfl ?_
    simp (config := { maxSteps := 1000000 }) only [go_sem,↓reduceIte]
    try rfl

end Go.Proofs.YthclfagbojkbjabGreatDoor

namespace Go.Proofs.YthclfagbojkbjabGreatDoor
open Go Go.Am Go.Asm

set_option maxHeartbeats 8000000 in
theorem EncodeR_A (op a b c : Int) : PureR Tryz.prog 42 [instV op a b c] (· = if rightI op a b c = true then .tup [iv .u32 (word op.toNat a.toNat b.toNat c.toNat : Nat), iv .i64 0] else .tup [iv .u32 0, iv .i64 1]) := by
  refine pure_of_wp Tt_ok mixed Tryz.func42 rfl (by rfl) [2, 3] rfl (by kernel_rfl) (by simp [Tryz.ntmps42]) fun g => ?_
  unfold instV
  simp (config := { maxSteps := 1000000 }) only [go_sem,↓reduceIte]
  refine hook_call rfl (by simp (config := { maxSteps := 1000000 }) only [go_sem,↓reduceIte]; exact RightR_A op a b c) (by simp (config := { maxSteps := 1000000 }) only [go_sem,↓reduceIte]; rfl) ?_
  rintro _ rfl
  cases hk : rightI op a b c
  · simp (config := { maxSteps := 1000000 }) only [go_sem,↓reduceIte]
    try rfl
  obtain ⟨b1, b2, b3, b4, b5, b6, b7, b8⟩ := encode_bounds hk
  obtain ⟨o, rfl⟩ : ∃ n : Nat, op = n := ⟨op.toNat, by omega⟩
  obtain ⟨a, rfl⟩ : ∃ n : Nat, a = n := ⟨a.toNat, by omega⟩
  obtain ⟨b, rfl⟩ : ∃ n : Nat, b = n := ⟨b.toNat, by omega⟩
  obtain ⟨c, rfl⟩ : ∃ n : Nat, c = n := ⟨c.toNat, by omega⟩
  have w1 : IntKind.i64.wrap ((o : Int) * 16777216) = ((o * 16777216 : Nat) : Int) := by rw [IntKind.wrap_i64] <;> omega
  have w2 : IntKind.i64.wrap ((a : Int) * 1048576) = ((a * 1048576 : Nat) : Int) := by rw [IntKind.wrap_i64] <;> omega
  have w3 : IntKind.i64.wrap ((b : Int) * 65536) = ((b * 65536 : Nat) : Int) := by rw [IntKind.wrap_i64] <;> omega
  have w4 : IntKind.i64.wrap (((o * 16777216 : Nat) : Int) + ((a * 1048576 : Nat) : Int)) = ((o * 16777216 + a * 1048576 : Nat) : Int) := by rw [IntKind.wrap_i64] <;> omega
  have w5 : IntKind.i64.wrap (((o * 16777216 + a * 1048576 : Nat) : Int) + ((b * 65536 : Nat) : Int)) = ((o * 16777216 + a * 1048576 + b * 65536 : Nat) : Int) := by rw [IntKind.wrap_i64] <;> omega
  have w6 : IntKind.i64.wrap (((o * 16777216 + a * 1048576 + b * 65536 : Nat) : Int) + (c : Int)) = ((word o a b c : Nat) : Int) := by unfold word; rw [IntKind.wrap_i64] <;> omega
  have w7 : IntKind.u32.wrap ((word o a b c : Nat) : Int) = ((word o a b c : Nat) : Int) := by unfold word; rw [IntKind.wrap_u32]; omega
  simp (config := { maxSteps := 1000000 }) only [go_sem,↓reduceIte,w1, w2, w3, w4, w5, w6, w7, Int.toNat_natCast]

theorem nameOf_other {op : Int} (h : op.toNat = 0 ∨ 28 ≤ op.toNat) : nameOf op.toNat = [] := by
  rcases h with h | h
  · rw [h]; rfl
  · obtain ⟨k, hk⟩ : ∃ k, op.toNat = k + 1 := ⟨op.toNat - 1, by omega⟩
    have : names.length ≤ k := by show 27 ≤ k; omega
    rw [hk]; simp [nameOf, this]

set_option maxHeartbeats 8000000 in
set_option maxRecDepth 100000 in
theorem NameR_A (op : Int) : PureR Tryz.prog 69 [iv .i64 op] (· = sv (nameOf op.toNat)) := by
  refine pure_of_wp Tt_ok mixed Tryz.func69 rfl (by rfl) [2] rfl (by kernel_rfl) (by simp [Tryz.ntmps69]) fun g => ?_
  by_cases hr : 1 ≤ op ∧ op ≤ 27
  case neg =>
    rw [nameOf_other (by omega)]
    simp (config := { maxSteps := 1000000 }) only [go_sem,↓reduceIte,show ¬ op = 1 by omega, show ¬ op = 2 by omega, show ¬ op = 3 by omega, show ¬ op = 4 by omega, show ¬ op = 5 by omega, show ¬ op = 6 by omega, show ¬ op = 7 by omega, show ¬ op = 8 by omega, show ¬ op = 9 by omega, show ¬ op = 10 by omega, show ¬ op = 11 by omega, show ¬ op = 12 by omega, show ¬ op = 13 by omega, show ¬ op = 14 by omega, show ¬ op = 15 by omega, show ¬ op = 16 by omega, show ¬ op = 17 by omega, show ¬ op = 18 by omega, show ¬ op = 19 by omega, show ¬ op = 20 by omega, show ¬ op = 21 by omega, show ¬ op = 22 by omega, show ¬ op = 23 by omega, show ¬ op = 24 by omega, show ¬ op = 25 by omega, show ¬ op = 26 by omega, show ¬ op = 27 by omega]
    try rfl
  rcases (show op = 1 ∨ op = 2 ∨ op = 3 ∨ op = 4 ∨ op = 5 ∨ op = 6 ∨ op = 7 ∨ op = 8 ∨ op = 9 ∨ op = 10 ∨ op = 11 ∨ op = 12 ∨ op = 13 ∨ op = 14 ∨ op = 15 ∨ op = 16 ∨ op = 17 ∨ op = 18 ∨ op = 19 ∨ op = 20 ∨ op = 21 ∨ op = 22 ∨ op = 23 ∨ op = 24 ∨ op = 25 ∨ op = 26 ∨ op = 27 by omega) with rfl | rfl | rfl | rfl | rfl | rfl | rfl | rfl | rfl | rfl | rfl | rfl | rfl | rfl | rfl | rfl | rfl | rfl | rfl | rfl | rfl | rfl | rfl | rfl | rfl | rfl | rfl
  all_goals
    simp (config := { maxSteps := 1000000 }) only [go_sem,↓reduceIte]
    rfl

end Go.Proofs.YthclfagbojkbjabGreatDoor

namespace Go.Proofs.YthclfagbojkbjabGreatDoor
open Go Go.Am Go.Asm

theorem OpR_A (s : Str) : PureR Tryz.prog 41 [sv s] (· = iv .i64 (opNum s)) := by
  refine pure_of_wp Tt_ok mixed Tryz.func41 rfl (by rfl) [2] rfl (by kernel_rfl) (by simp [Tryz.ntmps41]) fun g => ?_
  simp (config := { maxSteps := 1000000 }) only [go_sem,↓reduceIte]
  refine loop_intro (fun n st => ∃ k : Nat, n + k = 27 ∧ st.f 0 = sv s ∧ st.f 3 = iv .i64 ((k + 1 : Nat) : Int) ∧ ∀ j, j < k → names.getD j [] ≠ s) 27 ?_ ?_
  · refine ⟨0, by omega, ?_⟩
    simp (config := { maxSteps := 1000000 }) only [go_sem,↓reduceIte]
    exact fun j hj => absurd hj (by omega)
  rintro n f g ob ⟨k, hk, q0, q3, hno⟩
  simp only at q0 q3
  have hw := wrap_succ (k := k + 1) (by omega)
  by_cases hlt : k < 27
  · have hle : ((k + 1 : Nat) : Int) ≤ 27 := by omega
    simp (config := { maxSteps := 1000000 }) only [go_sem,↓reduceIte,q0, q3, hle]
    refine hook_call rfl (by simp (config := { maxSteps := 1000000 }) only [go_sem,↓reduceIte]; exact NameR_A ((k + 1 : Nat) : Int)) (by simp (config := { maxSteps := 1000000 }) only [go_sem,↓reduceIte]; rfl) ?_
    rintro _ rfl
    rw [Int.toNat_natCast, show nameOf (k + 1) = names.getD k [] from rfl]
    simp (config := { maxSteps := 1000000 }) only [go_sem,↓reduceIte,q0, q3]
    refine ⟨fun e => ?_, fun e => ?_⟩
    · rw [opNum_hit hlt e hno]
    · simp (config := { maxSteps := 1000000 }) only [go_sem,↓reduceIte,q3, hw]
      refine round_end (n - 1) (by omega) ⟨k + 1, by omega, ?_⟩
      simp (config := { maxSteps := 1000000 }) only [go_sem,↓reduceIte,q0]
      intro j hj
      by_cases hjk : j = k
      · rw [hjk]; exact e
      · exact hno j (by omega)
  · have hle : ¬ ((k + 1 : Nat) : Int) ≤ 27 := by omega
    simp (config := { maxSteps := 1000000 }) only [go_sem,↓reduceIte,q0, q3, hle]
    rw [opNum_none (fun j hj => hno j (by omega))]; rfl

def regI (s : Str) : Int := match regOf s with | some n => (n : Int) | none => -1
set_option maxHeartbeats 2000000 in
theorem register_A (s : Str) (hl : s.length ≤ 1000000) : PureR Tryz.prog 39 [sv s] (· = iv .i64 (regI s)) := by
  refine pure_of_wp Tt_ok mixed Tryz.func39 rfl (by rfl) [2] rfl (by kernel_rfl) (by simp [Tryz.ntmps39]) fun g => ?_
  match s, hl with
  | [], _ =>
    simp (config := { maxSteps := 1000000 }) only [go_sem,↓reduceIte]
    rfl
  | [a], _ =>
    have : regI [a] = -1 := by
      unfold regI regOf
      split
      · rename_i n h; split at h
        · rename_i d e; cases e; rw [show parseN [] = .syn from rfl] at h; cases h
        · cases h
      · rfl
    rw [this]
    simp (config := { maxSteps := 1000000 }) only [go_sem,↓reduceIte]
  | a :: b :: d, hl =>
    have hli : ¬ ((d.length + 1 + 1 : Nat) : Int) < 2 := by omega
    by_cases ha : a = 114
    · subst ha
      have z : ((114 : UInt8).toNat : Int) = 114 := rfl
      simp (config := { maxSteps := 1000000 }) only [go_sem,↓reduceIte,hli, z, List.length_cons]
      refine ⟨by omega, ?_⟩
      refine hook_call rfl (by simp (config := { maxSteps := 1000000 }) only [go_sem,↓reduceIte]; exact ParseR_A (b :: d) (by simp only [List.length_cons] at hl ⊢; omega)) (by simp (config := { maxSteps := 1000000 }) only [go_sem,↓reduceIte]; rfl) ?_
      rintro _ rfl
      rw [show regI (114 :: b :: d) = (match parseN (b :: d) with | .ok n => if n ≤ 15 then (n : Int) else -1 | _ => -1) by
        unfold regI regOf; simp only
        cases parseN (b :: d) with
        | ok n =>
          simp only
          by_cases h15 : n ≤ 15
          · rw [if_pos h15, if_pos h15]
          · rw [if_neg h15, if_neg h15]
        | syn => rfl
        | rng => rfl]
      cases parseN (b :: d) with
      | ok n =>
        simp only
        unfold prV
        by_cases h15 : n ≤ 15
        · have h : ¬ (15 : Int) < (n : Int) := by omega
          have hw : IntKind.i64.wrap (n : Int) = (n : Int) := by rw [IntKind.wrap_i64] <;> omega
          rw [if_pos h15]
          simp (config := { maxSteps := 1000000 }) only [go_sem,↓reduceIte,h, hw]
        · have h : (15 : Int) < (n : Int) := by omega
          rw [if_neg h15]
          simp (config := { maxSteps := 1000000 }) only [go_sem,↓reduceIte,h]
      | syn => unfold prV; simp (config := { maxSteps := 1000000 }) only [go_sem,↓reduceIte]
      | rng => unfold prV; simp (config := { maxSteps := 1000000 }) only [go_sem,↓reduceIte]
    · have ha2 : ¬ (a.toNat : Int) = 114 := u8_ne (d := 114) ha
      have : regI (a :: b :: d) = -1 := by
        unfold regI regOf
        split
        · rename_i n h; split at h
          · rename_i e; cases e; exact absurd rfl ha
          · cases h
        · rfl
      rw [this]
      simp (config := { maxSteps := 1000000 }) only [go_sem,↓reduceIte,hli, ha2]

def shI (op : Nat) : Str := (if (Asm.shape op).1 = true then [114] else []) ++ (if (Asm.shape op).2.1 = true then [114] else []) ++ (if (Asm.shape op).2.2 = 2 then [114] else if (Asm.shape op).2.2 = 1 then [110] else [])
def shapeS (s : Str) : Str := if s = wordW ∨ s = dataW then [119] else if opNum s = 0 then [63] else shI (opNum s)
theorem opNum_get {s : Str} {k : Nat} (h : opNum s = k + 1) : names.getD k [] = s := by
  unfold opNum at h
  split at h
  · rename_i i hi
    obtain rfl : i = k := by omega
    obtain ⟨h1, h2, _⟩ := List.idxOf?_eq_some_iff.1 hi
    rw [names_get h1]; exact h2
  · cases h
theorem opNum_mem {s : Str} (h : opNum s = 0) : ∀ x ∈ names, s ≠ x := by
  rintro x hx rfl
  unfold opNum at h
  split at h
  · cases h
  · rename_i hi; exact List.idxOf?_eq_none_iff.1 hi hx
theorem names_inj : ∀ j, j < 27 → ∀ k, k < 27 → names.getD j [] = names.getD k [] → j = k := by decide +kernel
set_option maxHeartbeats 8000000 in
theorem Shape_A (s : Str) : PureR Tryz.prog 38 [sv s] (· = sv (shapeS s)) := by
  refine pure_of_wp Tt_ok mixed Tryz.func38 rfl (by rfl) [2] rfl (by kernel_rfl) (by simp [Tryz.ntmps38]) fun g => ?_
  have hle := opNum_le s
  by_cases h1 : s = wordW
  · have hs : s = [46, 119, 111, 114, 100] := h1
    rw [show shapeS s = [119] by rw [hs]; rfl]
    have m0 : (s = [108, 105]) = False := eq_false (by rw [hs]; decide)
    have m1 : (s = [108, 117, 105]) = False := eq_false (by rw [hs]; decide)
    have m2 : (s = [106, 122]) = False := eq_false (by rw [hs]; decide)
    have m3 : (s = [106, 110, 122]) = False := eq_false (by rw [hs]; decide)
    have m4 : (s = [99, 97, 108, 108]) = False := eq_false (by rw [hs]; decide)
    have m5 : (s = [99, 104, 107]) = False := eq_false (by rw [hs]; decide)
    have m6 : (s = [109, 111, 118]) = False := eq_false (by rw [hs]; decide)
    have m7 : (s = [108, 100]) = False := eq_false (by rw [hs]; decide)
    have m8 : (s = [115, 116]) = False := eq_false (by rw [hs]; decide)
    have m9 : (s = [108, 100, 99]) = False := eq_false (by rw [hs]; decide)
    have m10 : (s = [106, 109, 112]) = False := eq_false (by rw [hs]; decide)
    have m11 : (s = [114, 101, 116]) = False := eq_false (by rw [hs]; decide)
    have m12 : (s = [103, 101, 116]) = False := eq_false (by rw [hs]; decide)
    have m13 : (s = [112, 117, 116]) = False := eq_false (by rw [hs]; decide)
    have m14 : (s = [104, 97, 108, 116]) = False := eq_false (by rw [hs]; decide)
    have m15 : (s = [46, 119, 111, 114, 100]) = True := eq_true hs
    have m16 : (s = [46, 100, 97, 116, 97]) = False := eq_false (by rw [hs]; decide)
    simp (config := { maxSteps := 1000000 }) only [go_sem,↓reduceIte,m0, m1, m2, m3, m4, m5, m6, m7, m8, m9, m10, m11, m12, m13, m14, m15, m16]
  by_cases h2 : s = dataW
  · have hs : s = [46, 100, 97, 116, 97] := h2
    rw [show shapeS s = [119] by rw [hs]; rfl]
    have m0 : (s = [108, 105]) = False := eq_false (by rw [hs]; decide)
    have m1 : (s = [108, 117, 105]) = False := eq_false (by rw [hs]; decide)
    have m2 : (s = [106, 122]) = False := eq_false (by rw [hs]; decide)
    have m3 : (s = [106, 110, 122]) = False := eq_false (by rw [hs]; decide)
    have m4 : (s = [99, 97, 108, 108]) = False := eq_false (by rw [hs]; decide)
    have m5 : (s = [99, 104, 107]) = False := eq_false (by rw [hs]; decide)
    have m6 : (s = [109, 111, 118]) = False := eq_false (by rw [hs]; decide)
    have m7 : (s = [108, 100]) = False := eq_false (by rw [hs]; decide)
    have m8 : (s = [115, 116]) = False := eq_false (by rw [hs]; decide)
    have m9 : (s = [108, 100, 99]) = False := eq_false (by rw [hs]; decide)
    have m10 : (s = [106, 109, 112]) = False := eq_false (by rw [hs]; decide)
    have m11 : (s = [114, 101, 116]) = False := eq_false (by rw [hs]; decide)
    have m12 : (s = [103, 101, 116]) = False := eq_false (by rw [hs]; decide)
    have m13 : (s = [112, 117, 116]) = False := eq_false (by rw [hs]; decide)
    have m14 : (s = [104, 97, 108, 116]) = False := eq_false (by rw [hs]; decide)
    have m15 : (s = [46, 119, 111, 114, 100]) = False := eq_false (by rw [hs]; decide)
    have m16 : (s = [46, 100, 97, 116, 97]) = True := eq_true hs
    simp (config := { maxSteps := 1000000 }) only [go_sem,↓reduceIte,m0, m1, m2, m3, m4, m5, m6, m7, m8, m9, m10, m11, m12, m13, m14, m15, m16]
  have hsh : shapeS s = if opNum s = 0 then [63] else shI (opNum s) := by unfold shapeS; rw [if_neg (by simp [h1, h2])]
  rw [hsh]
  unfold wordW at h1
  unfold dataW at h2
  by_cases h0 : opNum s = 0
  · rw [if_pos h0]
    have hm := opNum_mem h0
    unfold names at hm
    simp only [List.forall_mem_cons] at hm
    obtain ⟨n1, n2, n3, n4, n5, n6, n7, n8, n9, n10, n11, n12, n13, n14, n15, n16, n17, n18, n19, n20, n21, n22, n23, n24, n25, n26, n27, _⟩ := hm
    simp (config := { maxSteps := 1000000 }) only [go_sem,↓reduceIte,n1, n2, n3, n16, n17, n18, n19, n20, n21, n22, n23, n24, n25, n26, n27, h1, h2]
    refine hook_call rfl (by simp (config := { maxSteps := 1000000 }) only [go_sem,↓reduceIte]; exact OpR_A s) (by simp (config := { maxSteps := 1000000 }) only [go_sem,↓reduceIte]; rfl) ?_
    rintro _ rfl
    rw [h0]
    simp (config := { maxSteps := 1000000 }) only [go_sem,↓reduceIte]
  · rw [if_neg h0]
    obtain ⟨k, hk⟩ : ∃ k, opNum s = k + 1 := ⟨opNum s - 1, by omega⟩
    have hs := opNum_get hk
    have hkl : k < 27 := by omega
    by_cases hmid : 3 ≤ k ∧ k ≤ 14
    · have hsh : shI (opNum s) = [114, 114, 114] := by
        have : Asm.shape (opNum s) = (true, true, 2) := by unfold Asm.shape; rw [if_neg (by omega), if_neg (by omega), if_pos (by omega)]
        unfold shI; rw [this]; rfl
      rw [hsh]
      have hne : ∀ j, j < 27 → j ≠ k → s ≠ names.getD j [] := by
        intro j hj hjk e
        exact hjk (names_inj j hj k hkl (by rw [hs]; exact e.symm))
      have n1 : ¬ s = [108, 105] := hne 0 (by omega) (by omega)
      have n2 : ¬ s = [108, 117, 105] := hne 1 (by omega) (by omega)
      have n3 : ¬ s = [109, 111, 118] := hne 2 (by omega) (by omega)
      have n16 : ¬ s = [108, 100] := hne 15 (by omega) (by omega)
      have n17 : ¬ s = [115, 116] := hne 16 (by omega) (by omega)
      have n18 : ¬ s = [106, 109, 112] := hne 17 (by omega) (by omega)
      have n19 : ¬ s = [106, 122] := hne 18 (by omega) (by omega)
      have n20 : ¬ s = [106, 110, 122] := hne 19 (by omega) (by omega)
      have n21 : ¬ s = [99, 97, 108, 108] := hne 20 (by omega) (by omega)
      have n22 : ¬ s = [114, 101, 116] := hne 21 (by omega) (by omega)
      have n23 : ¬ s = [103, 101, 116] := hne 22 (by omega) (by omega)
      have n24 : ¬ s = [112, 117, 116] := hne 23 (by omega) (by omega)
      have n25 : ¬ s = [99, 104, 107] := hne 24 (by omega) (by omega)
      have n26 : ¬ s = [104, 97, 108, 116] := hne 25 (by omega) (by omega)
      have n27 : ¬ s = [108, 100, 99] := hne 26 (by omega) (by omega)
      have i1 : (4 : Int) ≤ (opNum s : Int) := by omega
      have i2 : (opNum s : Int) ≤ 15 := by omega
      simp (config := { maxSteps := 1000000 }) only [go_sem,↓reduceIte,n1, n2, n3, n16, n17, n18, n19, n20, n21, n22, n23, n24, n25, n26, n27, h1, h2]
      refine hook_call rfl (by simp (config := { maxSteps := 1000000 }) only [go_sem,↓reduceIte]; exact OpR_A s) (by simp (config := { maxSteps := 1000000 }) only [go_sem,↓reduceIte]; rfl) ?_
      rintro _ rfl
      simp (config := { maxSteps := 1000000 }) only [go_sem,↓reduceIte,i1, i2]
    · rw [hk]
      clear hsh h0 hk hle h1 h2
      rcases (show k = 0 ∨ k = 1 ∨ k = 2 ∨ k = 15 ∨ k = 16 ∨ k = 17 ∨ k = 18 ∨ k = 19 ∨ k = 20 ∨ k = 21 ∨ k = 22 ∨ k = 23 ∨ k = 24 ∨ k = 25 ∨ k = 26 by omega) with rfl | rfl | rfl | rfl | rfl | rfl | rfl | rfl | rfl | rfl | rfl | rfl | rfl | rfl | rfl
      · have hs : s = [108, 105] := hs.symm
        have m0 : (s = [108, 105]) = True := eq_true hs
        have m1 : (s = [108, 117, 105]) = False := eq_false (by rw [hs]; decide)
        have m2 : (s = [106, 122]) = False := eq_false (by rw [hs]; decide)
        have m3 : (s = [106, 110, 122]) = False := eq_false (by rw [hs]; decide)
        have m4 : (s = [99, 97, 108, 108]) = False := eq_false (by rw [hs]; decide)
        have m5 : (s = [99, 104, 107]) = False := eq_false (by rw [hs]; decide)
        have m6 : (s = [109, 111, 118]) = False := eq_false (by rw [hs]; decide)
        have m7 : (s = [108, 100]) = False := eq_false (by rw [hs]; decide)
        have m8 : (s = [115, 116]) = False := eq_false (by rw [hs]; decide)
        have m9 : (s = [108, 100, 99]) = False := eq_false (by rw [hs]; decide)
        have m10 : (s = [106, 109, 112]) = False := eq_false (by rw [hs]; decide)
        have m11 : (s = [114, 101, 116]) = False := eq_false (by rw [hs]; decide)
        have m12 : (s = [103, 101, 116]) = False := eq_false (by rw [hs]; decide)
        have m13 : (s = [112, 117, 116]) = False := eq_false (by rw [hs]; decide)
        have m14 : (s = [104, 97, 108, 116]) = False := eq_false (by rw [hs]; decide)
        have m15 : (s = [46, 119, 111, 114, 100]) = False := eq_false (by rw [hs]; decide)
        have m16 : (s = [46, 100, 97, 116, 97]) = False := eq_false (by rw [hs]; decide)
        rw [show shI (0 + 1) = shI 1 from rfl]
        simp (config := { maxSteps := 1000000 }) only [go_sem,↓reduceIte,m0, m1, m2, m3, m4, m5, m6, m7, m8, m9, m10, m11, m12, m13, m14, m15, m16]
        rfl
      · have hs : s = [108, 117, 105] := hs.symm
        have m0 : (s = [108, 105]) = False := eq_false (by rw [hs]; decide)
        have m1 : (s = [108, 117, 105]) = True := eq_true hs
        have m2 : (s = [106, 122]) = False := eq_false (by rw [hs]; decide)
        have m3 : (s = [106, 110, 122]) = False := eq_false (by rw [hs]; decide)
        have m4 : (s = [99, 97, 108, 108]) = False := eq_false (by rw [hs]; decide)
        have m5 : (s = [99, 104, 107]) = False := eq_false (by rw [hs]; decide)
        have m6 : (s = [109, 111, 118]) = False := eq_false (by rw [hs]; decide)
        have m7 : (s = [108, 100]) = False := eq_false (by rw [hs]; decide)
        have m8 : (s = [115, 116]) = False := eq_false (by rw [hs]; decide)
        have m9 : (s = [108, 100, 99]) = False := eq_false (by rw [hs]; decide)
        have m10 : (s = [106, 109, 112]) = False := eq_false (by rw [hs]; decide)
        have m11 : (s = [114, 101, 116]) = False := eq_false (by rw [hs]; decide)
        have m12 : (s = [103, 101, 116]) = False := eq_false (by rw [hs]; decide)
        have m13 : (s = [112, 117, 116]) = False := eq_false (by rw [hs]; decide)
        have m14 : (s = [104, 97, 108, 116]) = False := eq_false (by rw [hs]; decide)
        have m15 : (s = [46, 119, 111, 114, 100]) = False := eq_false (by rw [hs]; decide)
        have m16 : (s = [46, 100, 97, 116, 97]) = False := eq_false (by rw [hs]; decide)
        rw [show shI (1 + 1) = shI 2 from rfl]
        simp (config := { maxSteps := 1000000 }) only [go_sem,↓reduceIte,m0, m1, m2, m3, m4, m5, m6, m7, m8, m9, m10, m11, m12, m13, m14, m15, m16]
        rfl
      · have hs : s = [109, 111, 118] := hs.symm
        have m0 : (s = [108, 105]) = False := eq_false (by rw [hs]; decide)
        have m1 : (s = [108, 117, 105]) = False := eq_false (by rw [hs]; decide)
        have m2 : (s = [106, 122]) = False := eq_false (by rw [hs]; decide)
        have m3 : (s = [106, 110, 122]) = False := eq_false (by rw [hs]; decide)
        have m4 : (s = [99, 97, 108, 108]) = False := eq_false (by rw [hs]; decide)
        have m5 : (s = [99, 104, 107]) = False := eq_false (by rw [hs]; decide)
        have m6 : (s = [109, 111, 118]) = True := eq_true hs
        have m7 : (s = [108, 100]) = False := eq_false (by rw [hs]; decide)
        have m8 : (s = [115, 116]) = False := eq_false (by rw [hs]; decide)
        have m9 : (s = [108, 100, 99]) = False := eq_false (by rw [hs]; decide)
        have m10 : (s = [106, 109, 112]) = False := eq_false (by rw [hs]; decide)
        have m11 : (s = [114, 101, 116]) = False := eq_false (by rw [hs]; decide)
        have m12 : (s = [103, 101, 116]) = False := eq_false (by rw [hs]; decide)
        have m13 : (s = [112, 117, 116]) = False := eq_false (by rw [hs]; decide)
        have m14 : (s = [104, 97, 108, 116]) = False := eq_false (by rw [hs]; decide)
        have m15 : (s = [46, 119, 111, 114, 100]) = False := eq_false (by rw [hs]; decide)
        have m16 : (s = [46, 100, 97, 116, 97]) = False := eq_false (by rw [hs]; decide)
        rw [show shI (2 + 1) = shI 3 from rfl]
        simp (config := { maxSteps := 1000000 }) only [go_sem,↓reduceIte,m0, m1, m2, m3, m4, m5, m6, m7, m8, m9, m10, m11, m12, m13, m14, m15, m16]
        rfl
      · have hs : s = [108, 100] := hs.symm
        have m0 : (s = [108, 105]) = False := eq_false (by rw [hs]; decide)
        have m1 : (s = [108, 117, 105]) = False := eq_false (by rw [hs]; decide)
        have m2 : (s = [106, 122]) = False := eq_false (by rw [hs]; decide)
        have m3 : (s = [106, 110, 122]) = False := eq_false (by rw [hs]; decide)
        have m4 : (s = [99, 97, 108, 108]) = False := eq_false (by rw [hs]; decide)
        have m5 : (s = [99, 104, 107]) = False := eq_false (by rw [hs]; decide)
        have m6 : (s = [109, 111, 118]) = False := eq_false (by rw [hs]; decide)
        have m7 : (s = [108, 100]) = True := eq_true hs
        have m8 : (s = [115, 116]) = False := eq_false (by rw [hs]; decide)
        have m9 : (s = [108, 100, 99]) = False := eq_false (by rw [hs]; decide)
        have m10 : (s = [106, 109, 112]) = False := eq_false (by rw [hs]; decide)
        have m11 : (s = [114, 101, 116]) = False := eq_false (by rw [hs]; decide)
        have m12 : (s = [103, 101, 116]) = False := eq_false (by rw [hs]; decide)
        have m13 : (s = [112, 117, 116]) = False := eq_false (by rw [hs]; decide)
        have m14 : (s = [104, 97, 108, 116]) = False := eq_false (by rw [hs]; decide)
        have m15 : (s = [46, 119, 111, 114, 100]) = False := eq_false (by rw [hs]; decide)
        have m16 : (s = [46, 100, 97, 116, 97]) = False := eq_false (by rw [hs]; decide)
        rw [show shI (15 + 1) = shI 16 from rfl]
        simp (config := { maxSteps := 1000000 }) only [go_sem,↓reduceIte,m0, m1, m2, m3, m4, m5, m6, m7, m8, m9, m10, m11, m12, m13, m14, m15, m16]
        rfl
      · have hs : s = [115, 116] := hs.symm
        have m0 : (s = [108, 105]) = False := eq_false (by rw [hs]; decide)
        have m1 : (s = [108, 117, 105]) = False := eq_false (by rw [hs]; decide)
        have m2 : (s = [106, 122]) = False := eq_false (by rw [hs]; decide)
        have m3 : (s = [106, 110, 122]) = False := eq_false (by rw [hs]; decide)
        have m4 : (s = [99, 97, 108, 108]) = False := eq_false (by rw [hs]; decide)
        have m5 : (s = [99, 104, 107]) = False := eq_false (by rw [hs]; decide)
        have m6 : (s = [109, 111, 118]) = False := eq_false (by rw [hs]; decide)
        have m7 : (s = [108, 100]) = False := eq_false (by rw [hs]; decide)
        have m8 : (s = [115, 116]) = True := eq_true hs
        have m9 : (s = [108, 100, 99]) = False := eq_false (by rw [hs]; decide)
        have m10 : (s = [106, 109, 112]) = False := eq_false (by rw [hs]; decide)
        have m11 : (s = [114, 101, 116]) = False := eq_false (by rw [hs]; decide)
        have m12 : (s = [103, 101, 116]) = False := eq_false (by rw [hs]; decide)
        have m13 : (s = [112, 117, 116]) = False := eq_false (by rw [hs]; decide)
        have m14 : (s = [104, 97, 108, 116]) = False := eq_false (by rw [hs]; decide)
        have m15 : (s = [46, 119, 111, 114, 100]) = False := eq_false (by rw [hs]; decide)
        have m16 : (s = [46, 100, 97, 116, 97]) = False := eq_false (by rw [hs]; decide)
        rw [show shI (16 + 1) = shI 17 from rfl]
        simp (config := { maxSteps := 1000000 }) only [go_sem,↓reduceIte,m0, m1, m2, m3, m4, m5, m6, m7, m8, m9, m10, m11, m12, m13, m14, m15, m16]
        rfl
      · have hs : s = [106, 109, 112] := hs.symm
        have m0 : (s = [108, 105]) = False := eq_false (by rw [hs]; decide)
        have m1 : (s = [108, 117, 105]) = False := eq_false (by rw [hs]; decide)
        have m2 : (s = [106, 122]) = False := eq_false (by rw [hs]; decide)
        have m3 : (s = [106, 110, 122]) = False := eq_false (by rw [hs]; decide)
        have m4 : (s = [99, 97, 108, 108]) = False := eq_false (by rw [hs]; decide)
        have m5 : (s = [99, 104, 107]) = False := eq_false (by rw [hs]; decide)
        have m6 : (s = [109, 111, 118]) = False := eq_false (by rw [hs]; decide)
        have m7 : (s = [108, 100]) = False := eq_false (by rw [hs]; decide)
        have m8 : (s = [115, 116]) = False := eq_false (by rw [hs]; decide)
        have m9 : (s = [108, 100, 99]) = False := eq_false (by rw [hs]; decide)
        have m10 : (s = [106, 109, 112]) = True := eq_true hs
        have m11 : (s = [114, 101, 116]) = False := eq_false (by rw [hs]; decide)
        have m12 : (s = [103, 101, 116]) = False := eq_false (by rw [hs]; decide)
        have m13 : (s = [112, 117, 116]) = False := eq_false (by rw [hs]; decide)
        have m14 : (s = [104, 97, 108, 116]) = False := eq_false (by rw [hs]; decide)
        have m15 : (s = [46, 119, 111, 114, 100]) = False := eq_false (by rw [hs]; decide)
        have m16 : (s = [46, 100, 97, 116, 97]) = False := eq_false (by rw [hs]; decide)
        rw [show shI (17 + 1) = shI 18 from rfl]
        simp (config := { maxSteps := 1000000 }) only [go_sem,↓reduceIte,m0, m1, m2, m3, m4, m5, m6, m7, m8, m9, m10, m11, m12, m13, m14, m15, m16]
        rfl
      · have hs : s = [106, 122] := hs.symm
        have m0 : (s = [108, 105]) = False := eq_false (by rw [hs]; decide)
        have m1 : (s = [108, 117, 105]) = False := eq_false (by rw [hs]; decide)
        have m2 : (s = [106, 122]) = True := eq_true hs
        have m3 : (s = [106, 110, 122]) = False := eq_false (by rw [hs]; decide)
        have m4 : (s = [99, 97, 108, 108]) = False := eq_false (by rw [hs]; decide)
        have m5 : (s = [99, 104, 107]) = False := eq_false (by rw [hs]; decide)
        have m6 : (s = [109, 111, 118]) = False := eq_false (by rw [hs]; decide)
        have m7 : (s = [108, 100]) = False := eq_false (by rw [hs]; decide)
        have m8 : (s = [115, 116]) = False := eq_false (by rw [hs]; decide)
        have m9 : (s = [108, 100, 99]) = False := eq_false (by rw [hs]; decide)
        have m10 : (s = [106, 109, 112]) = False := eq_false (by rw [hs]; decide)
        have m11 : (s = [114, 101, 116]) = False := eq_false (by rw [hs]; decide)
        have m12 : (s = [103, 101, 116]) = False := eq_false (by rw [hs]; decide)
        have m13 : (s = [112, 117, 116]) = False := eq_false (by rw [hs]; decide)
        have m14 : (s = [104, 97, 108, 116]) = False := eq_false (by rw [hs]; decide)
        have m15 : (s = [46, 119, 111, 114, 100]) = False := eq_false (by rw [hs]; decide)
        have m16 : (s = [46, 100, 97, 116, 97]) = False := eq_false (by rw [hs]; decide)
        rw [show shI (18 + 1) = shI 19 from rfl]
        simp (config := { maxSteps := 1000000 }) only [go_sem,↓reduceIte,m0, m1, m2, m3, m4, m5, m6, m7, m8, m9, m10, m11, m12, m13, m14, m15, m16]
        rfl
      · have hs : s = [106, 110, 122] := hs.symm
        have m0 : (s = [108, 105]) = False := eq_false (by rw [hs]; decide)
        have m1 : (s = [108, 117, 105]) = False := eq_false (by rw [hs]; decide)
        have m2 : (s = [106, 122]) = False := eq_false (by rw [hs]; decide)
        have m3 : (s = [106, 110, 122]) = True := eq_true hs
        have m4 : (s = [99, 97, 108, 108]) = False := eq_false (by rw [hs]; decide)
        have m5 : (s = [99, 104, 107]) = False := eq_false (by rw [hs]; decide)
        have m6 : (s = [109, 111, 118]) = False := eq_false (by rw [hs]; decide)
        have m7 : (s = [108, 100]) = False := eq_false (by rw [hs]; decide)
        have m8 : (s = [115, 116]) = False := eq_false (by rw [hs]; decide)
        have m9 : (s = [108, 100, 99]) = False := eq_false (by rw [hs]; decide)
        have m10 : (s = [106, 109, 112]) = False := eq_false (by rw [hs]; decide)
        have m11 : (s = [114, 101, 116]) = False := eq_false (by rw [hs]; decide)
        have m12 : (s = [103, 101, 116]) = False := eq_false (by rw [hs]; decide)
        have m13 : (s = [112, 117, 116]) = False := eq_false (by rw [hs]; decide)
        have m14 : (s = [104, 97, 108, 116]) = False := eq_false (by rw [hs]; decide)
        have m15 : (s = [46, 119, 111, 114, 100]) = False := eq_false (by rw [hs]; decide)
        have m16 : (s = [46, 100, 97, 116, 97]) = False := eq_false (by rw [hs]; decide)
        rw [show shI (19 + 1) = shI 20 from rfl]
        simp (config := { maxSteps := 1000000 }) only [go_sem,↓reduceIte,m0, m1, m2, m3, m4, m5, m6, m7, m8, m9, m10, m11, m12, m13, m14, m15, m16]
        rfl
      · have hs : s = [99, 97, 108, 108] := hs.symm
        have m0 : (s = [108, 105]) = False := eq_false (by rw [hs]; decide)
        have m1 : (s = [108, 117, 105]) = False := eq_false (by rw [hs]; decide)
        have m2 : (s = [106, 122]) = False := eq_false (by rw [hs]; decide)
        have m3 : (s = [106, 110, 122]) = False := eq_false (by rw [hs]; decide)
        have m4 : (s = [99, 97, 108, 108]) = True := eq_true hs
        have m5 : (s = [99, 104, 107]) = False := eq_false (by rw [hs]; decide)
        have m6 : (s = [109, 111, 118]) = False := eq_false (by rw [hs]; decide)
        have m7 : (s = [108, 100]) = False := eq_false (by rw [hs]; decide)
        have m8 : (s = [115, 116]) = False := eq_false (by rw [hs]; decide)
        have m9 : (s = [108, 100, 99]) = False := eq_false (by rw [hs]; decide)
        have m10 : (s = [106, 109, 112]) = False := eq_false (by rw [hs]; decide)
        have m11 : (s = [114, 101, 116]) = False := eq_false (by rw [hs]; decide)
        have m12 : (s = [103, 101, 116]) = False := eq_false (by rw [hs]; decide)
        have m13 : (s = [112, 117, 116]) = False := eq_false (by rw [hs]; decide)
        have m14 : (s = [104, 97, 108, 116]) = False := eq_false (by rw [hs]; decide)
        have m15 : (s = [46, 119, 111, 114, 100]) = False := eq_false (by rw [hs]; decide)
        have m16 : (s = [46, 100, 97, 116, 97]) = False := eq_false (by rw [hs]; decide)
        rw [show shI (20 + 1) = shI 21 from rfl]
        simp (config := { maxSteps := 1000000 }) only [go_sem,↓reduceIte,m0, m1, m2, m3, m4, m5, m6, m7, m8, m9, m10, m11, m12, m13, m14, m15, m16]
        rfl
      · have hs : s = [114, 101, 116] := hs.symm
        have m0 : (s = [108, 105]) = False := eq_false (by rw [hs]; decide)
        have m1 : (s = [108, 117, 105]) = False := eq_false (by rw [hs]; decide)
        have m2 : (s = [106, 122]) = False := eq_false (by rw [hs]; decide)
        have m3 : (s = [106, 110, 122]) = False := eq_false (by rw [hs]; decide)
        have m4 : (s = [99, 97, 108, 108]) = False := eq_false (by rw [hs]; decide)
        have m5 : (s = [99, 104, 107]) = False := eq_false (by rw [hs]; decide)
        have m6 : (s = [109, 111, 118]) = False := eq_false (by rw [hs]; decide)
        have m7 : (s = [108, 100]) = False := eq_false (by rw [hs]; decide)
        have m8 : (s = [115, 116]) = False := eq_false (by rw [hs]; decide)
        have m9 : (s = [108, 100, 99]) = False := eq_false (by rw [hs]; decide)
        have m10 : (s = [106, 109, 112]) = False := eq_false (by rw [hs]; decide)
        have m11 : (s = [114, 101, 116]) = True := eq_true hs
        have m12 : (s = [103, 101, 116]) = False := eq_false (by rw [hs]; decide)
        have m13 : (s = [112, 117, 116]) = False := eq_false (by rw [hs]; decide)
        have m14 : (s = [104, 97, 108, 116]) = False := eq_false (by rw [hs]; decide)
        have m15 : (s = [46, 119, 111, 114, 100]) = False := eq_false (by rw [hs]; decide)
        have m16 : (s = [46, 100, 97, 116, 97]) = False := eq_false (by rw [hs]; decide)
        rw [show shI (21 + 1) = shI 22 from rfl]
        simp (config := { maxSteps := 1000000 }) only [go_sem,↓reduceIte,m0, m1, m2, m3, m4, m5, m6, m7, m8, m9, m10, m11, m12, m13, m14, m15, m16]
        rfl
      · have hs : s = [103, 101, 116] := hs.symm
        have m0 : (s = [108, 105]) = False := eq_false (by rw [hs]; decide)
        have m1 : (s = [108, 117, 105]) = False := eq_false (by rw [hs]; decide)
        have m2 : (s = [106, 122]) = False := eq_false (by rw [hs]; decide)
        have m3 : (s = [106, 110, 122]) = False := eq_false (by rw [hs]; decide)
        have m4 : (s = [99, 97, 108, 108]) = False := eq_false (by rw [hs]; decide)
        have m5 : (s = [99, 104, 107]) = False := eq_false (by rw [hs]; decide)
        have m6 : (s = [109, 111, 118]) = False := eq_false (by rw [hs]; decide)
        have m7 : (s = [108, 100]) = False := eq_false (by rw [hs]; decide)
        have m8 : (s = [115, 116]) = False := eq_false (by rw [hs]; decide)
        have m9 : (s = [108, 100, 99]) = False := eq_false (by rw [hs]; decide)
        have m10 : (s = [106, 109, 112]) = False := eq_false (by rw [hs]; decide)
        have m11 : (s = [114, 101, 116]) = False := eq_false (by rw [hs]; decide)
        have m12 : (s = [103, 101, 116]) = True := eq_true hs
        have m13 : (s = [112, 117, 116]) = False := eq_false (by rw [hs]; decide)
        have m14 : (s = [104, 97, 108, 116]) = False := eq_false (by rw [hs]; decide)
        have m15 : (s = [46, 119, 111, 114, 100]) = False := eq_false (by rw [hs]; decide)
        have m16 : (s = [46, 100, 97, 116, 97]) = False := eq_false (by rw [hs]; decide)
        rw [show shI (22 + 1) = shI 23 from rfl]
        simp (config := { maxSteps := 1000000 }) only [go_sem,↓reduceIte,m0, m1, m2, m3, m4, m5, m6, m7, m8, m9, m10, m11, m12, m13, m14, m15, m16]
        rfl
      · have hs : s = [112, 117, 116] := hs.symm
        have m0 : (s = [108, 105]) = False := eq_false (by rw [hs]; decide)
        have m1 : (s = [108, 117, 105]) = False := eq_false (by rw [hs]; decide)
        have m2 : (s = [106, 122]) = False := eq_false (by rw [hs]; decide)
        have m3 : (s = [106, 110, 122]) = False := eq_false (by rw [hs]; decide)
        have m4 : (s = [99, 97, 108, 108]) = False := eq_false (by rw [hs]; decide)
        have m5 : (s = [99, 104, 107]) = False := eq_false (by rw [hs]; decide)
        have m6 : (s = [109, 111, 118]) = False := eq_false (by rw [hs]; decide)
        have m7 : (s = [108, 100]) = False := eq_false (by rw [hs]; decide)
        have m8 : (s = [115, 116]) = False := eq_false (by rw [hs]; decide)
        have m9 : (s = [108, 100, 99]) = False := eq_false (by rw [hs]; decide)
        have m10 : (s = [106, 109, 112]) = False := eq_false (by rw [hs]; decide)
        have m11 : (s = [114, 101, 116]) = False := eq_false (by rw [hs]; decide)
        have m12 : (s = [103, 101, 116]) = False := eq_false (by rw [hs]; decide)
        have m13 : (s = [112, 117, 116]) = True := eq_true hs
        have m14 : (s = [104, 97, 108, 116]) = False := eq_false (by rw [hs]; decide)
        have m15 : (s = [46, 119, 111, 114, 100]) = False := eq_false (by rw [hs]; decide)
        have m16 : (s = [46, 100, 97, 116, 97]) = False := eq_false (by rw [hs]; decide)
        rw [show shI (23 + 1) = shI 24 from rfl]
        simp (config := { maxSteps := 1000000 }) only [go_sem,↓reduceIte,m0, m1, m2, m3, m4, m5, m6, m7, m8, m9, m10, m11, m12, m13, m14, m15, m16]
        rfl
      · have hs : s = [99, 104, 107] := hs.symm
        have m0 : (s = [108, 105]) = False := eq_false (by rw [hs]; decide)
        have m1 : (s = [108, 117, 105]) = False := eq_false (by rw [hs]; decide)
        have m2 : (s = [106, 122]) = False := eq_false (by rw [hs]; decide)
        have m3 : (s = [106, 110, 122]) = False := eq_false (by rw [hs]; decide)
        have m4 : (s = [99, 97, 108, 108]) = False := eq_false (by rw [hs]; decide)
        have m5 : (s = [99, 104, 107]) = True := eq_true hs
        have m6 : (s = [109, 111, 118]) = False := eq_false (by rw [hs]; decide)
        have m7 : (s = [108, 100]) = False := eq_false (by rw [hs]; decide)
        have m8 : (s = [115, 116]) = False := eq_false (by rw [hs]; decide)
        have m9 : (s = [108, 100, 99]) = False := eq_false (by rw [hs]; decide)
        have m10 : (s = [106, 109, 112]) = False := eq_false (by rw [hs]; decide)
        have m11 : (s = [114, 101, 116]) = False := eq_false (by rw [hs]; decide)
        have m12 : (s = [103, 101, 116]) = False := eq_false (by rw [hs]; decide)
        have m13 : (s = [112, 117, 116]) = False := eq_false (by rw [hs]; decide)
        have m14 : (s = [104, 97, 108, 116]) = False := eq_false (by rw [hs]; decide)
        have m15 : (s = [46, 119, 111, 114, 100]) = False := eq_false (by rw [hs]; decide)
        have m16 : (s = [46, 100, 97, 116, 97]) = False := eq_false (by rw [hs]; decide)
        rw [show shI (24 + 1) = shI 25 from rfl]
        simp (config := { maxSteps := 1000000 }) only [go_sem,↓reduceIte,m0, m1, m2, m3, m4, m5, m6, m7, m8, m9, m10, m11, m12, m13, m14, m15, m16]
        rfl
      · have hs : s = [104, 97, 108, 116] := hs.symm
        have m0 : (s = [108, 105]) = False := eq_false (by rw [hs]; decide)
        have m1 : (s = [108, 117, 105]) = False := eq_false (by rw [hs]; decide)
        have m2 : (s = [106, 122]) = False := eq_false (by rw [hs]; decide)
        have m3 : (s = [106, 110, 122]) = False := eq_false (by rw [hs]; decide)
        have m4 : (s = [99, 97, 108, 108]) = False := eq_false (by rw [hs]; decide)
        have m5 : (s = [99, 104, 107]) = False := eq_false (by rw [hs]; decide)
        have m6 : (s = [109, 111, 118]) = False := eq_false (by rw [hs]; decide)
        have m7 : (s = [108, 100]) = False := eq_false (by rw [hs]; decide)
        have m8 : (s = [115, 116]) = False := eq_false (by rw [hs]; decide)
        have m9 : (s = [108, 100, 99]) = False := eq_false (by rw [hs]; decide)
        have m10 : (s = [106, 109, 112]) = False := eq_false (by rw [hs]; decide)
        have m11 : (s = [114, 101, 116]) = False := eq_false (by rw [hs]; decide)
        have m12 : (s = [103, 101, 116]) = False := eq_false (by rw [hs]; decide)
        have m13 : (s = [112, 117, 116]) = False := eq_false (by rw [hs]; decide)
        have m14 : (s = [104, 97, 108, 116]) = True := eq_true hs
        have m15 : (s = [46, 119, 111, 114, 100]) = False := eq_false (by rw [hs]; decide)
        have m16 : (s = [46, 100, 97, 116, 97]) = False := eq_false (by rw [hs]; decide)
        rw [show shI (25 + 1) = shI 26 from rfl]
        simp (config := { maxSteps := 1000000 }) only [go_sem,↓reduceIte,m0, m1, m2, m3, m4, m5, m6, m7, m8, m9, m10, m11, m12, m13, m14, m15, m16]
        rfl
      · have hs : s = [108, 100, 99] := hs.symm
        have m0 : (s = [108, 105]) = False := eq_false (by rw [hs]; decide)
        have m1 : (s = [108, 117, 105]) = False := eq_false (by rw [hs]; decide)
        have m2 : (s = [106, 122]) = False := eq_false (by rw [hs]; decide)
        have m3 : (s = [106, 110, 122]) = False := eq_false (by rw [hs]; decide)
        have m4 : (s = [99, 97, 108, 108]) = False := eq_false (by rw [hs]; decide)
        have m5 : (s = [99, 104, 107]) = False := eq_false (by rw [hs]; decide)
        have m6 : (s = [109, 111, 118]) = False := eq_false (by rw [hs]; decide)
        have m7 : (s = [108, 100]) = False := eq_false (by rw [hs]; decide)
        have m8 : (s = [115, 116]) = False := eq_false (by rw [hs]; decide)
        have m9 : (s = [108, 100, 99]) = True := eq_true hs
        have m10 : (s = [106, 109, 112]) = False := eq_false (by rw [hs]; decide)
        have m11 : (s = [114, 101, 116]) = False := eq_false (by rw [hs]; decide)
        have m12 : (s = [103, 101, 116]) = False := eq_false (by rw [hs]; decide)
        have m13 : (s = [112, 117, 116]) = False := eq_false (by rw [hs]; decide)
        have m14 : (s = [104, 97, 108, 116]) = False := eq_false (by rw [hs]; decide)
        have m15 : (s = [46, 119, 111, 114, 100]) = False := eq_false (by rw [hs]; decide)
        have m16 : (s = [46, 100, 97, 116, 97]) = False := eq_false (by rw [hs]; decide)
        rw [show shI (26 + 1) = shI 27 from rfl]
        simp (config := { maxSteps := 1000000 }) only [go_sem,↓reduceIte,m0, m1, m2, m3, m4, m5, m6, m7, m8, m9, m10, m11, m12, m13, m14, m15, m16]
        rfl

end Go.Proofs.YthclfagbojkbjabGreatDoor

namespace Go.Proofs.YthclfagbojkbjabGreatDoor
open Go Go.Am Go.Asm

abbrev FX := List Int × Bool × Str
def mostW (op : Str) : Nat := if op = wordW then 4294967295 else if op = dataW then 32768 else 65535
def stepF (op : Str) (c : UInt8) (a : Str) (i : Nat) (x : FX) : Option FX :=
  if c = 114 then (if regI a < 0 then none else some (x.1.set i (regI a), x.2))
  else match numO a with
    | .num n => some (x.1.set i n, x.2.1 || decide (mostW op < n), x.2.2)
    | .great => some (x.1.set i 0, true, x.2.2)
    | _ => if c = 110 ∧ regI a < 0 ∧ isLabel a = true then some (x.1, x.2.1, a) else none
def foldF (op : Str) : List UInt8 → List Str → Nat → FX → Option FX
  | c :: sh, a :: al, i, x => (stepF op c a i x).bind (foldF op sh al (i + 1))
  | _, _, _, x => some x
def fieldsX (sh : Str) (f : List Int) : Int × Int × Int :=
  if sh = [114, 110] then (f.getD 0 0, 0, f.getD 1 0) else if sh = [114, 114] then (f.getD 0 0, f.getD 1 0, 0) else if sh = [110] then (0, 0, f.getD 0 0) else (f.getD 0 0, f.getD 1 0, f.getD 2 0)
def encX (op : Nat) (x : Int × Int × Int) : Nat := if rightI op x.1 x.2.1 x.2.2 = true then word op x.1.toNat x.2.1.toNat x.2.2.toNat else 0
def useX (st : Sta) (line : Nat) (l : Str) : Sta := if l = [] then st else { st with uses := st.uses ++ [(line, st.code.length, l)] }
def addX (st : Sta) (w : Nat) : Sta := { st with code := st.code ++ [w] }
def endA (line : Nat) (st : Sta) (op : Str) (x : FX) : Res Sta :=
  if x.2.1 = true ∨ (op ≠ dataW ∧ st.code.length = 16384) then .err 2
  else if op = dataW then .ok { st with data := (x.1.getD 0 0).toNat, hasD := true }
  else if op = wordW then .ok (addX (useX st line x.2.2) (x.1.getD 0 0).toNat)
  else .ok (addX (useX st line x.2.2) (encX (opNum op) (fieldsX (shapeS op) x.1)))
def putA (line : Nat) (st : Sta) (op : Str) (args : List Str) : Res Sta :=
  if shapeS op = [63] then .err 4
  else if args.length ≠ (shapeS op).length ∨ (op = dataW ∧ st.hasD = true) then .err 1
  else match foldF op (shapeS op) args 0 ([0, 0, 0], false, []) with
    | none => .err 1
    | some x => endA line st op x

theorem regI_some {a : Str} {n : Nat} (h : regOf a = some n) : regI a = n := by unfold regI; rw [h]
theorem regI_none {a : Str} (h : regOf a = none) : regI a = -1 := by unfold regI; rw [h]
theorem operand_regOf {a : Str} : regOf? a = regOf a := by
  unfold regOf?
  cases h : regOf a with
  | some n => rw [show operandA a = .reg n by unfold operandA; rw [h]]
  | none =>
    have : ∀ n, operandA a ≠ .reg n := by
      intro n e
      unfold operandA at e
      rw [h] at e
      simp only at e
      split at e
      · cases e
      · cases e
      · unfold restOpd at e
        split at e
        · split at e <;> cases e
        · split at e
          · cases e
          · split at e <;> cases e
    split
    · rename_i n e; exact absurd e (this n)
    · rfl
theorem stepF_r0 {op : Str} {a : Str} {i : Nat} {x : FX} (h : regOf a = none) : stepF op 114 a i x = none := by
  unfold stepF; rw [if_pos rfl, regI_none h, if_pos (by decide)]
theorem stepF_r1 {op : Str} {a : Str} {i n : Nat} {x : FX} (h : regOf a = some n) : stepF op 114 a i x = some (x.1.set i n, x.2) := by
  unfold stepF; rw [if_pos rfl, regI_some h, if_neg (by omega)]

theorem numO_lt {s : Str} {n : Nat} (h : numO s = .num n) : n < 4294967296 := by
  unfold numO at h
  split at h
  · rename_i m hm
    cases h
    unfold charOf at hm
    split at hm
    · rename_i a c b
      split at hm
      · cases hm; have := c.toNat_lt; omega
      · cases hm
    · cases hm
  · split at h
    · rename_i c d _
      split at h
      · rename_i m hm
        cases h
        unfold hexN at hm
        split at hm
        · rename_i hl
          have := hexGo_lt hm
          have hp : 16 ^ (c :: d).length ≤ 16 ^ 8 := Nat.pow_le_pow_right (by decide) hl.2
          omega
        · cases hm
      · cases h
    · split at h
      · rename_i m hm
        cases h
        unfold parseN at hm
        split at hm
        · cases hm
        · split at hm
          · split at hm
            · cases hm
            · cases hm; omega
          · cases hm
      · cases h
      · cases h

inductive Kind (a : Str) : Prop where
  | num (n : Nat) (h : n < 4294967296) (h1 : operandA a = .num n) (h2 : numO a = .num n)
  | great (h1 : operandA a = .great) (h2 : numO a = .great)
  | lab (h1 : operandA a = .lab) (h0 : a ≠ []) (h2 : numV (numO a) = numV .other) (h3 : regI a < 0) (h4 : isLabel a = true)
  | reg (n : Nat) (h1 : operandA a = .reg n) (h2 : numV (numO a) = numV .other) (h3 : ¬ regI a < 0)
  | other (h1 : operandA a = .other) (h2 : numV (numO a) = numV .other) (h4 : isLabel a = false)

theorem numV_num {x : Opd} {n : Nat} (h : numV x = numV (.num n)) : x = .num n := by
  cases x with
  | num m => simp [numV] at h; rw [show m = n by omega]
  | _ => simp [numV] at h
theorem numV_great {x : Opd} (h : numV x = numV .great) : x = .great := by
  cases x <;> simp [numV] at h
  rfl
theorem kind (a : Str) : Kind a := by
  have hs := num_same a
  cases ho : operandA a with
  | num n =>
    rw [ho] at hs
    have := numV_num hs
    exact .num n (numO_lt this) ho this
  | great =>
    rw [ho] at hs
    exact .great ho (numV_great hs)
  | lab =>
    rw [ho] at hs
    have hr : regOf a = none := by rw [← operand_regOf]; unfold regOf?; rw [ho]
    have hl : isLabel a = true := by
      unfold operandA at ho
      rw [hr] at ho
      simp only at ho
      split at ho
      · cases ho
      · cases ho
      · unfold restOpd at ho
        split at ho
        · split at ho <;> cases ho
        · split at ho
          · cases ho
          · split at ho
            · rename_i h; exact h
            · cases ho
    refine .lab ho ?_ hs (by rw [regI_none hr]; decide) hl
    rintro rfl
    simp [isLabel] at hl
  | reg n =>
    rw [ho] at hs
    have hr : regOf a = some n := by rw [← operand_regOf]; unfold regOf?; rw [ho]
    exact .reg n ho hs (by rw [regI_some hr]; omega)
  | other =>
    rw [ho] at hs
    refine .other ho hs ?_
    unfold operandA at ho
    split at ho
    · cases ho
    · split at ho
      · cases ho
      · cases ho
      · unfold restOpd at ho
        split at ho
        · simp [isLabel, letter, small]
        · split at ho
          · cases ho
          · split at ho
            · cases ho
            · rename_i h; simpa using h

theorem stepF_no {op : Str} {c : UInt8} {a : Str} {i : Nat} {x : FX} (hc : c ≠ 114) (h : numV (numO a) = numV .other) : stepF op c a i x = if c = 110 ∧ regI a < 0 ∧ isLabel a = true then some (x.1, x.2.1, a) else none := by
  unfold stepF
  rw [if_neg hc]
  cases hn : numO a <;> first | rfl | (rw [hn] at h; simp [numV] at h)
theorem stepF_num {op : Str} {c : UInt8} {a : Str} {i n : Nat} {x : FX} (hc : c ≠ 114) (h : numO a = .num n) : stepF op c a i x = some (x.1.set i n, x.2.1 || decide (mostW op < n), x.2.2) := by
  unfold stepF; rw [if_neg hc, h]
theorem stepF_great {op : Str} {c : UInt8} {a : Str} {i : Nat} {x : FX} (hc : c ≠ 114) (h : numO a = .great) : stepF op c a i x = some (x.1.set i 0, true, x.2.2) := by
  unfold stepF; rw [if_neg hc, h]

theorem opNum_word : opNum wordW = 0 := by decide +kernel
theorem opNum_data : opNum dataW = 0 := by decide +kernel

theorem put_dir {line : Nat} {st : Sta} {op : Str} {args : List Str} (hop : op = wordW ∨ op = dataW) (hc : st.code.length ≤ 16384) : putA line st op args = dirA st (decide (op = dataW)) args := by
  have hsh : shapeS op = [119] := by unfold shapeS; rw [if_pos hop]
  unfold putA
  rw [hsh, if_neg (by decide)]
  match args with
  | [] => rfl
  | a :: b :: r => rw [if_pos (.inl (by simp))]; rfl
  | [a] =>
    rw [show dirA st (decide (op = dataW)) [a] = (if decide (op = dataW) = true ∧ st.hasD = true then Res.err 1 else match operandA a with | .num v => if decide (op = dataW) = true then (if 32768 < v then .err 2 else .ok { st with data := v, hasD := true }) else addW st v | .great => .err 2 | _ => .err 1) from rfl]
    by_cases hd : op = dataW ∧ st.hasD = true
    · rw [if_pos (.inr hd), if_pos ⟨by simp [hd.1], hd.2⟩]
    rw [if_neg (by simp only [List.length_cons, List.length_nil, ne_eq, not_true_eq_false, false_or]; exact hd), if_neg (by simpa using hd)]
    have hno : ∀ x : Opd, operandA a = x → numV (numO a) = numV .other → foldF op [119] [a] 0 ([0, 0, 0], false, []) = none := fun x _ h => by
      simp only [foldF]; rw [stepF_no (by decide) h, if_neg (by simp)]; rfl
    cases kind a with
    | num n h h1 h2 =>
      have : foldF op [119] [a] 0 ([0, 0, 0], false, []) = some ([(n : Int), 0, 0], decide (mostW op < n), []) := by
        simp only [foldF]; rw [stepF_num (by decide) h2]; simp
      rw [this, h1]
      simp only [endA]
      rcases hop with rfl | rfl
      · have hm : ¬ mostW wordW < n := by unfold mostW; rw [if_pos rfl]; omega
        have hwd : ¬ wordW = dataW := by decide
        simp only [hm, hwd, decide_false, Bool.false_eq_true, ne_eq, not_false_eq_true, true_and, false_or, if_false, if_true, addW, addX, useX]
        by_cases h6 : st.code.length = 16384
        · rw [if_pos h6, if_pos (by omega)]
        · rw [if_neg h6, if_neg (by omega)]; simp
      · have hm : mostW dataW = 32768 := rfl
        simp only [hm, ne_eq, not_true_eq_false, false_and, or_false, decide_eq_true_eq, decide_true, if_true]
        by_cases h6 : 32768 < n
        · rw [if_pos h6, if_pos h6]
        · rw [if_neg h6, if_neg h6]; simp
    | great h1 h2 =>
      have : foldF op [119] [a] 0 ([0, 0, 0], false, []) = some ([0, 0, 0], true, []) := by
        simp only [foldF]; rw [stepF_great (by decide) h2]; simp
      rw [this, h1]
      simp [endA]
    | lab h1 h0 h2 h3 h4 => rw [hno _ h1 h2, h1]
    | reg n h1 h2 h3 => rw [hno _ h1 h2, h1]
    | other h1 h2 h4 => rw [hno _ h1 h2, h1]

end Go.Proofs.YthclfagbojkbjabGreatDoor

namespace Go.Proofs.YthclfagbojkbjabGreatDoor
open Go Go.Am Go.Asm

theorem knownN_of {k : Nat} (h : k < 28) (h0 : k ≠ 0) : knownN k = true := by unfold knownN; simp; omega

section
variable {op : Str} {line : Nat} {st : Sta}
theorem end_bad {f : List Int} {l : Str} : endA line st op (f, true, l) = .err 2 := by unfold endA; rw [if_pos (.inl rfl)]
theorem useX_code {l : Str} : (useX st line l).code = st.code := by unfold useX; split <;> rfl
theorem end_add (h1 : op ≠ wordW) (h2 : op ≠ dataW) (hc : st.code.length ≤ 16384) {f : List Int} {l : Str} {w : Nat} (hw : encX (opNum op) (fieldsX (shapeS op) f) = w) : endA line st op (f, false, l) = addW (useX st line l) w := by
  unfold endA addW
  rw [useX_code]
  by_cases h : st.code.length = 16384
  · rw [if_pos (.inr ⟨h2, h⟩), if_pos (by omega)]
  · rw [if_neg (by simp [h]), if_neg h2, if_neg h1, if_neg (by omega)]
    simp only [hw, addX, useX_code]
theorem tail_num (h1 : op ≠ wordW) (h2 : op ≠ dataW) (hc : st.code.length ≤ 16384) {b : Str} {i : Nat} {f : List Int} {rs : List Nat} (hw0 : encX (opNum op) (fieldsX (shapeS op) f) = wordR (opNum op) rs 0)
    (hw : ∀ c : Nat, c ≤ 65535 → encX (opNum op) (fieldsX (shapeS op) (f.set i (c : Int))) = wordR (opNum op) rs c) :
    (match stepF op 110 b i (f, false, []) with | none => Res.err 1 | some x => endA line st op x) =
    (match operandA b with | .lab => addW { st with uses := st.uses ++ [(line, st.code.length, b)] } (wordR (opNum op) rs 0) | .num v => if 65535 < v then .err 2 else addW st (wordR (opNum op) rs v) | .great => .err 2 | _ => .err 1) := by
  have hm : mostW op = 65535 := by unfold mostW; rw [if_neg h1, if_neg h2]
  cases kind b with
  | num n h h3 h4 =>
    rw [stepF_num (by decide) h4, h3, hm]
    simp only [Bool.false_or]
    by_cases hn : 65535 < n
    · rw [if_pos hn, decide_eq_true hn]; exact end_bad
    · rw [if_neg hn, decide_eq_false hn]; exact end_add h1 h2 hc (hw n (by omega))
  | great h3 h4 => rw [stepF_great (by decide) h4, h3]; exact end_bad
  | lab h3 h0 h4 h5 h6 =>
    rw [stepF_no (by decide) h4, if_pos ⟨rfl, h5, h6⟩, h3]
    simp only
    rw [end_add h1 h2 hc hw0]
    unfold useX; rw [if_neg h0]
  | reg n h3 h4 h5 => rw [stepF_no (by decide) h4, if_neg (fun h => h5 h.2.1), h3]
  | other h3 h4 h5 => rw [stepF_no (by decide) h4, if_neg (fun h => by rw [h5] at h; simp at h), h3]

theorem regsOf_nil : regsOf [] = some [] := rfl
theorem regsOf_none {a : Str} {l : List Str} (h : regOf a = none) : regsOf (a :: l) = none := by unfold regsOf; rw [operand_regOf, h]; rfl
theorem regsOf_some {a : Str} {l : List Str} {n : Nat} (h : regOf a = some n) : regsOf (a :: l) = (regsOf l).map (n :: ·) := by
  conv => lhs; unfold regsOf
  rw [operand_regOf, h]; rfl
theorem encX_ok {k : Nat} {a b c : Nat} (hr : rightI k a b c = true) : encX k ((a : Int), (b : Int), (c : Int)) = word k a b c := by
  unfold encX; rw [if_pos hr]; rfl

theorem put_ins (h1 : op ≠ wordW) (h2 : op ≠ dataW) (h0 : opNum op ≠ 0) (hc : st.code.length ≤ 16384) {args : List Str} : putA line st op args = insA line st (opNum op) args := by
  have hle := opNum_le op
  have hkn := knownN_of (k := opNum op) (by omega) h0
  have hsh : shapeS op = shI (opNum op) := by unfold shapeS; rw [if_neg (by simp [h1, h2]), if_neg h0]
  have hf : fieldsX (shapeS op) = fieldsX (shI (opNum op)) := by rw [hsh]
  have hend := fun (f : List Int) (w : Nat) => @end_add op line st h1 h2 hc f [] w
  have ht := @tail_num op line st h1 h2 hc
  rw [hsh] at hend ht
  unfold putA
  rw [hsh]
  clear hsh hf
  generalize hk : opNum op = k at *
  rcases shape_cases k with s | s | s | s | s | s | s
  · have e : shI k = [114, 110] := by unfold shI; rw [s]; rfl
    have hr : nRegs k = 1 := by unfold nRegs; rw [s]; rfl
    have hn : nArgs k = 2 := by unfold nArgs; rw [hr, s]; rfl
    rw [e] at hend ht ⊢
    rw [if_neg (by decide)]
    unfold insA
    rw [hr, hn]
    by_cases hl : args.length = 2
    · rw [if_neg (by simp [hl, h2]), if_neg (by simp [hl])]
      match args, hl with
      | [a, b], _ =>
        simp only [foldF, List.take_succ_cons, List.take_zero]
        cases ha : regOf a with
        | none => simp only [stepF_r0 ha, regsOf_none ha, Option.bind_none, Option.bind_some, Option.map_none]
        | some na =>
          have ga := regOf_le ha
          rw [stepF_r1 ha]
          simp only [Option.bind_some, List.set_cons_zero, List.set_cons_succ, Nat.zero_add, Nat.reduceAdd]
          simp only [regsOf_some ha, regsOf_nil, Option.map_some]
          simp only [s, if_true]
          refine Eq.trans ?_ (ht (b := b) (i := 1) (f := [(na : Int), 0, 0]) (rs := [na]) ?_ ?_)
          · cases stepF op 110 b 1 ([(na : Int), 0, 0], false, []) <;> rfl
          · show encX k ((na : Int), ((0 : Nat) : Int), ((0 : Nat) : Int)) = _
            rw [encX_ok (by simp [rightI, hkn, s, inW, mostC] <;> omega)]
            simp [wordR, s]
          · intro c hc
            show encX k ((na : Int), ((0 : Nat) : Int), (c : Int)) = _
            rw [encX_ok (by simp [rightI, hkn, s, inW, mostC] <;> omega)]
            simp [wordR, s]
    · rw [if_pos (.inl (by simpa using hl)), if_pos hl]
  · have e : shI k = [114, 114] := by unfold shI; rw [s]; rfl
    have hr : nRegs k = 2 := by unfold nRegs; rw [s]; rfl
    have hn : nArgs k = 2 := by unfold nArgs; rw [hr, s]; rfl
    rw [e] at hend ht ⊢
    rw [if_neg (by decide)]
    unfold insA
    rw [hr, hn]
    by_cases hl : args.length = 2
    · rw [if_neg (by simp [hl, h2]), if_neg (by simp [hl])]
      match args, hl with
      | [a, b], _ =>
        simp only [foldF, List.take_succ_cons, List.take_zero]
        cases ha : regOf a with
        | none => simp only [stepF_r0 ha, regsOf_none ha, Option.bind_none, Option.bind_some, Option.map_none]
        | some na =>
          have ga := regOf_le ha
          rw [stepF_r1 ha]
          simp only [Option.bind_some, List.set_cons_zero, List.set_cons_succ, Nat.zero_add, Nat.reduceAdd]
          cases hb : regOf b with
          | none => simp only [stepF_r0 hb, regsOf_some ha, regsOf_none hb, Option.bind_none, Option.bind_some, Option.map_none]
          | some nb =>
            have gb := regOf_le hb
            rw [stepF_r1 hb]
            simp only [Option.bind_some, List.set_cons_zero, List.set_cons_succ, Nat.zero_add, Nat.reduceAdd]
            simp only [regsOf_some ha, regsOf_some hb, regsOf_nil, Option.map_some]
            rw [if_neg (by rw [s]; decide)]
            refine hend [(na : Int), (nb : Int), 0] (wordR k [na, nb] 0) ?_
            show encX k ((na : Int), (nb : Int), ((0 : Nat) : Int)) = _
            rw [encX_ok (by simp [rightI, hkn, s, inW, mostC] <;> omega)]
            simp [wordR, s]
    · rw [if_pos (.inl (by simpa using hl)), if_pos hl]
  · have e : shI k = [114, 114, 114] := by unfold shI; rw [s]; rfl
    have hr : nRegs k = 3 := by unfold nRegs; rw [s]; rfl
    have hn : nArgs k = 3 := by unfold nArgs; rw [hr, s]; rfl
    rw [e] at hend ht ⊢
    rw [if_neg (by decide)]
    unfold insA
    rw [hr, hn]
    by_cases hl : args.length = 3
    · rw [if_neg (by simp [hl, h2]), if_neg (by simp [hl])]
      match args, hl with
      | [a, b, d], _ =>
        simp only [foldF, List.take_succ_cons, List.take_zero]
        cases ha : regOf a with
        | none => simp only [stepF_r0 ha, regsOf_none ha, Option.bind_none, Option.bind_some, Option.map_none]
        | some na =>
          have ga := regOf_le ha
          rw [stepF_r1 ha]
          simp only [Option.bind_some, List.set_cons_zero, List.set_cons_succ, Nat.zero_add, Nat.reduceAdd]
          cases hb : regOf b with
          | none => simp only [stepF_r0 hb, regsOf_some ha, regsOf_none hb, Option.bind_none, Option.bind_some, Option.map_none]
          | some nb =>
            have gb := regOf_le hb
            rw [stepF_r1 hb]
            simp only [Option.bind_some, List.set_cons_zero, List.set_cons_succ, Nat.zero_add, Nat.reduceAdd]
            cases hd : regOf d with
            | none => simp only [stepF_r0 hd, regsOf_some ha, regsOf_some hb, regsOf_none hd, Option.bind_none, Option.bind_some, Option.map_none]
            | some nd =>
              have gd := regOf_le hd
              rw [stepF_r1 hd]
              simp only [Option.bind_some, List.set_cons_zero, List.set_cons_succ, Nat.zero_add, Nat.reduceAdd]
              simp only [regsOf_some ha, regsOf_some hb, regsOf_some hd, regsOf_nil, Option.map_some]
              rw [if_neg (by rw [s]; decide)]
              refine hend [(na : Int), (nb : Int), (nd : Int)] (wordR k [na, nb, nd] 0) ?_
              show encX k ((na : Int), (nb : Int), (nd : Int)) = _
              rw [encX_ok (by simp [rightI, hkn, s, inW, mostC] <;> omega)]
              simp [wordR, s]
    · rw [if_pos (.inl (by simpa using hl)), if_pos hl]
  · have e : shI k = [114, 114, 110] := by unfold shI; rw [s]; rfl
    have hr : nRegs k = 2 := by unfold nRegs; rw [s]; rfl
    have hn : nArgs k = 3 := by unfold nArgs; rw [hr, s]; rfl
    rw [e] at hend ht ⊢
    rw [if_neg (by decide)]
    unfold insA
    rw [hr, hn]
    by_cases hl : args.length = 3
    · rw [if_neg (by simp [hl, h2]), if_neg (by simp [hl])]
      match args, hl with
      | [a, b, d], _ =>
        simp only [foldF, List.take_succ_cons, List.take_zero]
        cases ha : regOf a with
        | none => simp only [stepF_r0 ha, regsOf_none ha, Option.bind_none, Option.bind_some, Option.map_none]
        | some na =>
          have ga := regOf_le ha
          rw [stepF_r1 ha]
          simp only [Option.bind_some, List.set_cons_zero, List.set_cons_succ, Nat.zero_add, Nat.reduceAdd]
          cases hb : regOf b with
          | none => simp only [stepF_r0 hb, regsOf_some ha, regsOf_none hb, Option.bind_none, Option.bind_some, Option.map_none]
          | some nb =>
            have gb := regOf_le hb
            rw [stepF_r1 hb]
            simp only [Option.bind_some, List.set_cons_zero, List.set_cons_succ, Nat.zero_add, Nat.reduceAdd]
            simp only [regsOf_some ha, regsOf_some hb, regsOf_nil, Option.map_some]
            simp only [s, if_true]
            refine Eq.trans ?_ (ht (b := d) (i := 2) (f := [(na : Int), (nb : Int), 0]) (rs := [na, nb]) ?_ ?_)
            · cases stepF op 110 d 2 ([(na : Int), (nb : Int), 0], false, []) <;> rfl
            · show encX k ((na : Int), (nb : Int), ((0 : Nat) : Int)) = _
              rw [encX_ok (by simp [rightI, hkn, s, inW, mostC] <;> omega)]
              simp [wordR, s]
            · intro c hc
              show encX k ((na : Int), (nb : Int), (c : Int)) = _
              rw [encX_ok (by simp [rightI, hkn, s, inW, mostC] <;> omega)]
              simp [wordR, s]
    · rw [if_pos (.inl (by simpa using hl)), if_pos hl]
  · have e : shI k = [110] := by unfold shI; rw [s]; rfl
    have hr : nRegs k = 0 := by unfold nRegs; rw [s]; rfl
    have hn : nArgs k = 1 := by unfold nArgs; rw [hr, s]; rfl
    rw [e] at hend ht ⊢
    rw [if_neg (by decide)]
    unfold insA
    rw [hr, hn]
    by_cases hl : args.length = 1
    · rw [if_neg (by simp [hl, h2]), if_neg (by simp [hl])]
      match args, hl with
      | [a], _ =>
        simp only [foldF, List.take_succ_cons, List.take_zero]
        simp only [regsOf]
        simp only [s, if_true]
        refine Eq.trans ?_ (ht (b := a) (i := 0) (f := [0, 0, 0]) (rs := []) ?_ ?_)
        · cases stepF op 110 a 0 ([0, 0, 0], false, []) <;> rfl
        · show encX k (((0 : Nat) : Int), ((0 : Nat) : Int), ((0 : Nat) : Int)) = _
          rw [encX_ok (by simp [rightI, hkn, s, inW, mostC] <;> omega)]
          simp [wordR, s]
        · intro c hc
          show encX k (((0 : Nat) : Int), ((0 : Nat) : Int), (c : Int)) = _
          rw [encX_ok (by simp [rightI, hkn, s, inW, mostC] <;> omega)]
          simp [wordR, s]
    · rw [if_pos (.inl (by simpa using hl)), if_pos hl]
  · have e : shI k = [114] := by unfold shI; rw [s]; rfl
    have hr : nRegs k = 1 := by unfold nRegs; rw [s]; rfl
    have hn : nArgs k = 1 := by unfold nArgs; rw [hr, s]; rfl
    rw [e] at hend ht ⊢
    rw [if_neg (by decide)]
    unfold insA
    rw [hr, hn]
    by_cases hl : args.length = 1
    · rw [if_neg (by simp [hl, h2]), if_neg (by simp [hl])]
      match args, hl with
      | [a], _ =>
        simp only [foldF, List.take_succ_cons, List.take_zero]
        cases ha : regOf a with
        | none => simp only [stepF_r0 ha, regsOf_none ha, Option.bind_none, Option.bind_some, Option.map_none]
        | some na =>
          have ga := regOf_le ha
          rw [stepF_r1 ha]
          simp only [Option.bind_some, List.set_cons_zero, List.set_cons_succ, Nat.zero_add, Nat.reduceAdd]
          simp only [regsOf_some ha, regsOf_nil, Option.map_some]
          rw [if_neg (by rw [s]; decide)]
          refine hend [(na : Int), 0, 0] (wordR k [na] 0) ?_
          show encX k ((na : Int), ((0 : Nat) : Int), ((0 : Nat) : Int)) = _
          rw [encX_ok (by simp [rightI, hkn, s, inW, mostC] <;> omega)]
          simp [wordR, s]
    · rw [if_pos (.inl (by simpa using hl)), if_pos hl]
  · have e : shI k = [] := by unfold shI; rw [s]; rfl
    have hr : nRegs k = 0 := by unfold nRegs; rw [s]; rfl
    have hn : nArgs k = 0 := by unfold nArgs; rw [hr, s]; rfl
    rw [e] at hend ht ⊢
    rw [if_neg (by decide)]
    unfold insA
    rw [hr, hn]
    by_cases hl : args.length = 0
    · rw [if_neg (by simp [hl, h2]), if_neg (by simp [hl])]
      match args, hl with
      | [], _ =>
        simp only [foldF, List.take_succ_cons, List.take_zero]
        simp only [regsOf]
        rw [if_neg (by rw [s]; decide)]
        refine hend [0, 0, 0] (wordR k [] 0) ?_
        show encX k (((0 : Nat) : Int), ((0 : Nat) : Int), ((0 : Nat) : Int)) = _
        rw [encX_ok (by simp [rightI, hkn, s, inW, mostC] <;> omega)]
        simp [wordR, s]
    · rw [if_pos (.inl (by simpa using hl)), if_pos hl]

theorem put_same (h : op ≠ []) (hc : st.code.length ≤ 16384) {args : List Str} : putA line st op args = Asm.opA line st op args := by
  unfold Asm.opA
  rw [if_neg h]
  by_cases h1 : op = wordW
  · rw [if_pos h1, put_dir (.inl h1) hc, h1]; rfl
  by_cases h2 : op = dataW
  · rw [if_neg h1, if_pos h2, put_dir (.inr h2) hc, h2]; rfl
  rw [if_neg h1, if_neg h2]
  by_cases h0 : opNum op = 0
  · rw [if_pos h0]
    unfold putA
    rw [show shapeS op = [63] by unfold shapeS; rw [if_neg (by simp [h1, h2]), if_pos h0], if_pos rfl]
  · rw [if_neg h0]; exact put_ins h1 h2 h0 hc
end
end Go.Proofs.YthclfagbojkbjabGreatDoor

namespace Go.Proofs.YthclfagbojkbjabGreatDoor
open Go Go.Am Go.Asm

def useR (x : Nat × Nat × Str) : List C := [.d (.str x.2.2), .d (.int .i64 x.1), .d (.int .i64 x.2.1)]
def codeC (code : List Nat) : List C := code.map fun n => .d (.int .u32 (n : Nat))
/-- What has been made lies at 20, its code at 3172 or 3223, its labels at 57, their places at 69, its uses at 3157. -/
structure Made (gr : Nat) (st : Sta) (g : Nat → Nat) (ob : Obs) : Prop where
  gen : g 20 = gr
  obj : ∃ cc lc pc uc, ob 20 = some [cc, .d (.int .i64 (st.data : Nat)), lc, pc, uc, .d (.bool st.hasD)] ∧
    ((st.code = [] ∧ cc = .d .nsl) ∨ (st.code ≠ [] ∧ ∃ ci, (ci = 3172 ∨ ci = 3223) ∧ cc = .osl ci (g ci) 1 0 st.code.length ∧ ob ci = some (codeC st.code))) ∧
    ((st.labs = [] ∧ lc = .d .nsl ∧ pc = .d .nsl) ∨ (st.labs ≠ [] ∧ lc = .osl 57 (g 57) 1 0 st.labs.length ∧ pc = .osl 69 (g 69) 1 0 st.labs.length ∧ ob 57 = some (st.labs.map fun p => .d (.str p.1)) ∧ ob 69 = some (st.labs.map fun p => .d (.int .i64 (p.2 : Nat))))) ∧
    ((st.uses = [] ∧ uc = .d .nsl) ∨ (st.uses ≠ [] ∧ uc = .osl 3157 (g 3157) 3 0 st.uses.length ∧ ob 3157 = some (st.uses.flatMap useR)))

theorem Made.of {gr : Nat} {st : Sta} {g g' : Nat → Nat} {ob ob' : Obs} (h : Made gr st g ob) (hg : ∀ i, i = 20 ∨ i = 57 ∨ i = 69 ∨ i = 3157 ∨ i = 3172 ∨ i = 3223 → g' i = g i) (ho : ∀ i, i = 20 ∨ i = 57 ∨ i = 69 ∨ i = 3157 ∨ i = 3172 ∨ i = 3223 → ob' i = ob i) : Made gr st g' ob' := by
  obtain ⟨h1, cc, lc, pc, uc, h2, hc, hl, hu⟩ := h
  refine ⟨by rw [hg 20 (by decide)]; exact h1, cc, lc, pc, uc, by rw [ho 20 (by decide)]; exact h2, ?_, ?_, ?_⟩
  · rcases hc with hc | ⟨c0, ci, c1, c2, c3⟩
    · exact .inl hc
    · refine .inr ⟨c0, ci, c1, ?_, ?_⟩
      · rw [hg ci (by omega)]; exact c2
      · rw [ho ci (by omega)]; exact c3
  · rw [hg 57 (by decide), hg 69 (by decide), ho 57 (by decide), ho 69 (by decide)]; exact hl
  · rw [hg 3157 (by decide), ho 3157 (by decide)]; exact hu

def placeI (labs : List (Str × Nat)) (s : Str) : Int := match Asm.placeOf labs s with | some p => (p : Int) | none => -1

theorem placeOf_cons {l : Str × Nat} {labs : List (Str × Nat)} {s : Str} : Asm.placeOf (l :: labs) s = if l.1 = s then some l.2 else Asm.placeOf labs s := by
  unfold Asm.placeOf
  rw [List.find?_cons]
  by_cases h : l.1 = s
  · simp [h]
  · simp [h]

set_option maxHeartbeats 4000000 in
theorem place_A {gr : Nat} {st : Sta} {g : Nat → Nat} {ob : Obs} (h : Made gr st g ob) (s : Str) (hn : st.labs.length ≤ 1000000) :
    FunR Tryz.prog 18 [.one (.ptr 20 gr 0), sv s] g ob (fun r g' ob' => r = iv .i64 (placeI st.labs s) ∧ g' = g ∧ ob' = ob) := by
  refine fun_of_wp 7000 Tt_ok mixed Tryz.func18 rfl (by rfl) [4] rfl (by kernel_rfl) (by simp [Tryz.ntmps18]) ?_
  obtain ⟨hg, cc, lc, pc, uc, h20, hc, hl, hu⟩ := h
  simp (config := { maxSteps := 1000000 }) only [go_sem,↓reduceIte]
  refine loop_introB (fun n s' => ∃ k : Nat, n + k = st.labs.length ∧ s'.gen = g ∧ s'.obj = ob ∧ s'.f 0 = .one (.ptr 20 gr 0) ∧ s'.f 1 = sv s ∧ s'.f 5 = iv .i64 k ∧ placeI st.labs s = placeI (st.labs.drop k) s) st.labs.length ?_ ?_
  · refine ⟨0, by omega, rfl, rfl, ?_⟩
    simp (config := { maxSteps := 1000000 }) only [go_sem,↓reduceIte,List.drop_zero]
    try trivial
  rintro n f g1 ob1 ⟨k, hk, e1, e2, q0, q1, q5, hp⟩
  obtain rfl : g1 = g := e1
  obtain rfl : ob1 = ob := e2
  simp only at q0 q1 q5
  have hw := wrap_succ (k := k) (by omega)
  rcases hl with ⟨l1, rfl, rfl⟩ | ⟨l1, rfl, rfl, l57, l69⟩
  · have hk0 : k = 0 := by rw [l1] at hk; simp at hk; omega
    subst hk0
    have hz : ((0 : Nat) : Int) = 0 := rfl
    simp (config := { maxSteps := 1000000 }) only [go_sem,↓reduceIte,q0, q1, q5, h20, hg, hz]
    refine retF_at ⟨?_, rfl, rfl⟩
    rw [l1]; rfl
  · by_cases hlt : k < st.labs.length
    · obtain ⟨x, hx⟩ := getq hlt
      have hki : (k : Int) < (st.labs.length : Int) := by omega
      have hk0 : (0 : Int) ≤ (k : Int) := by omega
      have g57 : (st.labs.map fun p => C.d (.str p.1))[k]? = some (.d (.str x.1)) := by rw [List.getElem?_map, hx]; rfl
      have g69 : (st.labs.map fun p => C.d (.int .i64 (p.2 : Nat)))[k]? = some (.d (.int .i64 (x.2 : Nat))) := by rw [List.getElem?_map, hx]; rfl
      have hdr : st.labs.drop k = x :: st.labs.drop (k + 1) := by rw [List.drop_eq_getElem_cons hlt]; congr 1; exact (List.getElem?_eq_some_iff.1 hx).2
      rw [hdr] at hp
      simp (config := { maxSteps := 1000000 }) only [go_sem,↓reduceIte,q0, q1, q5, h20, hg, l57, l69, hki, hk0, g57, g69, Int.toNat_natCast, Nat.mul_one, Nat.zero_add, hw]
      have hpl : placeI (x :: st.labs.drop (k + 1)) s = if x.1 = s then (x.2 : Int) else placeI (st.labs.drop (k + 1)) s := by
        unfold placeI; rw [placeOf_cons]
        by_cases e : x.1 = s
        · rw [if_pos e, if_pos e]
        · rw [if_neg e, if_neg e]
      refine ⟨fun e => ?_, fun e => ?_⟩
      · refine retF_at ⟨?_, rfl, rfl⟩
        rw [hp, hpl, if_pos e]; rfl
      · refine round_endB (n - 1) (by omega) ⟨k + 1, by omega, ?_⟩
        simp (config := { maxSteps := 1000000 }) only [go_sem,↓reduceIte,q0, q1]
        rw [hp, hpl, if_neg e]
    · have hki : ¬ (k : Int) < (st.labs.length : Int) := by omega
      simp (config := { maxSteps := 1000000 }) only [go_sem,↓reduceIte,q0, q1, q5, h20, hg, l57, l69, hki]
      refine retF_at ⟨?_, rfl, rfl⟩
      rw [hp, List.drop_eq_nil_of_le (by omega)]; rfl

theorem shI_len (k : Nat) : (shI k).length ≤ 3 := by
  unfold shI
  rcases shape_cases k with s | s | s | s | s | s | s <;> rw [s] <;> decide
theorem shapeS_len (s : Str) : (shapeS s).length ≤ 3 := by
  unfold shapeS
  split
  · decide
  · split
    · decide
    · exact shI_len _

def OutM (gr : Nat) (R : Res Sta) (g : Nat → Nat) (ob : Obs) (r : AV) (g' : Nat → Nat) (ob' : Obs) : Prop :=
  (∀ i, i < 3000 → g' i = g i) ∧ (∀ i, i ≠ 20 → i < 3000 → ob' i = ob i) ∧ match R with | .ok st => r = iv .i64 0 ∧ Made gr st g' ob' | .err e => r = iv .i64 (e : Nat)

def fC (f : List Int) : List C := f.map fun v => .d (.int .i64 v)

theorem regI_le (a : Str) : regI a ≤ 15 := by
  unfold regI
  split
  · rename_i n h; have := regOf_le h; omega
  · decide
theorem foldF_at {op : Str} {sh : Str} {args : List Str} {k : Nat} {c : UInt8} {a : Str} {x : FX} (hc : sh[k]? = some c) (ha : args[k]? = some a) : foldF op (sh.drop k) (args.drop k) k x = (stepF op c a k x).bind (foldF op (sh.drop (k + 1)) (args.drop (k + 1)) (k + 1)) := by
  obtain ⟨h1, h2⟩ := List.getElem?_eq_some_iff.1 hc
  obtain ⟨h3, h4⟩ := List.getElem?_eq_some_iff.1 ha
  rw [List.drop_eq_getElem_cons h1, List.drop_eq_getElem_cons h3, h2, h4]
  rfl
theorem foldF_end {op : Str} {sh : Str} {args : List Str} {k : Nat} {x : FX} (hc : sh.length ≤ k) : foldF op (sh.drop k) (args.drop k) k x = some x := by
  rw [List.drop_eq_nil_of_le hc]; unfold foldF; rfl

def CodeAt (code : List Nat) (g : Nat → Nat) (ob : Obs) (cc : C) : Prop := (code = [] ∧ cc = .d .nsl) ∨ (code ≠ [] ∧ ∃ ci, (ci = 3172 ∨ ci = 3223) ∧ cc = .osl ci (g ci) 1 0 code.length ∧ ob ci = some (codeC code))
theorem CodeAt.of {code : List Nat} {g g' : Nat → Nat} {ob ob' : Obs} {cc : C} (h : CodeAt code g ob cc) (hg : ∀ i, i = 3172 ∨ i = 3223 → g' i = g i) (ho : ∀ i, i = 3172 ∨ i = 3223 → ob' i = ob i) : CodeAt code g' ob' cc := by
  rcases h with h | ⟨c0, ci, c1, c2, c3⟩
  · exact .inl h
  · exact .inr ⟨c0, ci, c1, by rw [hg ci c1]; exact c2, by rw [ho ci c1]; exact c3⟩
theorem flatR_len (us : List (Nat × Nat × Str)) : (us.flatMap useR).length = us.length * 3 := by
  induction us with
  | nil => rfl
  | cons u us ih => rw [List.flatMap_cons, List.length_append, ih]; simp [useR]; omega
theorem flatR_take (us : List (Nat × Nat × Str)) : (us.flatMap useR).take (us.length * 3) = us.flatMap useR := List.take_of_length_le (Nat.le_of_eq (flatR_len us))
theorem codeC_len (c : List Nat) : (codeC c).length = c.length := List.length_map _
theorem far {i : Nat} (h : i < 3000) : ¬ i = 3010 ∧ ¬ i = 3017 ∧ ¬ i = 3156 ∧ ¬ i = 3157 ∧ ¬ i = 3171 ∧ ¬ i = 3172 ∧ ¬ i = 3222 ∧ ¬ i = 3223 := by omega
theorem Enc_X (k : Nat) (a b c : Int) : PureR Tryz.prog 42 [instV k a b c] (fun r => ∃ e : Nat, r = .tup [iv .u32 (encX k (a, b, c) : Nat), iv .i64 e]) := by
  refine (EncodeR_A k a b c).mono ?_
  rintro _ rfl
  unfold encX
  by_cases h : rightI k a b c = true
  · rw [if_pos h, if_pos h]; exact ⟨0, rfl⟩
  · rw [if_neg h, if_neg h]; exact ⟨1, rfl⟩
theorem endA_data {line : Nat} {st : Sta} {op xl : Str} {a b d : Nat} (h : op = dataW) : endA line st op ([(a : Int), (b : Int), (d : Int)], false, xl) = .ok { st with data := a, hasD := true } := by
  unfold endA; simp [h]
theorem endA_full {line : Nat} {st : Sta} {op xl : Str} {f : List Int} (h : op ≠ dataW) (hl : st.code.length = 16384) : endA line st op (f, false, xl) = .err 2 := by
  unfold endA; simp [h, hl]
theorem endA_word {line : Nat} {st : Sta} {op xl : Str} {a b d : Nat} (h : op = wordW) (hl : ¬ st.code.length = 16384) : endA line st op ([(a : Int), (b : Int), (d : Int)], false, xl) = .ok (addX (useX st line xl) a) := by
  have : ¬ wordW = dataW := by decide
  unfold endA; simp [h, hl, this]
theorem endA_ins {line : Nat} {st : Sta} {op xl : Str} {f : List Int} (h : op ≠ wordW) (h2 : op ≠ dataW) (hl : ¬ st.code.length = 16384) : endA line st op (f, false, xl) = .ok (addX (useX st line xl) (encX (opNum op) (fieldsX (shapeS op) f))) := by
  unfold endA; simp [h, h2, hl]

end Go.Proofs.YthclfagbojkbjabGreatDoor

/- A part of the proof; no conditions. -/
import Derived.Test.YtiaalcpkhlnpcabGreatDoorPart12
set_option linter.unusedSimpArgs false
set_option linter.unusedVariables false

namespace Go.Proofs.YtiaalcpkhlnpcabGreatDoor
open Go Go.Am Go.Asm

def signR : Option Str → Src.R (Nat × Str × Nat)
  | some t => .ok (4, t, 0)
  | none => .err 3

theorem firstT_cons (c : UInt8) (r : Str) : Src.firstT (c :: r) = if digit c = true then (if 4294967295 < decN ((c :: r).takeWhile digit) then .err 2 else .ok (2, (c :: r).takeWhile digit, decN ((c :: r).takeWhile digit)))
    else if c = 39 then byteT (c :: r) else if letter c = true then nameT ((c :: r).takeWhile nameC)
    else signR (Src.signsT.find? fun t => t.isPrefixOf (c :: r)) := by
  unfold Src.firstT nameT
  by_cases hd : digit c = true
  · simp only [hd, if_true]
  simp only [hd, if_false]
  by_cases h39 : c = 39
  · simp only [h39, if_true]
    match r with
    | [] => rfl
    | [_] => rfl
    | x :: y :: r => rfl
  · simp only [h39, if_false]
    rfl

theorem find_take {α : Type} {p : α → Bool} {l : List α} {k : Nat} {x : α} (h : ∀ y ∈ l.take k, p y = false) (hx : l[k]? = some x) (hp : p x = true) : l.find? p = some x := by
  have hk := (List.getElem?_eq_some_iff.1 hx).1
  rw [← List.take_append_drop k l, List.find?_append, List.find?_eq_none.2 (fun y hy => by rw [h y hy]; simp)]
  have : l.drop k = x :: l.drop (k + 1) := by
    rw [List.drop_eq_getElem_cons hk]
    congr 1
    exact Option.some.inj ((List.getElem?_eq_getElem hk).symm.trans hx)
  rw [this, List.find?_cons, hp]
  rfl

theorem oneV_num {k v : Nat} {t : Str} : oneV (.ok (k, t, v)) = .tup [.agg [.d (.int .i64 (k : Nat)), .d (.str t), .d (.int .u32 (v : Nat)), .d (.int .i64 ((0 : Nat) : Int))], iv .i64 0] := rfl
theorem oneV_err {e : Nat} : oneV (.err e) = .tup [.agg [.d (.int .i64 ((0 : Nat) : Int)), .d (.str []), .d (.int .u32 ((0 : Nat) : Int)), .d (.int .i64 ((0 : Nat) : Int))], iv .i64 (e : Nat)] := rfl

set_option maxHeartbeats 4000000 in
theorem first_digit {o : Hold} (c : UInt8) (s : Str) (h0 : s[0]? = some c) (hs : s.length ≤ 1000000) (hd : digit c = true) {x : Src.R (Nat × Str × Nat)} (hx : (if 4294967295 < decN (s.takeWhile digit) then .err 2 else .ok (2, s.takeWhile digit, decN (s.takeWhile digit))) = x) :
    PureG Tryz.prog 5 o 95 [sv s] (· = oneV x) := by
  refine pure_of_wpG2 0 5 o Tt_ok mixed Tryz.func95 rfl (by rfl) [.cell 2 139, .tmp 3] rfl (by kernel_rfl) (by kernel_rfl) (by simp [Tryz.ntmps95]) fun b₀ β0 s0 w0 g => ?_
  have hD := digitT_A c
  rw [hd] at hD
  have hl := Nat.le_trans (List.takeWhile_sublist digit (l := s)).length_le hs
  have hN := numberOf_A (s.takeWhile digit) (by omega) List.all_takeWhile
  rw [hx] at hN
  have hfr := front_A digitT_A s (by omega)
  generalize s.takeWhile digit = u at hN hfr hx
  simp (config := { maxSteps := 1000000 }) only [go_sem,↓reduceIte,h0]
  refine hook_callF kept_phiG rfl (by simp (config := { maxSteps := 1000000 }) only [go_sem,↓reduceIte]; exact hD) (by simp (config := { maxSteps := 1000000 }) only [go_sem,↓reduceIte]; rfl) ?_
  rintro _ rfl
  simp (config := { maxSteps := 1000000 }) only [go_sem,↓reduceIte]
  refine hook_callF kept_phiG rfl (by simp (config := { maxSteps := 1000000 }) only [go_sem,↓reduceIte]; exact hfr) (by simp (config := { maxSteps := 1000000 }) only [go_sem,↓reduceIte]; rfl) ?_
  rintro _ rfl
  simp (config := { maxSteps := 1000000 }) only [go_sem,↓reduceIte]
  refine hook_callF kept_phiG rfl (by simp (config := { maxSteps := 1000000 }) only [go_sem,↓reduceIte]; exact hN) (by simp (config := { maxSteps := 1000000 }) only [go_sem,↓reduceIte]; rfl) ?_
  rintro _ rfl
  cases x with
  | ok y =>
    obtain ⟨k, t, v⟩ := y
    rw [oneV_num]
    simp (config := { maxSteps := 1000000 }) only [go_sem,↓reduceIte]
    exact ⟨_, frz_tok (e := 0), rfl⟩
  | err e =>
    rw [oneV_err]
    simp (config := { maxSteps := 1000000 }) only [go_sem,↓reduceIte]
    exact ⟨_, frz_tok (k := 0) (v := 0), rfl⟩

set_option maxHeartbeats 4000000 in
theorem first_mark {o : Hold} (s : Str) (h0 : s[0]? = some 39) : PureG Tryz.prog 5 o 95 [sv s] (· = oneV (byteT s)) := by
  refine pure_of_wpG2 0 5 o Tt_ok mixed Tryz.func95 rfl (by rfl) [.cell 2 139, .tmp 3] rfl (by kernel_rfl) (by kernel_rfl) (by simp [Tryz.ntmps95]) fun b₀ β0 s0 w0 g => ?_
  have hD := digitT_A 39
  rw [show digit 39 = false from rfl] at hD
  have hi : (((39 : UInt8).toNat : Nat) : Int) = 39 := rfl
  have hB := byteOf_A s
  generalize byteT s = x at hB ⊢
  simp (config := { maxSteps := 1000000 }) only [go_sem,↓reduceIte,h0]
  refine hook_callF kept_phiG rfl (by simp (config := { maxSteps := 1000000 }) only [go_sem,↓reduceIte]; exact hD) (by simp (config := { maxSteps := 1000000 }) only [go_sem,↓reduceIte]; rfl) ?_
  rintro _ rfl
  simp (config := { maxSteps := 1000000 }) only [go_sem,↓reduceIte,hi]
  refine hook_callF kept_phiG rfl (by simp (config := { maxSteps := 1000000 }) only [go_sem,↓reduceIte]; exact hB) (by simp (config := { maxSteps := 1000000 }) only [go_sem,↓reduceIte]; rfl) ?_
  rintro _ rfl
  cases x with
  | ok y =>
    obtain ⟨k, t, v⟩ := y
    rw [oneV_num]
    simp (config := { maxSteps := 1000000 }) only [go_sem,↓reduceIte]
    exact ⟨_, frz_tok (e := 0), rfl⟩
  | err e =>
    rw [oneV_err]
    simp (config := { maxSteps := 1000000 }) only [go_sem,↓reduceIte]
    exact ⟨_, frz_tok (k := 0) (v := 0), rfl⟩

set_option maxHeartbeats 4000000 in
theorem first_name {o : Hold} (ho : TokO o) (c : UInt8) (s : Str) (h0 : s[0]? = some c) (hs : s.length ≤ 1000000) (hd : digit c = false) (h39 : c ≠ 39) (hl : letter c = true) :
    PureG Tryz.prog 5 o 95 [sv s] (· = oneV (nameT (s.takeWhile nameC))) := by
  refine pure_of_wpG2 0 5 o Tt_ok mixed Tryz.func95 rfl (by rfl) [.cell 2 139, .tmp 3] rfl (by kernel_rfl) (by kernel_rfl) (by simp [Tryz.ntmps95]) fun b₀ β0 s0 w0 g => ?_
  have hD := digitT_A c
  rw [hd] at hD
  have hL := letterT_A c
  rw [hl] at hL
  have hi : ¬ ((c.toNat : Nat) : Int) = 39 := u8_ne (d := 39) h39
  have hfr := front_A inNameT_A s (by omega)
  have hN := nameOf_G ho (s.takeWhile nameC)
  generalize s.takeWhile nameC = u at hN hfr ⊢
  generalize nameT u = x at hN ⊢
  simp (config := { maxSteps := 1000000 }) only [go_sem,↓reduceIte,h0]
  refine hook_callF kept_phiG rfl (by simp (config := { maxSteps := 1000000 }) only [go_sem,↓reduceIte]; exact hD) (by simp (config := { maxSteps := 1000000 }) only [go_sem,↓reduceIte]; rfl) ?_
  rintro _ rfl
  simp (config := { maxSteps := 1000000 }) only [go_sem,↓reduceIte,hi]
  refine hook_callF kept_phiG rfl (by simp (config := { maxSteps := 1000000 }) only [go_sem,↓reduceIte]; exact hL) (by simp (config := { maxSteps := 1000000 }) only [go_sem,↓reduceIte]; rfl) ?_
  rintro _ rfl
  simp (config := { maxSteps := 1000000 }) only [go_sem,↓reduceIte]
  refine hook_callF kept_phiG rfl (by simp (config := { maxSteps := 1000000 }) only [go_sem,↓reduceIte]; exact hfr) (by simp (config := { maxSteps := 1000000 }) only [go_sem,↓reduceIte]; rfl) ?_
  rintro _ rfl
  simp (config := { maxSteps := 1000000 }) only [go_sem,↓reduceIte]
  refine hook_callG kept_phiG (fun s β ds w h => h.1.2) rfl (by simp (config := { maxSteps := 1000000 }) only [go_sem,↓reduceIte]; exact hN) (by simp (config := { maxSteps := 1000000 }) only [go_sem,↓reduceIte]; rfl) ?_
  rintro _ rfl
  cases x with
  | ok y =>
    obtain ⟨k, t, v⟩ := y
    rw [oneV_num]
    simp (config := { maxSteps := 1000000 }) only [go_sem,↓reduceIte]
    exact ⟨_, frz_tok (e := 0), rfl⟩
  | err e =>
    rw [oneV_err]
    simp (config := { maxSteps := 1000000 }) only [go_sem,↓reduceIte]
    exact ⟨_, frz_tok (k := 0) (v := 0), rfl⟩

set_option maxHeartbeats 8000000 in
theorem first_sign {o : Hold} (ho : TokO o) (c : UInt8) (s : Str) (h0 : s[0]? = some c) (hd : digit c = false) (h39 : c ≠ 39) (hl : letter c = false) {x : Option Str} (hx : Src.signsT.find? (fun t => t.isPrefixOf s) = x) :
    PureG Tryz.prog 5 o 95 [sv s] (· = oneV (signR x)) := by
  refine pure_of_wpG2 0 5 o Tt_ok mixed Tryz.func95 rfl (by rfl) [.cell 2 139, .tmp 3] rfl (by kernel_rfl) (by kernel_rfl) (by simp [Tryz.ntmps95]) fun b₀ β0 s0 w0 g => ?_
  have hD := digitT_A c
  rw [hd] at hD
  have hL := letterT_A c
  rw [hl] at hL
  have hi : ¬ ((c.toNat : Nat) : Int) = 39 := u8_ne (d := 39) h39
  have hsl : Src.signsT.length = 24 := rfl
  simp (config := { maxSteps := 1000000 }) only [go_sem,↓reduceIte,h0]
  refine hook_callF kept_phiG rfl (by simp (config := { maxSteps := 1000000 }) only [go_sem,↓reduceIte]; exact hD) (by simp (config := { maxSteps := 1000000 }) only [go_sem,↓reduceIte]; rfl) ?_
  rintro _ rfl
  simp (config := { maxSteps := 1000000 }) only [go_sem,↓reduceIte,hi]
  refine hook_callF kept_phiG rfl (by simp (config := { maxSteps := 1000000 }) only [go_sem,↓reduceIte]; exact hL) (by simp (config := { maxSteps := 1000000 }) only [go_sem,↓reduceIte]; rfl) ?_
  rintro _ rfl
  simp (config := { maxSteps := 1000000 }) only [go_sem,↓reduceIte]
  refine loop_introF (fun n st => ∃ k : Nat, n + k = 24 ∧ st.f 0 = sv s ∧ st.f 31 = iv .i64 k ∧ st.f 2 = .one (.ptr 2 (nxC 140 (g 2)) 0) ∧ st.gen 2 = nxC 140 (g 2) ∧ st.obj 2 = some [.d (.int .i64 0), .d (.str []), .d (.int .u32 0), .d (.int .i64 0)] ∧ ∀ t ∈ Src.signsT.take k, t.isPrefixOf s = false) 24 ?_ ?_
  · refine ⟨0, rfl, ?_⟩
    simp (config := { maxSteps := 1000000 }) only [go_sem,↓reduceIte]
    simp
  rintro n f g' ob ⟨k, hk, q0, q31, q2, g2, o2, hno⟩
  simp only at q0 q31 q2 g2 o2
  have hw := wrap_succ (k := k) (by omega)
  by_cases hlt : k < 24
  · have hlti : (k : Int) < 24 := by omega
    obtain ⟨t, ht⟩ := getq (l := Src.signsT) (k := k) (by omega)
    have hP := StrPrefix_A s t
    have hrow : ∀ w : World, Held 5 o w → ∀ (j : Nat) (x : D), ([D.str t] : List D)[j]? = some x → w.cell? ⟨2, k * (Tt 9).size + j, none⟩ = some (dV x) := fun w hw j x hx => by
      match j, hx with
      | 0, hx => cases hx; rw [show k * (Tt 9).size + 0 = k from by show k * 1 + 0 = k; omega]; exact (ho w hw).2 k t ht
    simp (config := { maxSteps := 1000000 }) only [go_sem,↓reduceIte,q0, q31, hlti]
    refine hook_gidx kept_phiG (fun s β ds w h => h.1.2) Tt_ok (n := 24) (e := 9) rfl rfl (by decide) (kd := .i64) (i := k) (by simp (config := { maxSteps := 1000000 }) only [go_sem,↓reduceIte,q31]) hlt (cs := [.str t]) (fun j x hx => by match j, hx with | 0, hx => cases hx; rfl) hrow ?_
    simp (config := { maxSteps := 1000000 }) only [go_sem,↓reduceIte,q0]
    refine hook_callF kept_phiG rfl (by simp (config := { maxSteps := 1000000 }) only [go_sem,↓reduceIte]; exact hP) (by simp (config := { maxSteps := 1000000 }) only [go_sem,↓reduceIte]; rfl) ?_
    rintro _ rfl
    cases hp : t.isPrefixOf s
    · simp (config := { maxSteps := 1000000 }) only [go_sem,↓reduceIte,q31, hw]
      refine round_endF (n - 1) (by omega) ⟨k + 1, by omega, ?_⟩
      simp (config := { maxSteps := 1000000 }) only [go_sem,↓reduceIte,q0, q2, g2, o2]
      rw [List.take_add_one, ht]
      intro x hx
      rcases List.mem_append.1 hx with hx | hx
      · exact hno x hx
      · simp at hx; rw [hx]; exact hp
    · rw [find_take (p := fun t => t.isPrefixOf s) hno ht hp] at hx
      subst hx
      simp (config := { maxSteps := 1000000 }) only [go_sem,↓reduceIte,q31, hlti]
      refine hook_gidx kept_phiG (fun s β ds w h => h.1.2) Tt_ok (n := 24) (e := 9) rfl rfl (by decide) (kd := .i64) (i := k) (by simp (config := { maxSteps := 1000000 }) only [go_sem,↓reduceIte,q31]) hlt (cs := [.str t]) (fun j x hx => by match j, hx with | 0, hx => cases hx; rfl) hrow ?_
      simp (config := { maxSteps := 1000000 }) only [go_sem,↓reduceIte,q2, g2, o2]
      exact ⟨_, frz_tok (k := 4) (v := 0) (e := 0), rfl⟩
  · obtain rfl : k = 24 := by omega
    rw [List.take_of_length_le (by rw [hsl]; decide)] at hno
    rw [List.find?_eq_none.2 (fun y hy => by rw [hno y hy]; simp)] at hx
    subst hx
    simp (config := { maxSteps := 1000000 }) only [go_sem,↓reduceIte,q0, q31, q2, g2, o2, show ¬ ((24 : Nat) : Int) < 24 by decide]
    exact ⟨_, frz_tok (k := 0) (v := 0) (e := 3), rfl⟩

theorem first_G {o : Hold} (ho : TokO o) (c : UInt8) (r : Str) (hs : (c :: r).length ≤ 1000000) : PureG Tryz.prog 5 o 95 [sv (c :: r)] (· = oneV (Src.firstT (c :: r))) := by
  rw [firstT_cons]
  cases hd : digit c with
  | true => rw [if_pos rfl]; exact first_digit c (c :: r) rfl hs hd rfl
  | false =>
    rw [if_neg (by simp)]
    by_cases h39 : c = 39
    · rw [if_pos h39]; exact first_mark (c :: r) (by rw [h39]; rfl)
    · rw [if_neg h39]
      cases hl : letter c with
      | true => rw [if_pos rfl]; exact first_name ho c (c :: r) rfl hs hd h39 hl
      | false => rw [if_neg (by simp)]; exact first_sign ho c (c :: r) rfl hd h39 hl rfl

end Go.Proofs.YtiaalcpkhlnpcabGreatDoor

namespace Go.Proofs.YtiaalcpkhlnpcabGreatDoor
open Go Go.Am Go.Asm

def toksD (l : List Src.Tok) : D := .sl (l.map tokC)
def lexV (r : List Src.Tok × Nat × Nat) : AV := .tup [.one (.d (toksD r.1)), iv .i64 (r.2.1 : Nat), iv .i64 (r.2.2 : Nat)]
def toksC (l : List Src.Tok) : List C := l.flatMap fun t => (tokC t).map .d

theorem toksC_len : ∀ l : List Src.Tok, (toksC l).length = l.length * 4
  | [] => rfl
  | t :: l => by have ih := toksC_len l; unfold toksC at ih ⊢; rw [List.flatMap_cons, List.length_append, ih]; simp only [tokC, List.length_map, List.length_cons, List.length_nil]; omega
theorem toksC_snoc (l : List Src.Tok) (t : Src.Tok) : toksC (l ++ [t]) = toksC l ++ (tokC t).map .d := by unfold toksC; rw [List.flatMap_append]; simp

/-- Tokens ahead of what comes. -/
def preT (l : List Src.Tok) : Src.R (List Src.Tok) × Nat → Src.R (List Src.Tok) × Nat
  | (.ok l', p) => (.ok (l ++ l'), p)
  | (.err e, p) => (.err e, p)
theorem preT_nil (x : Src.R (List Src.Tok) × Nat) : preT [] x = x := by obtain ⟨a, b⟩ := x; cases a <;> rfl
theorem preT_snoc (l : List Src.Tok) (t : Src.Tok) (x : Src.R (List Src.Tok) × Nat) : preT (l ++ [t]) x = preT l (preT [t] x) := by obtain ⟨a, b⟩ := x; cases a <;> simp [preT]

theorem drop_takeWhile {p : UInt8 → Bool} : ∀ s : Str, s.drop (s.takeWhile p).length = s.dropWhile p
  | [] => rfl
  | c :: s => by
    by_cases h : p c = true
    · rw [List.takeWhile_cons, if_pos h, List.dropWhile_cons, if_pos h, List.length_cons, List.drop_succ_cons, drop_takeWhile s]
    · rw [List.takeWhile_cons, if_neg h, List.dropWhile_cons, if_neg h]; rfl

theorem firstT_len {s t : Str} {k v : Nat} (h : Src.firstT s = .ok (k, t, v)) : 0 < t.length ∧ t.length ≤ s.length ∧ v < 4294967296 ∧ k ≤ 4 := by
  have hall : (Src.signsT.all fun t => decide (0 < t.length)) = true := by decide
  cases s with
  | nil => unfold Src.firstT at h; cases h
  | cons c r =>
    rw [firstT_cons] at h
    have hsub : ∀ p : UInt8 → Bool, ((c :: r).takeWhile p).length ≤ (c :: r).length := fun p => (List.takeWhile_sublist p).length_le
    split at h
    · rename_i hd
      split at h
      · cases h
      · cases h
        refine ⟨?_, hsub _, by omega, by decide⟩
        rw [List.takeWhile_cons, if_pos hd]; simp
    · split at h
      · unfold byteT at h
        split at h
        · rename_i x y r' hx
          split at h
          · cases h
            rename_i hh
            rw [hx]
            refine ⟨by simp, by simp, ?_, by decide⟩
            omega
          · cases h
        · cases h
      · split at h
        · rename_i hl
          unfold nameT at h
          split at h
          · cases h
          · have h0 : 0 < ((c :: r).takeWhile nameC).length := by
              rw [List.takeWhile_cons, if_pos (by unfold nameC; rw [hl]; rfl)]; simp
            split at h <;> cases h <;> exact ⟨h0, hsub _, by decide, by decide⟩
        · cases hf : Src.signsT.find? fun t => t.isPrefixOf (c :: r) with
          | some t' =>
            rw [hf] at h
            cases h
            have hm := List.mem_of_find?_eq_some hf
            have hp := List.find?_some hf
            refine ⟨of_decide_eq_true (List.all_eq_true.1 hall _ hm), ?_, by decide, by decide⟩
            exact (List.isPrefixOf_iff_prefix.1 hp).length_le
          | none => rw [hf] at h; cases h

theorem firstT_err {s : Str} {e : Nat} (hs : s ≠ []) (h : Src.firstT s = .err e) : e = 2 ∨ e = 3 := by
  cases s with
  | nil => exact absurd rfl hs
  | cons c r =>
    rw [firstT_cons] at h
    split at h
    · split at h
      · cases h; exact .inl rfl
      · cases h
    · split at h
      · unfold byteT at h
        split at h
        · split at h
          · cases h
          · cases h; exact .inr rfl
        · cases h; exact .inr rfl
      · split at h
        · unfold nameT at h
          split at h
          · cases h; exact .inl rfl
          · split at h <;> cases h
        · cases hf : Src.signsT.find? fun t => t.isPrefixOf (c :: r) with
          | some t' => rw [hf] at h; cases h
          | none => rw [hf] at h; cases h; exact .inr rfl

set_option maxRecDepth 20000 in
set_option maxHeartbeats 16000000 in
theorem Lex_G {o : Hold} (ho : TokO o) (s : Str) : PureG Tryz.prog 5 o 64 [sv s] (· = lexV (Src.lexA s)) := by
  refine pure_of_wpG2 0 5 o Tt_ok mixed Tryz.func64 rfl (by rfl) [.tmp 2, .tmp 3, .tmp 4] rfl (by kernel_rfl) (by kernel_rfl) (by simp [Tryz.ntmps64]) fun b₀ β0 s0 w0 g => ?_
  unfold Src.lexA
  by_cases hbig : 20000 < s.length
  · have hbi : (20000 : Int) < (s.length : Int) := by omega
    rw [if_pos hbig]
    simp (config := { maxSteps := 1000000 }) only [go_sem,↓reduceIte,hbi]
    exact ⟨_, ⟨_, ⟨_, _, rfl, frz1 .nsl, _, _, rfl, frz1 _, _, _, rfl, frz1 _, rfl⟩, rfl⟩, rfl⟩
  have hbi : ¬ (20000 : Int) < (s.length : Int) := by omega
  rw [if_neg hbig]
  simp (config := { maxSteps := 1000000 }) only [go_sem,↓reduceIte,hbi]
  refine loop_introF (fun n st => ∃ (k : Nat) (m : Nat) (l : List Src.Tok), n + k = s.length ∧ (s.drop k).length < m ∧ Src.lexGo (s.length + 1) 0 s = preT l (Src.lexGo m k (s.drop k)) ∧ l.length ≤ k ∧ st.f 0 = sv s ∧ st.f 6 = iv .i64 k ∧
    ((l = [] ∧ st.f 5 = .one (.d .nsl)) ∨ (l ≠ [] ∧ st.f 5 = .one (.osl 61 (st.gen 61) 4 0 l.length) ∧ st.obj 61 = some (toksC l)))) s.length ?_ ?_
  · refine ⟨0, s.length + 1, [], by omega, by simp, by rw [preT_nil]; rfl, by simp, ?_⟩
    simp (config := { maxSteps := 1000000 }) only [go_sem,↓reduceIte]
    exact .inl trivial
  rintro n f g' ob ⟨k, m, l, hk, hm, hL, hlk, q0, q6, q5⟩
  simp only at q0 q6 q5
  have hk0 : (0 : Int) ≤ (k : Int) := by omega
  by_cases hlt : k < s.length
  case neg =>
    have hlti : ¬ (k : Int) < (s.length : Int) := by omega
    rw [List.drop_of_length_le (by omega)] at hL
    obtain ⟨m', rfl⟩ : ∃ m', m = m' + 1 := ⟨m - 1, by omega⟩
    rw [hL]
    have hend : ∀ k, preT l (Src.lexGo (m' + 1) k []) = (.ok l, 0) := fun k => by unfold Src.lexGo preT; simp
    rw [hend]
    rcases q5 with ⟨rfl, q5⟩ | ⟨hne, q5, o5⟩
    · simp (config := { maxSteps := 1000000 }) only [go_sem,↓reduceIte,q0, q6, q5, hlti]
      exact ⟨_, ⟨_, ⟨_, _, rfl, frz1 .nsl, _, _, rfl, frz1 _, _, _, rfl, frz1 _, rfl⟩, rfl⟩, rfl⟩
    · simp (config := { maxSteps := 1000000 }) only [go_sem,↓reduceIte,q0, q6, q5, hlti]
      exact ⟨_, ⟨_, ⟨_, _, rfl, frzOneT (frz_rows rfl l tokC (by simp [upd, o5, toksC]) rfl (fun t _ x hx => by simp only [tokC, List.mem_cons, List.not_mem_nil, or_false] at hx; rcases hx with rfl | rfl | rfl | rfl <;> rfl) (fun _ _ => rfl) rfl), _, _, rfl, frz1 _, _, _, rfl, frz1 _, rfl⟩, rfl⟩, rfl⟩
  have hlti : (k : Int) < (s.length : Int) := by omega
  obtain ⟨c, hc⟩ := getq hlt
  have hdrop : s.drop k = c :: s.drop (k + 1) := by
    rw [List.drop_eq_getElem_cons hlt]
    congr 1
    exact Option.some.inj ((List.getElem?_eq_getElem hlt).symm.trans hc)
  obtain ⟨m', rfl⟩ : ∃ m', m = m' + 1 := ⟨m - 1, by omega⟩
  have hml : (s.drop (k + 1)).length < m' := by rw [hdrop] at hm; simp only [List.length_cons] at hm; omega
  have hw := wrap_succ (k := k) (by omega)
  have hgo : ∀ k r, Src.lexGo (m' + 1) k (c :: r) = if c = 32 ∨ c = 9 ∨ c = 10 then Src.lexGo m' (k + 1) r
      else if c = 47 ∧ r.head? = some 47 then Src.lexGo m' (k + ((c :: r).takeWhile (· != 10)).length) ((c :: r).dropWhile (· != 10))
      else match Src.firstT (c :: r) with
        | .err e => (.err e, k)
        | .ok (kd, t, v) => preT [⟨kd, t, v, k⟩] (Src.lexGo m' (k + t.length) ((c :: r).drop t.length)) := by
    intro k r
    conv => lhs; unfold Src.lexGo
    split
    · rfl
    · split
      · rfl
      · split
        · rename_i h; rw [h]
        · rename_i kd t v h
          rw [h]
          simp only
          rcases Src.lexGo m' (k + t.length) ((c :: r).drop t.length) with ⟨a, b⟩
          cases a <;> rfl
  rw [hdrop, hgo] at hL
  by_cases hbl : c = 32 ∨ c = 9 ∨ c = 10
  · rw [if_pos hbl] at hL
    have hstep : (((c.toNat : Nat) : Int) = 32) ∨ (¬ ((c.toNat : Nat) : Int) = 32 ∧ ((c.toNat : Nat) : Int) = 9) ∨ (¬ ((c.toNat : Nat) : Int) = 32 ∧ ¬ ((c.toNat : Nat) : Int) = 9 ∧ ((c.toNat : Nat) : Int) = 10) := by
      rcases hbl with rfl | rfl | rfl
      · exact .inl rfl
      · exact .inr (.inl ⟨by decide, rfl⟩)
      · exact .inr (.inr ⟨by decide, by decide, rfl⟩)
    rcases hstep with h1 | ⟨h1, h2⟩ | ⟨h1, h2, h3⟩
    case' inl => simp (config := { maxSteps := 1000000 }) only [go_sem,↓reduceIte,q0, q6, hlti, hc, hk0, h1, hw]
    case' inr.inl => simp (config := { maxSteps := 1000000 }) only [go_sem,↓reduceIte,q0, q6, hlti, hc, hk0, h1, h2, hw]
    case' inr.inr => simp (config := { maxSteps := 1000000 }) only [go_sem,↓reduceIte,q0, q6, hlti, hc, hk0, h1, h2, h3, hw]
    all_goals
      refine round_endF (n - 1) (by omega) ⟨k + 1, m', l, by omega, hml, hL, by omega, ?_⟩
      simp (config := { maxSteps := 1000000 }) only [go_sem,↓reduceIte,q0]
      exact q5
  rw [if_neg hbl] at hL
  have b1 : ¬ ((c.toNat : Nat) : Int) = 32 := u8_ne (d := 32) fun h => hbl (.inl h)
  have b2 : ¬ ((c.toNat : Nat) : Int) = 9 := u8_ne (d := 9) fun h => hbl (.inr (.inl h))
  have b3 : ¬ ((c.toNat : Nat) : Int) = 10 := u8_ne (d := 10) fun h => hbl (.inr (.inr h))
  have hsl : List.drop k (List.take s.length s) = s.drop k := by rw [List.take_length]
  have hdl : (s.drop k).length ≤ 1000000 := by rw [List.length_drop]; omega
  simp (config := { maxSteps := 1000000 }) only [go_sem,↓reduceIte,q0, q6, hlti, hc, hk0, b1, b2, b3, hsl]
  refine ⟨by omega, by omega, ?_⟩
  refine hook_callF kept_phiG rfl (by simp (config := { maxSteps := 1000000 }) only [go_sem,↓reduceIte]; exact StrPrefix_A (s.drop k) [47, 47]) (by simp (config := { maxSteps := 1000000 }) only [go_sem,↓reduceIte]; rfl) ?_
  rintro _ rfl
  cases hp : ([47, 47] : Str).isPrefixOf (s.drop k)
  case true =>
    obtain ⟨r2, hr2⟩ := List.isPrefixOf_iff_prefix.1 hp
    have hcm : c = 47 ∧ (s.drop (k + 1)).head? = some 47 := by
      rw [hdrop] at hr2
      simp only [List.cons_append, List.nil_append, List.cons.injEq] at hr2
      exact ⟨hr2.1.symm, by rw [← hr2.2]; rfl⟩
    rw [if_pos hcm, ← hdrop, ← drop_takeWhile, List.drop_drop] at hL
    have htl : ((s.drop k).takeWhile (· != 10)).length ≤ (s.drop k).length := (List.takeWhile_sublist _).length_le
    have ht1 : 1 ≤ ((s.drop k).takeWhile (· != 10)).length := by
      rw [hdrop, List.takeWhile_cons, if_pos (by rw [hcm.1]; rfl)]; simp
    have hdl2 : (s.drop k).length = s.length - k := List.length_drop
    generalize hT : ((s.drop k).takeWhile (· != 10)).length = T at hL htl ht1
    have hw2 : IntKind.i64.wrap ((k : Int) + (T : Int)) = ((k + T : Nat) : Int) := by rw [wrap_i64] <;> omega
    simp (config := { maxSteps := 1000000 }) only [go_sem,↓reduceIte,q0, q6, hk0, hsl]
    refine ⟨by omega, by omega, ?_⟩
    refine hook_callF kept_phiG rfl (by simp (config := { maxSteps := 1000000 }) only [go_sem,↓reduceIte]; exact front_A lineT_A (s.drop k) (by omega)) (by simp (config := { maxSteps := 1000000 }) only [go_sem,↓reduceIte]; rfl) ?_
    rintro _ rfl
    simp (config := { maxSteps := 1000000 }) only [go_sem,↓reduceIte,hT, hw2, q6]
    refine round_endF (n - T) (by omega) ⟨k + T, m', l, by omega, by rw [List.length_drop]; rw [List.length_drop] at hml; omega, hL, by omega, ?_⟩
    simp (config := { maxSteps := 1000000 }) only [go_sem,↓reduceIte,q0]
    exact q5
  have hncm : ¬ (c = 47 ∧ (s.drop (k + 1)).head? = some 47) := by
    rintro ⟨h1, h2⟩
    rw [hdrop, h1] at hp
    cases hr : s.drop (k + 1) with
    | nil => rw [hr] at h2; cases h2
    | cons x y =>
      rw [hr] at h2 hp
      simp only [List.head?_cons, Option.some.injEq] at h2
      rw [h2] at hp
      simp [List.isPrefixOf] at hp
  rw [if_neg hncm] at hL
  have hF := first_G ho c (s.drop (k + 1)) (by rw [← hdrop]; exact hdl)
  rw [← hdrop] at hF hL
  simp (config := { maxSteps := 1000000 }) only [go_sem,↓reduceIte,q0, q6, hk0, hsl]
  refine ⟨by omega, by omega, ?_⟩
  refine hook_callG kept_phiG (fun s β ds w h => h.1.2) rfl (by simp (config := { maxSteps := 1000000 }) only [go_sem,↓reduceIte]; exact hF) (by simp (config := { maxSteps := 1000000 }) only [go_sem,↓reduceIte]; rfl) ?_
  rintro _ rfl
  cases hf : Src.firstT (s.drop k) with
  | err e =>
    have he : e = 2 ∨ e = 3 := firstT_err (by rw [hdrop]; simp) hf
    have hei : ¬ (e : Int) = 0 := by omega
    rw [hf] at hL
    simp only [preT] at hL
    rw [hL]
    unfold oneV tokV tokC
    simp (config := { maxSteps := 1000000 }) only [go_sem,↓reduceIte,List.map_cons, List.map_nil, hei, q6]
    exact ⟨_, ⟨_, ⟨_, _, rfl, frz1 .nsl, _, _, rfl, frz1 _, _, _, rfl, frz1 _, rfl⟩, rfl⟩, rfl⟩
  | ok x =>
    obtain ⟨kd, t, v⟩ := x
    obtain ⟨t1, t2, t3, t4⟩ := firstT_len hf
    rw [hf] at hL
    simp only at hL
    rw [List.drop_drop, ← preT_snoc] at hL
    have hdl2 : (s.drop k).length = s.length - k := List.length_drop
    have hw2 : IntKind.i64.wrap ((k : Int) + (t.length : Int)) = ((k + t.length : Nat) : Int) := by rw [wrap_i64] <;> omega
    unfold oneV tokV tokC
    rcases q5 with ⟨rfl, q5⟩ | ⟨hne, q5, o5⟩
    · simp (config := { maxSteps := 1000000 }) only [go_sem,↓reduceIte,List.map_cons, List.map_nil, q6, q5, elemTy, hw2]
      refine ⟨⟨by decide, by decide⟩, ?_⟩
      refine round_endF (n - t.length) (by omega) ⟨k + t.length, m', [⟨kd, t, v, k⟩], by omega, by rw [List.length_drop]; rw [List.length_drop] at hml; omega, hL, by simp; omega, ?_⟩
      simp (config := { maxSteps := 1000000 }) only [go_sem,↓reduceIte,q0]
      first | exact .inr rfl | exact .inr ⟨by simp, rfl⟩ | exact .inr ⟨by simp, rfl, rfl⟩
    · have htc := toksC_len l
      simp (config := { maxSteps := 1000000 }) only [go_sem,↓reduceIte,List.map_cons, List.map_nil, q6, q5, o5, elemTy, hw2]
      refine ⟨by omega, ⟨by decide, by omega⟩, ?_⟩
      refine round_endF (n - t.length) (by omega) ⟨k + t.length, m', l ++ [⟨kd, t, v, k⟩], by omega, by rw [List.length_drop]; rw [List.length_drop] at hml; omega, hL, by simp; omega, ?_⟩
      simp (config := { maxSteps := 1000000 }) only [go_sem,↓reduceIte,q0]
      refine .inr ⟨by simp, by simp, ?_⟩
      rw [toksC_snoc, List.take_of_length_le (by omega)]
      rfl

end Go.Proofs.YtiaalcpkhlnpcabGreatDoor

namespace Go.Am

/-- What holds where a call panics: of the chain, and of the objects. -/
abbrev Pan := List PanicEntry → (Nat → Nat) → Obs → Prop
def Pan.on (Ψ : Pan) : PanF := fun ch s => Ψ ch s.gen s.obj

section
variable {P : Program} {T : Nat → TI} {b₀ : Bs} {β : Loc} {w : World} {B : Nat} {Ψ : Pan} {rd : Option Nat} {Φ : St → Loc → List Deferred → World → Prop}

/-- How a call may end: it returns, or it panics. -/
def EndX (b₀ : Bs) (β : Loc) (fa : Nat → AV) (g : Nat → Nat) (ob : Obs) (w : World) (R : AV → (Nat → Nat) → Obs → Prop) (Ψ : Pan) (e : Ending) (w' : World) : Prop :=
  (∃ v r g' ob' β', e = .returned v ∧ R r g' ob' ∧ RepV b₀ β' g' ob' w' r v ∧
      (∀ id cells, ob' id = some cells → ObjAt b₀ β' g' ob' w' (g' id) cells (β' id)) ∧ (∀ id id' a a', (ob' id).isSome = true → (ob' id').isSome = true → β' id = some a → β' id' = some a' → a.block = a'.block → id = id') ∧
      Tr b₀ β ⟨fa, g, ob⟩ w β' ⟨fa, g', ob'⟩ w') ∨
  (∃ ch g' ob' β', e = .panicked ch ∧ Ψ ch g' ob' ∧
      (∀ id cells, ob' id = some cells → ObjAt b₀ β' g' ob' w' (g' id) cells (β' id)) ∧ (∀ id id' a a', (ob' id).isSome = true → (ob' id').isSome = true → β' id = some a → β' id' = some a' → a.block = a'.block → id = id') ∧
      Tr b₀ β ⟨fa, g, ob⟩ w β' ⟨fa, g', ob'⟩ w')

/-- A contract of a function that may panic. -/
def FunX (P : Program) (f : FuncId) (xs : List AV) (g : Nat → Nat) (ob : Obs) (R : AV → (Nat → Nat) → Obs → Prop) (Ψ : Pan) : Prop :=
  Fine P f ∧ ∀ (b₀ : Bs) (N : Nat) (β : Loc) (a : Act) (fa : Nat → AV) (w : World) (vs : List Value), Rel b₀ N ⟨fa, g, ob⟩ β a w → RepVs b₀ β g ob w xs vs →
    Calls P f vs.toArray w (EndX b₀ β fa g ob w R Ψ)

theorem FunR.toX {f : FuncId} {xs : List AV} {g : Nat → Nat} {ob : Obs} {R : AV → (Nat → Nat) → Obs → Prop} (h : FunR P f xs g ob R) : FunX P f xs g ob R Ψ :=
  ⟨h.1, fun b₀ N β a fa w vs h1 h2 => (h.2 b₀ N β a fa w vs h1 h2).mono fun _ _ q => .inl q⟩

theorem FunX.mono {f : FuncId} {xs : List AV} {g : Nat → Nat} {ob : Obs} {R R' : AV → (Nat → Nat) → Obs → Prop} {Ψ' : Pan} (h : FunX P f xs g ob R Ψ) (hr : ∀ r g' ob', R r g' ob' → R' r g' ob') (hp : ∀ ch g' ob', Ψ ch g' ob' → Ψ' ch g' ob') : FunX P f xs g ob R' Ψ' :=
  ⟨h.1, fun b₀ N β a fa w vs h1 h2 => (h.2 b₀ N β a fa w vs h1 h2).mono fun _ _ q => q.imp (fun ⟨v, r, g', ob', β', q1, q2, q3⟩ => ⟨v, r, g', ob', β', q1, hr _ _ _ q2, q3⟩) (fun ⟨ch, g', ob', β', q1, q2, q3⟩ => ⟨ch, g', ob', β', q1, hp _ _ _ q2, q3⟩)⟩

/-- What is true of all activations, and what they came from. -/
def PhiT (b₀ : Bs) (β0 : Loc) (s0 : St) (w0 : World) : St → Loc → List Deferred → World → Prop := fun s β ds w => ds = [] ∧ Tr b₀ β0 s0 w0 β s w
theorem kept_phiT {β0 : Loc} {s0 : St} {w0 : World} : KeptTr b₀ (PhiT b₀ β0 s0 w0) := fun _ _ _ _ _ _ _ h ht => ⟨h.1, h.2.trans ht⟩

/-- A function that may panic, by its body's abstract code. -/
theorem fun_of_wpX (B : Nat) (hT : TabOk P T) (hm : P.follows .mixedOrders = true) {f : FuncId} {fn : Func} {c : Code} (hf : P.funcs[f]? = some fn) (hb : fn.body = some c) (hn : (fn.name == "runtime.NumGoroutine") = false)
    (rs : List ResultVar) (hres : fn.results = rs.toArray) (hcm : calm2 c = true) (hok : codeOk fn.ntmps c = true) {xs : List AV} (hargs : xs.length ≤ fn.ntmps) {g : Nat → Nat} {ob : Obs} {R : AV → (Nat → Nat) → Obs → Prop}
    (h : ∀ b₀ β0 s0 w0, wpC (spF P none b₀ (PhiT b₀ β0 s0 w0) B Ψ.on) T c (bx (RetFR T rs R)) ⟨initF xs, g, ob⟩) : FunX P f xs g ob R Ψ := by
  refine ⟨⟨fn, hf, by rw [hb]; rfl, hn⟩, fun b₀ N β a fa w vs hr0 hv => ?_⟩
  refine calls_of_fen (n := 0) (callsIn_of_wp hf hb trivial ?_)
  have hr := rel_init (N := fn.ntmps) hargs hr0 hv
  refine wpIn_mono (wpC_soundF2 (rd := none) (B := B) (ds := []) hT hm kept_phiT c hcm hok hr ⟨rfl, Tr.refl⟩ (h b₀ β ⟨initF xs, g, ob⟩ w)) (fun e a' w' hp => ?_)
  obtain ⟨s', β', a0, ds', rfl, hQ, hr', rfl, ht⟩ := hp
  rcases hQ with hQ | ⟨ch, rfl, hQ⟩
  · have hres' : RetFR T rs R .ret s' → ∃ v, (results fn a0.tmps).run P w' = .ok v w' ∧ EndX b₀ β fa g ob w R Ψ (.returned v) w' := by
      rintro ⟨s2, hvs, hR⟩
      obtain ⟨β2, hr2, ht2⟩ := hvs b₀ fn.ntmps β' a0 w' hr'
      have hta := ht.trans ht2
      obtain ⟨v, avs, h1, h2, h3, _⟩ := evalR_results hT hr2 hres hR
      exact ⟨v, h1, .inl ⟨v, _, _, _, β2, rfl, h2, h3, hr2.obj, hr2.inj, ⟨hta.size, hta.old, hta.keep, hta.os⟩⟩⟩
    cases e with
    | normal => exact ⟨rfl, hres' hQ⟩
    | ret => exact ⟨rfl, hres' hQ⟩
    | exit id => exact hQ.elim
    | goto l => exact hQ.elim
    | panic ch => exact hQ.elim
    | outgrown => exact hQ.elim
  · exact ⟨rfl, .inr ⟨ch, _, _, β', rfl, hQ, hr'.obj, hr'.inj, ⟨ht.size, ht.old, ht.keep, ht.os⟩⟩⟩

/-- A call that may panic, as the walk meets it. -/
theorem hook_funX (hΦ : KeptTr b₀ Φ) {o : Oper} {s : St} {K : St → Prop} {k : Box K} {f : FuncId} {args : Array Operand} {tys : Array TypeId} (ho : o.op = .call ⟨.value (.func f), args, tys⟩) {R : AV → (Nat → Nat) → Obs → Prop}
    (hp : FunX P f (args.toList.map s.ev) s.gen s.obj R Ψ) (hk : ∀ r g' ob', R r g' ob' → K (St.put ⟨s.f, g', ob'⟩ o.dst r)) : hookA (spF P rd b₀ Φ B Ψ.on) o s k := by
  refine ⟨fun s' => ∃ r g' ob', R r g' ob' ∧ s' = St.put ⟨s.f, g', ob'⟩ o.dst r, fun N β a ds w hr hφ hdst next Q hn hx => ?_, fun _ ⟨r, g', ob', hr, e⟩ => e ▸ hk r g' ob' hr⟩
  have hnd : noDefer o = true := by simp [noDefer, ho]
  refine wp_fen hnd ?_
  unfold Oper.wp
  rw [run_call ho hp.1 w]
  simp only [Oper.upon]
  have := hp.2 b₀ N β a s.f w (args.toList.map a.eval) hr (args_rep hr _)
  rw [show (args.toList.map a.eval).toArray = args.map a.eval from Array.ext' (by simp)] at this
  refine this.mono fun e w' hE => ?_
  rcases hE with ⟨v, r, g', ob', β', he, hR, hv, h1, h2, h3⟩ | ⟨ch, g', ob', β', he, hΨ, h1, h2, h3⟩
  · subst he
    obtain ⟨k1, k2⟩ := call_back hr hdst hv h1 h2 h3
    exact ⟨k1.defers, hn _ β' _ w' ⟨r, g', ob', hR, rfl⟩ k1 (hΦ _ _ _ _ _ _ _ hφ k2)⟩
  · subst he
    have hk : Keep b₀ β s.gen s.obj w β' g' ob' w' := h3.keep
    have ht : Tr b₀ β s w β' ⟨s.f, g', ob'⟩ w' := ⟨h3.size, h3.old, hk, h3.os⟩
    exact hx ch ⟨s.f, g', ob'⟩ β' a w' hΨ ⟨hr.defers, hr.size, fun i => RepV.keep hk _ (hr.f i), h1, h2, Nat.le_trans hr.base h3.size⟩ (hΦ _ _ _ _ _ _ _ hφ ht)

/-- A panic. -/
theorem hook_panic {Ψ : PanF} {o : Oper} {s : St} {K : St → Prop} {k : Box K} {x : Operand} (ho : o.op = .panic x) {v : Value} (hv : ∀ (N : Nat) (β : Loc) (a : Act) (w : World), Rel b₀ N s β a w → (Instr.panic (a.eval x)).run P w = .halt (.panic v) w)
    (hk : Ψ [{ v, recovered := false }] s) : hookA (spF P rd b₀ Φ B Ψ) o s k := by
  refine ⟨fun _ => False, fun N β a ds w hr hφ hdst next Q hn hx => ?_, fun _ h => h.elim⟩
  have hnd : noDefer o = true := by simp [noDefer, ho]
  refine wp_fen hnd ?_
  unfold Oper.wp
  have : (execOp a.eval o).run P w = .halt (.panic v) w := by
    simp [execOp, ho, hv N β a w hr, Result.andThen]
  rw [this]
  exact hx _ s β a w hk hr hφ

end
end Go.Am

namespace Go.Am
section
variable {P : Program} {b₀ : Bs} {rd : Option Nat} {Φ : St → Loc → List Deferred → World → Prop} {B : Nat} {Ψ : PanF}

/-- A struct of one number becomes an interface's value. -/
theorem hook_iface (hΦ : KeptTr b₀ Φ) {o : Oper} {s : St} {K : St → Prop} {k : Box K} {t : TypeId} {x : Operand} (ho : o.op = .makeInterface t x) {fs : Array Field} (hu : P.underlying t = some (.struct fs)) {kd : IntKind} {n : Int}
    (hx : s.ev x = .agg [.d (.int kd n)]) (hk : K (s.put o.dst (.exact (.iface t (.agg #[.int kd n]))))) : hookA (spF P rd b₀ Φ B Ψ) o s k := by
  refine ⟨fun s' => s' = s.put o.dst (.exact (.iface t (.agg #[.int kd n]))), fun N β a ds w hr hφ hd next Q hn _ => ?_, fun _ e => e ▸ hk⟩
  refine wp_fen (by simp [noDefer, ho]) ?_
  have hv := hr.ev x
  rw [hx] at hv
  simp only [RepV] at hv
  obtain ⟨vs, h1, h2, h3⟩ := hv
  obtain ⟨u, hu1, hu2⟩ := h3 0 _ rfl
  simp only [RepC] at hu2
  obtain rfl := hu2.inv_int
  have hvs : vs = #[.int kd n] := by
    apply Array.ext_getElem?
    intro j
    match j with
    | 0 => rw [hu1]; rfl
    | j + 1 => rw [Array.getElem?_eq_none (by rw [h2]; simp), Array.getElem?_eq_none (by simp)]
  subst hvs
  have hex : (execOp a.eval o).run P w = .ok (.value (.iface t (.agg #[.int kd n]))) w := by
    simp [execOp, ho, h1, Instr.makeInterface, run_underlying hu]
  have hr' := hr.put hd (x := .exact (.iface t (.agg #[.int kd n]))) (v := .iface t (.agg #[.int kd n])) (by simp only [RepV])
  exact wp_value hex ⟨hr'.defers, hn _ β _ w rfl hr' (hΦ _ _ _ _ _ _ _ hφ (Tr.same (St.put_gen _ _ _) (St.put_obj _ _ _) rfl))⟩

/-- An interface's value is thrown. -/
theorem hook_throw {o : Oper} {s : St} {K : St → Prop} {k : Box K} {x : Operand} (ho : o.op = .panic x) {t : TypeId} {u : Value} (hx : s.ev x = .exact (.iface t u)) (hk : Ψ [{ v := .iface t u, recovered := false }] s) : hookA (spF P rd b₀ Φ B Ψ) o s k := by
  refine hook_panic ho (v := .iface t u) (fun N β a w hr => ?_) hk
  have hv := hr.ev x
  rw [hx] at hv
  simp only [RepV] at hv
  rw [hv]
  simp [Instr.panic]

end
end Go.Am

namespace Go.Proofs.YtiaalcpkhlnpcabGreatDoor
open Go Go.Am Go.Asm

theorem retF_of {res : List Nat} {R : AV → (Nat → Nat) → Obs → Prop} {s : St} {e : Exit} (he : e = .ret ∨ e = .normal) (h : R (resAV s.f res) s.gen s.obj) : RetF res R e s := by
  rcases he with rfl | rfl <;> exact ⟨_, SemVs.refl _, h⟩

def RdC (ts : List Src.Tok) (n fin : Nat) : List C := [.d (toksD ts), .d (.int .i64 (n : Nat)), .d (.int .i64 (fin : Nat))]
/-- The reader lies at 125: the tokens, the next one's number, the place behind the text. -/
structure RdP (gr : Nat) (ts : List Src.Tok) (n fin : Nat) (g : Nat → Nat) (ob : Obs) : Prop where
  gen : g 125 = gr
  obj : ob 125 = some (RdC ts n fin)
/-- What lies below a number is let be, but for the reader. -/
def FrP (B : Nat) (g : Nat → Nat) (ob : Obs) (g' : Nat → Nat) (ob' : Obs) : Prop := ∀ i, i < B → g' i = g i ∧ (i ≠ 125 → ob' i = ob i)
theorem FrP.trans {B B' : Nat} {g g' g'' : Nat → Nat} {ob ob' ob'' : Obs} (h : FrP B g ob g' ob') (h' : FrP B' g' ob' g'' ob'') (hb : B ≤ B') : FrP B g ob g'' ob'' :=
  fun i hi => ⟨(h' i (by omega)).1.trans (h i hi).1, fun h1 => ((h' i (by omega)).2 h1).trans ((h i hi).2 h1)⟩
theorem FrP.down {B B' : Nat} {g g' : Nat → Nat} {ob ob' : Obs} (h : FrP B g ob g' ob') (hb : B' ≤ B) : FrP B' g ob g' ob' := fun i hi => h i (by omega)

def kindN (ts : List Src.Tok) (n : Nat) : Nat := match ts[n]? with | some t => t.kind | none => 0
def peekN (ts : List Src.Tok) (n : Nat) : Str := match ts[n]? with | some t => if t.kind = 3 ∨ t.kind = 4 then t.text else [] | none => []
def failN (ts : List Src.Tok) (fin n : Nat) : Nat := match ts[n]? with | some t => t.place | none => fin

theorem tok_get {ts : List Src.Tok} {n : Nat} {t : Src.Tok} (h : ts[n]? = some t) : (ts.map tokC)[n]? = some [.int .i64 (t.kind : Nat), .str t.text, .int .u32 (t.num : Nat), .int .i64 (t.place : Nat)] := by rw [List.getElem?_map, h]; rfl

set_option maxHeartbeats 4000000 in
theorem kind_P {gr n fin : Nat} {ts : List Src.Tok} {g : Nat → Nat} {ob : Obs} (h : RdP gr ts n fin g ob) :
    FunR Tryz.prog 97 [.one (.ptr 125 gr 0)] g ob (fun r g' ob' => r = iv .i64 (kindN ts n : Nat) ∧ g' = g ∧ ob' = ob) := by
  refine fun_of_wp 9000 Tt_ok mixed Tryz.func97 rfl (by rfl) [2] rfl (by kernel_rfl) (by simp [Tryz.ntmps97]) ?_
  obtain ⟨hg, ho⟩ := h
  unfold RdC toksD at ho
  have hn0 : (0 : Int) ≤ (n : Int) := by omega
  simp (config := { maxSteps := 1000000 }) only [go_sem,↓reduceIte]
  refine draw_introB (by decide +kernel) ?_
  unfold kindN
  by_cases hlt : n < ts.length
  · have hlti : (n : Int) < (ts.length : Int) := by omega
    obtain ⟨t, ht⟩ := getq hlt
    have htg := tok_get ht
    rw [ht]
    simp (config := { maxSteps := 1000000 }) only [go_sem,↓reduceIte,hg, ho, List.length_map, hlti]
    refine draw_introB (by decide +kernel) ?_
    simp (config := { maxSteps := 1000000 }) only [go_sem,↓reduceIte,hg, ho, hn0, htg]
    exact retF_of (.inl rfl) ⟨rfl, rfl, rfl⟩
  · have hlti : ¬ (n : Int) < (ts.length : Int) := by omega
    rw [List.getElem?_eq_none (by omega)]
    simp (config := { maxSteps := 1000000 }) only [go_sem,↓reduceIte,hg, ho, List.length_map, hlti]
    exact retF_of (.inl rfl) ⟨rfl, rfl, rfl⟩

set_option maxHeartbeats 4000000 in
theorem peek_P {gr n fin : Nat} {ts : List Src.Tok} {g : Nat → Nat} {ob : Obs} (h : RdP gr ts n fin g ob) :
    FunR Tryz.prog 96 [.one (.ptr 125 gr 0)] g ob (fun r g' ob' => r = sv (peekN ts n) ∧ ∀ i, i < 9000 → g' i = g i ∧ ob' i = ob i) := by
  refine fun_of_wp 9000 Tt_ok mixed Tryz.func96 rfl (by rfl) [2] rfl (by kernel_rfl) (by simp [Tryz.ntmps96]) ?_
  obtain ⟨hg, ho⟩ := h
  unfold RdC toksD at ho
  have hn0 : (0 : Int) ≤ (n : Int) := by omega
  simp (config := { maxSteps := 1000000 }) only [go_sem,↓reduceIte]
  refine draw_introB (by decide +kernel) ?_
  unfold peekN
  by_cases hlt : n < ts.length
  case neg =>
    have hlti : ¬ (n : Int) < (ts.length : Int) := by omega
    rw [List.getElem?_eq_none (by omega)]
    simp (config := { maxSteps := 1000000 }) only [go_sem,↓reduceIte,hg, ho, List.length_map, hlti]
    exact retF_of (.inl rfl) ⟨rfl, fun i hi => ⟨rfl, rfl⟩⟩
  have hlti : (n : Int) < (ts.length : Int) := by omega
  obtain ⟨t, ht⟩ := getq hlt
  have htg := tok_get ht
  rw [ht]
  simp (config := { maxSteps := 1000000 }) only [go_sem,↓reduceIte,hg, ho, List.length_map, hlti]
  refine draw_det Tt_ok mixed [9003] [([0], [0], [], false), ([14], [0], [], false), ([15], [0], [], false), ([16], [0], [], false), ([0], [0], [], false), ([18], [0], [], false), ([19], [0], [], false), ([20], [0], [], false), ([17, 21], [0], [], false), ([22], [0], [], false), ([], [], [0], false), ([3, 23], [], [], true)] 1 (by decide +kernel) rfl (by decide) ?_
  simp (config := { maxSteps := 1000000 }) only [go_sem,↓reduceIte]
  iterate 10 (apply det_pure; · (intro fa ga oa K' hK; simp (config := { maxSteps := 1000000 }) only [go_sem,↓reduceIte,hg, ho, hn0, htg] at hK ⊢; exact hK))
  (apply det_new; · (intro fa ga oa K' hK; simp (config := { maxSteps := 1000000 }) only [go_sem,↓reduceIte] at hK ⊢; exact hK))
  apply det_last
  intro K' hK'
  simp (config := { maxSteps := 1000000 }) only [go_sem,↓reduceIte]
  refine hK' _ ?_
  clear hK' K'
  have hw : (t.kind = 3 ∨ t.kind = 4) ↔ ((t.kind : Int) = 3 ∨ (t.kind : Int) = 4) := by omega
  by_cases h3 : (t.kind : Int) = 3
  · rw [if_pos (hw.2 (.inl h3))]
    simp (config := { maxSteps := 1000000 }) only [go_sem,↓reduceIte,h3]
    exact retF_of (.inl rfl) ⟨rfl, fun i hi => by simp only [upd]; (repeat rw [if_neg (by omega)]); exact ⟨rfl, rfl⟩⟩
  by_cases h4 : (t.kind : Int) = 4
  · rw [if_pos (hw.2 (.inr h4))]
    simp (config := { maxSteps := 1000000 }) only [go_sem,↓reduceIte,h3, h4]
    exact retF_of (.inl rfl) ⟨rfl, fun i hi => by simp only [upd]; (repeat rw [if_neg (by omega)]); exact ⟨rfl, rfl⟩⟩
  · rw [if_neg (fun h => (hw.1 h).elim h3 h4)]
    simp (config := { maxSteps := 1000000 }) only [go_sem,↓reduceIte,h3, h4]
    exact retF_of (.inl rfl) ⟨rfl, fun i hi => by simp only [upd]; (repeat rw [if_neg (by omega)]); exact ⟨rfl, rfl⟩⟩

/-- A reader that has gone on. -/
theorem RdP.next {gr n fin : Nat} {ts : List Src.Tok} {g : Nat → Nat} {ob : Obs} (h : RdP gr ts n fin g ob) : RdP gr ts (n + 1) fin g (upd ob 125 (some (RdC ts (n + 1) fin))) := ⟨h.gen, by simp [upd]⟩
theorem RdP.of {gr n fin : Nat} {ts : List Src.Tok} {g g' : Nat → Nat} {ob ob' : Obs} (h : RdP gr ts n fin g ob) (hg : g' 125 = g 125) (ho : ob' 125 = ob 125) : RdP gr ts n fin g' ob' := ⟨hg.trans h.gen, ho.trans h.obj⟩

/-- What 'may' does. -/
def MayP (gr : Nat) (ts : List Src.Tok) (n fin : Nat) (s : Str) (g : Nat → Nat) (ob : Obs) (r : AV) (g' : Nat → Nat) (ob' : Obs) : Prop :=
  FrP 8900 g ob g' ob' ∧ ((peekN ts n = s ∧ r = bv true ∧ RdP gr ts (n + 1) fin g' ob') ∨ (peekN ts n ≠ s ∧ r = bv false ∧ RdP gr ts n fin g' ob'))

set_option maxHeartbeats 4000000 in
theorem may_P {gr n fin : Nat} {ts : List Src.Tok} {g : Nat → Nat} {ob : Obs} (h : RdP gr ts n fin g ob) (hn : n ≤ 1000000) (s : Str) :
    FunR Tryz.prog 67 [.one (.ptr 125 gr 0), sv s] g ob (MayP gr ts n fin s g ob) := by
  refine fun_of_wp 8900 Tt_ok mixed Tryz.func67 rfl (by rfl) [4] rfl (by kernel_rfl) (by simp [Tryz.ntmps67]) ?_
  have hw := wrap_succ (k := n) (by omega)
  simp (config := { maxSteps := 1000000 }) only [go_sem,↓reduceIte]
  refine hook_fun rfl (by simp (config := { maxSteps := 1000000 }) only [go_sem,↓reduceIte]; exact peek_P h) ?_
  rintro _ g1 ob1 ⟨rfl, f1⟩
  have h1 : RdP gr ts n fin g1 ob1 := h.of (f1 125 (by decide)).1 (f1 125 (by decide)).2
  have hg1 := h1.gen
  have ho1 := h1.obj
  unfold RdC toksD at ho1
  by_cases he : peekN ts n = s
  · simp (config := { maxSteps := 1000000 }) only [go_sem,↓reduceIte,he, hg1, ho1, hw]
    refine retF_of (.inl rfl) (show MayP _ _ _ _ _ _ _ _ _ _ from ?_)
    exact ⟨fun i hi => ⟨(f1 i (by omega)).1, fun h5 => by simp only [upd]; rw [if_neg h5]; exact (f1 i (by omega)).2⟩, .inl ⟨he, rfl, hg1, by simp [upd, RdC, toksD]⟩⟩
  · simp (config := { maxSteps := 1000000 }) only [go_sem,↓reduceIte,he]
    refine retF_of (.inl rfl) (show MayP _ _ _ _ _ _ _ _ _ _ from ?_)
    exact ⟨fun i hi => ⟨(f1 i (by omega)).1, fun _ => (f1 i (by omega)).2⟩, .inr ⟨he, rfl, h1⟩⟩

end Go.Proofs.YtiaalcpkhlnpcabGreatDoor

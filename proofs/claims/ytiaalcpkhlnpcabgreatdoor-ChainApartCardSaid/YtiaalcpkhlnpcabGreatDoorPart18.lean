/- A part of the proof; no conditions. -/
import Derived.Test.YtiaalcpkhlnpcabGreatDoorPart17
import Derived.Lib.LaidTab
import Derived.Lib.LaidU8
import Derived.OpenShut
import Derived.Laws.IdiomArrays
import Derived.Test.YtiaalcpkhlnpcabGreatDoorTie
import Derived.Test.YtiaalcpkhlnpcabGreatDoorCards
set_option linter.unusedSimpArgs false
set_option linter.unusedVariables false
namespace Go.Proofs.YtiaalcpkhlnpcabGreatDoor
open Go Go.Am Go.Asm

theorem numL_two (a b : Nat) : numL [a, b] = dec a ++ [32] ++ dec b ++ [10] := by simp [numL, jn]
theorem numL_four (a b c d : Nat) : numL [a, b, c, d] = dec a ++ [32] ++ dec b ++ [32] ++ dec c ++ [32] ++ dec d ++ [10] := by simp [numL, jn]
def byC (s : Str) : List C := s.map fun b => C.d (byteD b)
theorem byC_len (s : Str) : (byC s).length = s.length := List.length_map _
theorem u8s_by : ∀ (s : Str), u8s (byC s) = some (s.map fun b => ((b.toNat : Nat) : Int))
  | [] => rfl
  | b :: s => by
    have ih := u8s_by s
    unfold byC at ih ⊢
    simp only [List.map_cons, byteD, u8s] at ih ⊢
    rw [ih]; rfl
theorem back_by (s : Str) : (s.map fun b => ((b.toNat : Nat) : Int)).map (fun n => UInt8.ofNat n.toNat) = s := by
  rw [List.map_map]
  conv => rhs; rw [← List.map_id s]
  exact List.map_congr_left fun b _ => by simp
theorem byC_app (s t : Str) : byC (s ++ t) = byC s ++ byC t := List.map_append

end Go.Proofs.YtiaalcpkhlnpcabGreatDoor

namespace Go.Proofs.YtiaalcpkhlnpcabGreatDoor
open Go Go.Am Go.Asm

theorem frz_ag2 {s : St} {c1 c2 : C} {x1 x2 : D} (h1 : Frz s c1 x1) (h2 : Frz s c2 x2) : FrzV s (.agg [c1, c2]) (.agg [.d x1, .d x2]) :=
  ⟨[x1, x2], rfl, fun i c hc => by match i, hc with | 0, hc => cases hc; exact ⟨_, rfl, h1⟩ | 1, hc => cases hc; exact ⟨_, rfl, h2⟩, rfl⟩

theorem nums_a : numbersV [436207616, 5] 3 = .tup [sv [50, 32, 51, 10, 50, 54, 32, 48, 32, 48, 32, 48, 10, 48, 32, 53, 10], iv .i64 0] := by
  have d2 : dec 2 = [50] := decs_small (by decide)
  have d3 : dec 3 = [51] := decs_small (by decide)
  have d0 : dec 0 = [48] := decs_small (by decide)
  have d5 : dec 5 = [53] := decs_small (by decide)
  have d26 : dec 26 = [50, 54] := by rw [decs_big (by decide), show 26 / 10 = 2 by decide, d2]; rfl
  have h1 : lineW 436207616 = [50, 54, 32, 48, 32, 48, 32, 48, 10] := by
    unfold lineW
    rw [if_pos (by decide), show 436207616 / 16777216 = 26 by decide, show 436207616 / 1048576 % 16 = 0 by decide, numL_four, d26, d0]; rfl
  have h2 : lineW 5 = [48, 32, 53, 10] := by
    unfold lineW
    rw [if_neg (by decide), d5]; rfl
  unfold numbersV
  rw [if_pos (by decide)]
  unfold numsT
  rw [show [436207616, 5].length = 2 from rfl, show (3 : Int).toNat = 3 from rfl, numL_two, d2, d3, List.flatMap_cons, List.flatMap_cons, List.flatMap_nil, h1, h2]
  rfl
theorem nums_b : numbersV [] (-1) = .tup [sv [], iv .i64 1] := by
  unfold numbersV
  rw [if_neg (by decide)]

set_option maxHeartbeats 8000000 in
theorem awake_G {o : Hold} (hp : PowO o) (ht : TokO o) : PureG Tryz.prog 5 o 4 [] (· = bv true) := by
  refine pure_of_wpG2 0 5 o Tt_ok mixed Tryz.func4 rfl (by rfl) [.tmp 0] rfl (by kernel_rfl) (by kernel_rfl) (by simp [Tryz.ntmps4]) fun b₀ β0 s0 w0 g => ?_
  simp (config := { maxSteps := 1000000 }) only [go_sem,↓reduceIte]
  refine hook_viewG (xs := [imgZ [436207616, 5] 3]) kept_phiG (fun s β ds w h => h.1.2) rfl ?_ (Numbers_G hp [436207616, 5] 3 (by simp)) (by rintro _ rfl; rw [nums_a]; rfl) ?_
  · simp (config := { maxSteps := 1000000 }) only [go_sem,↓reduceIte]
    exact ⟨_, _, rfl, frz_ag2 (frz_code (code := [436207616, 5]) (by simp [upd]) (by simp [upd]) rfl) (.d _), rfl⟩
  rintro _ rfl
  rw [nums_a]
  simp (config := { maxSteps := 1000000 }) only [go_sem,↓reduceIte]
  refine hook_viewG (xs := [imgZ [] (-1)]) kept_phiG (fun s β ds w h => h.1.2) rfl ?_ (Numbers_G hp [] (-1) (by simp)) (by rintro _ rfl; rw [nums_b]; rfl) ?_
  · simp (config := { maxSteps := 1000000 }) only [go_sem,↓reduceIte]
    exact ⟨_, _, rfl, frz_ag2 (.d .nsl) (.d _), rfl⟩
  rintro _ rfl
  rw [nums_b]
  simp (config := { maxSteps := 1000000 }) only [go_sem,↓reduceIte]
  refine hook_callG kept_phiG (fun s β ds w h => h.1.2) rfl (by simp (config := { maxSteps := 1000000 }) only [go_sem,↓reduceIte]; exact Grow_G ht 100) (by simp (config := { maxSteps := 1000000 }) only [go_sem,↓reduceIte]; rfl) ?_
  rintro _ rfl
  simp (config := { maxSteps := 1000000 }) only [go_sem,↓reduceIte]

end Go.Proofs.YtiaalcpkhlnpcabGreatDoor

namespace Go.Proofs.YtiaalcpkhlnpcabGreatDoor
open Go Go.Am Go.Asm

def digU (b : UInt8) : Prop := 48 ≤ b.toNat ∧ b.toNat ≤ 57
theorem digU_of {k : Nat} (h : k < 10) : digU (UInt8.ofNat (48 + k)) := by
  have : (UInt8.ofNat (48 + k)).toNat = 48 + k := by rw [UInt8.toNat_ofNat']; omega
  unfold digU; omega
theorem dec_dig (n : Nat) : ∀ c ∈ dec n, digU c := by
  induction n using Nat.strongRecOn with
  | ind n ih =>
    by_cases h : n < 10
    · rw [decs_small h]
      intro c hc
      obtain rfl := List.mem_singleton.1 hc
      exact digU_of h
    · rw [decs_big h]
      intro c hc
      rcases List.mem_append.1 hc with hc | hc
      · exact ih (n / 10) (by omega) c hc
      · obtain rfl := List.mem_singleton.1 hc
        exact digU_of (by omega)
def valD (s : Str) : Nat := s.foldl (fun v c => 10 * v + (c.toNat - 48)) 0
theorem valD_dec (n : Nat) : valD (dec n) = n := by
  have hv : ∀ k, k < 10 → (UInt8.ofNat (48 + k)).toNat - 48 = k := fun k hk => by
    have : (UInt8.ofNat (48 + k)).toNat = 48 + k := by rw [UInt8.toNat_ofNat']; omega
    omega
  induction n using Nat.strongRecOn with
  | ind n ih =>
    by_cases h : n < 10
    · rw [decs_small h]
      simp only [valD, List.foldl_cons, List.foldl_nil, hv n h]
      omega
    · rw [decs_big h]
      have := ih (n / 10) (by omega)
      simp only [valD] at this ⊢
      rw [List.foldl_append, this]
      simp only [List.foldl_cons, List.foldl_nil, hv (n % 10) (by omega)]
      omega
def headN (s : Str) : Prop := ∀ c r, s = c :: r → ¬ digU c
theorem digs_cut : ∀ {x y s t : Str}, (∀ c ∈ x, digU c) → (∀ c ∈ y, digU c) → headN s → headN t → x ++ s = y ++ t → x = y ∧ s = t
  | [], [], s, t, _, _, _, _, h => ⟨rfl, h⟩
  | [], c :: y, s, t, _, hy, hs, _, h => absurd (hy c (by simp)) (hs c (y ++ t) h)
  | c :: x, [], s, t, hx, _, _, ht, h => absurd (hx c (by simp)) (ht c (x ++ s) h.symm)
  | c :: x, d :: y, s, t, hx, hy, hs, ht, h => by
    simp only [List.cons_append, List.cons.injEq] at h
    obtain ⟨h1, h2⟩ := digs_cut (fun c hc => hx c (by simp [hc])) (fun c hc => hy c (by simp [hc])) hs ht h.2
    exact ⟨by rw [h.1, h1], h2⟩
theorem dec_cut {a b : Nat} {s t : Str} (hs : headN s) (ht : headN t) (h : dec a ++ s = dec b ++ t) : a = b ∧ s = t := by
  obtain ⟨h1, h2⟩ := digs_cut (dec_dig a) (dec_dig b) hs ht h
  refine ⟨?_, h2⟩
  have := congrArg valD h1
  rwa [valD_dec, valD_dec] at this
theorem headN_32 (s : Str) : headN (32 :: s) := by
  intro c r h
  cases h
  unfold digU; decide
theorem headN_10 (s : Str) : headN (10 :: s) := by
  intro c r h
  cases h
  unfold digU; decide

theorem two_cut {a b a' b' : Nat} {s t : Str} (h : numL [a, b] ++ s = numL [a', b'] ++ t) : a = a' ∧ b = b' ∧ s = t := by
  simp only [numL, jn, List.flatMap_cons, List.flatMap_nil, List.append_nil, List.append_assoc, List.cons_append, List.nil_append] at h
  obtain ⟨h1, h⟩ := dec_cut (headN_32 _) (headN_32 _) h
  simp only [List.cons.injEq, true_and] at h
  obtain ⟨h2, h⟩ := dec_cut (headN_10 _) (headN_10 _) h
  simp only [List.cons.injEq, true_and] at h
  exact ⟨h1, h2, h⟩

theorem rightI_pos {op a b c : Int} (h : rightI op a b c = true) : op ≠ 0 := by
  rintro rfl
  simp [rightI, knownN] at h

/-- What stands in a word's line: the first number, the rest. -/
theorem line_cut {w w' : Nat} (hw : w < 4294967296) (hw' : w' < 4294967296) {s t : Str} (h : lineW w ++ s = lineW w' ++ t) : w = w' ∧ s = t := by
  have z : dec 0 = [48] := decs_small (by decide)
  unfold lineW at h
  split at h
  case isTrue h1 =>
    split at h
    case isTrue h2 =>
      simp only [numL, jn, List.flatMap_cons, List.flatMap_nil, List.append_nil, List.append_assoc, List.cons_append, List.nil_append] at h
      obtain ⟨e1, h⟩ := dec_cut (headN_32 _) (headN_32 _) h
      simp only [List.cons.injEq, true_and] at h
      obtain ⟨e2, h⟩ := dec_cut (headN_32 _) (headN_32 _) h
      simp only [List.cons.injEq, true_and] at h
      obtain ⟨e3, h⟩ := dec_cut (headN_32 _) (headN_32 _) h
      simp only [List.cons.injEq, true_and] at h
      obtain ⟨e4, h⟩ := dec_cut (headN_10 _) (headN_10 _) h
      simp only [List.cons.injEq, true_and] at h
      exact ⟨by omega, h⟩
    case isFalse h2 =>
      exfalso
      rw [show ([48, 32] : Str) = dec 0 ++ [32] by rw [z]; rfl] at h
      simp only [numL, jn, List.flatMap_cons, List.flatMap_nil, List.append_nil, List.append_assoc, List.cons_append, List.nil_append] at h
      obtain ⟨e1, h⟩ := dec_cut (headN_32 _) (headN_32 _) h
      exact rightI_pos h1 (by omega)
  case isFalse h1 =>
    split at h
    case isTrue h2 =>
      exfalso
      rw [show ([48, 32] : Str) = dec 0 ++ [32] by rw [z]; rfl] at h
      simp only [numL, jn, List.flatMap_cons, List.flatMap_nil, List.append_nil, List.append_assoc, List.cons_append, List.nil_append] at h
      obtain ⟨e1, h⟩ := dec_cut (headN_32 _) (headN_32 _) h
      exact rightI_pos h2 (by omega)
    case isFalse h2 =>
      simp only [List.append_assoc, List.cons_append, List.nil_append, List.cons.injEq, true_and] at h
      obtain ⟨e1, h⟩ := dec_cut (headN_10 _) (headN_10 _) h
      simp only [List.cons.injEq, true_and] at h
      exact ⟨e1, h⟩

theorem lines_cut : ∀ {l m : List Nat}, (∀ w ∈ l, w < 4294967296) → (∀ w ∈ m, w < 4294967296) → l.length = m.length → l.flatMap lineW = m.flatMap lineW → l = m
  | [], [], _, _, _, _ => rfl
  | w :: l, w' :: m, hl, hm, hn, h => by
    simp only [List.flatMap_cons] at h
    obtain ⟨rfl, h2⟩ := line_cut (hl w (by simp)) (hm w' (by simp)) h
    rw [lines_cut (fun x hx => hl x (by simp [hx])) (fun x hx => hm x (by simp [hx])) (by simpa using hn) h2]

/-- Images of the same numbers are alike. -/
theorem nums_apart {c c' : List Nat} {d d' : Nat} (hc : ∀ w ∈ c, w < 4294967296) (hc' : ∀ w ∈ c', w < 4294967296) (h : numsT c d = numsT c' d') : c = c' ∧ d = d' := by
  unfold numsT at h
  obtain ⟨h1, h2, h3⟩ := two_cut h
  exact ⟨lines_cut hc hc' h1 h3, h2⟩

end Go.Proofs.YtiaalcpkhlnpcabGreatDoor

namespace Go.Proofs.YtiaalcpkhlnpcabGreatDoor
open Go Go.Am Go.Asm

set_option maxHeartbeats 4000000 in
theorem Same_A (a b : List Nat) (da db : Int) (hl : a.length ≤ 100000) : PureR Tryz.prog 7 [imgZ a da, imgZ b db] (· = bv (decide (a = b ∧ da = db))) := by
  refine pure_of_wp Tt_ok mixed Tryz.func7 rfl (by rfl) [4] rfl (by kernel_rfl) (by simp [Tryz.ntmps7]) fun g => ?_
  unfold imgZ codeD
  obtain ⟨z, hz⟩ : ∃ z, decide (a = b ∧ da = db) = z := ⟨_, rfl⟩
  rw [hz]
  by_cases hd : da = db
  case neg =>
    obtain rfl : z = false := by rw [← hz]; exact decide_eq_false fun h => hd h.2
    simp (config := { maxSteps := 1000000 }) only [go_sem,↓reduceIte,hd]
  subst hd
  by_cases hn : a.length = b.length
  case neg =>
    have hni : ¬ (a.length : Int) = (b.length : Int) := by omega
    obtain rfl : z = false := by rw [← hz]; exact decide_eq_false fun h => hn (by rw [h.1])
    simp (config := { maxSteps := 1000000 }) only [go_sem,↓reduceIte,List.length_map, hni]
  have hni : (a.length : Int) = (b.length : Int) := by omega
  simp (config := { maxSteps := 1000000 }) only [go_sem,↓reduceIte,List.length_map, hni]
  refine loop_intro (fun n st => ∃ k : Nat, n + k = a.length ∧ (∀ i, i < k → a[i]? = b[i]?) ∧ st.f 2 = .one (.ptr 2 (st.gen 2) 0) ∧ st.f 3 = .one (.ptr 3 (st.gen 3) 0) ∧ st.obj 2 = some [.d (.sl (a.map fun n => [.int .u32 (n : Nat)])), .d (.int .i64 da)] ∧ st.obj 3 = some [.d (.sl (b.map fun n => [.int .u32 (n : Nat)])), .d (.int .i64 da)] ∧ st.f 5 = iv .i64 k) a.length ?_ ?_
  · refine ⟨0, rfl, fun i hi => by omega, ?_⟩
    simp (config := { maxSteps := 1000000 }) only [go_sem,↓reduceIte]
  clear g
  rintro n f g ob ⟨k, hk, heq, q2, q3, o2, o3, q5⟩
  simp only at q2 q3 o2 o3 q5
  have hw := wrap_succ (k := k) (by omega)
  by_cases hlt : k < a.length
  case neg =>
    have hki : ¬ (k : Int) < (a.length : Int) := by omega
    obtain rfl : z = true := by
      rw [← hz]
      refine decide_eq_true ⟨List.ext_getElem? fun i => ?_, rfl⟩
      by_cases hi : i < k
      · exact heq i hi
      · rw [List.getElem?_eq_none (by omega), List.getElem?_eq_none (by omega)]
    simp (config := { maxSteps := 1000000 }) only [go_sem,↓reduceIte,q2, q3, o2, o3, q5, List.length_map, hki]
  have hki : (k : Int) < (a.length : Int) := by omega
  have hk0 : (0 : Int) ≤ (k : Int) := by omega
  obtain ⟨x, hax⟩ := getq hlt
  obtain ⟨y, hby⟩ := getq (l := b) (k := k) (by omega)
  have ha2 : (a.map fun n => ([.int .u32 (n : Nat)] : List D))[k]? = some [.int .u32 (x : Nat)] := by rw [List.getElem?_map, hax]; rfl
  have hb2 : (b.map fun n => ([.int .u32 (n : Nat)] : List D))[k]? = some [.int .u32 (y : Nat)] := by rw [List.getElem?_map, hby]; rfl
  simp (config := { maxSteps := 1000000 }) only [go_sem,↓reduceIte,q2, q3, o2, o3, q5, List.length_map, hki]
  refine draw_intro (by decide +kernel) ?_
  by_cases hxy : x = y
  · subst hxy
    simp (config := { maxSteps := 1000000 }) only [go_sem,↓reduceIte,q2, q3, o2, o3, q5, hk0, ha2, hb2, hw]
    refine round_end (n - 1) (by omega) ⟨k + 1, by omega, fun i hi => ?_, ?_⟩
    · by_cases hik : i = k
      · subst hik; rw [hax, hby]
      · exact heq i (by omega)
    · simp (config := { maxSteps := 1000000 }) only [go_sem,↓reduceIte,q2, q3, o2, o3]
  · have hxi : ¬ (x : Int) = (y : Int) := by omega
    obtain rfl : z = false := by rw [← hz]; exact decide_eq_false fun h => hxy (by have := h.1; subst this; rw [hax] at hby; cases hby; rfl)
    simp (config := { maxSteps := 1000000 }) only [go_sem,↓reduceIte,q2, q3, o2, o3, q5, hk0, ha2, hb2, hxi]

set_option maxHeartbeats 8000000 in
theorem ChainApart_G {o : Hold} (hp : PowO o) (ht : TokO o) (a b : List Nat) (da db : Int) (ha : ∀ w ∈ a, w < 4294967296) (hb : ∀ w ∈ b, w < 4294967296) : PureG Tryz.prog 5 o 3 [imgZ a da, imgZ b db] (· = bv true) := by
  refine pure_of_wpG2 0 5 o Tt_ok mixed Tryz.func3 rfl (by rfl) [.tmp 4] rfl (by kernel_rfl) (by kernel_rfl) (by simp [Tryz.ntmps3]) fun b₀ β0 s0 w0 g => ?_
  have hNa := Numbers_G hp a da ha
  have hNb := Numbers_G hp b db hb
  have hRa := ImgRightR_A a da
  have hRb := ImgRightR_A b db
  have hS := Same_A a b da db
  unfold imgZ codeD at hNa hNb hRa hRb hS ⊢
  simp (config := { maxSteps := 1000000 }) only [go_sem,↓reduceIte]
  refine hook_callG kept_phiG (fun s β ds w h => h.1.2) rfl (by simp (config := { maxSteps := 1000000 }) only [go_sem,↓reduceIte]; exact awake_G hp ht) (by simp (config := { maxSteps := 1000000 }) only [go_sem,↓reduceIte]; rfl) ?_
  rintro _ rfl
  by_cases h1 : a.length ≤ 100
  case neg =>
    have h1' : (100 : Int) < (a.length : Int) := by omega
    simp (config := { maxSteps := 1000000 }) only [go_sem,↓reduceIte,List.length_map, h1']
  have h1' : ¬ (100 : Int) < (a.length : Int) := by omega
  by_cases h2 : b.length ≤ 100
  case neg =>
    have h2' : (100 : Int) < (b.length : Int) := by omega
    simp (config := { maxSteps := 1000000 }) only [go_sem,↓reduceIte,List.length_map, h1', h2']
  have h2' : ¬ (100 : Int) < (b.length : Int) := by omega
  simp (config := { maxSteps := 1000000 }) only [go_sem,↓reduceIte,List.length_map, h1', h2']
  refine hook_callF kept_phiG rfl (by simp (config := { maxSteps := 1000000 }) only [go_sem,↓reduceIte]; exact hRa) (by simp (config := { maxSteps := 1000000 }) only [go_sem,↓reduceIte]; rfl) ?_
  rintro _ rfl
  cases hma : mayI a da
  · simp (config := { maxSteps := 1000000 }) only [go_sem,↓reduceIte]
  simp (config := { maxSteps := 1000000 }) only [go_sem,↓reduceIte]
  refine hook_callF kept_phiG rfl (by simp (config := { maxSteps := 1000000 }) only [go_sem,↓reduceIte]; exact hRb) (by simp (config := { maxSteps := 1000000 }) only [go_sem,↓reduceIte]; rfl) ?_
  rintro _ rfl
  cases hmb : mayI b db
  · simp (config := { maxSteps := 1000000 }) only [go_sem,↓reduceIte]
  simp (config := { maxSteps := 1000000 }) only [go_sem,↓reduceIte]
  refine hook_callG kept_phiG (fun s β ds w h => h.1.2) rfl (by simp (config := { maxSteps := 1000000 }) only [go_sem,↓reduceIte]; exact hNa) (by simp (config := { maxSteps := 1000000 }) only [go_sem,↓reduceIte]; rfl) ?_
  rintro _ rfl
  unfold numbersV
  rw [hma, if_pos rfl]
  simp (config := { maxSteps := 1000000 }) only [go_sem,↓reduceIte]
  refine hook_callG kept_phiG (fun s β ds w h => h.1.2) rfl (by simp (config := { maxSteps := 1000000 }) only [go_sem,↓reduceIte]; exact hNb) (by simp (config := { maxSteps := 1000000 }) only [go_sem,↓reduceIte]; rfl) ?_
  rintro _ rfl
  unfold numbersV
  rw [hmb, if_pos rfl]
  simp (config := { maxSteps := 1000000 }) only [go_sem,↓reduceIte]
  refine hook_callF kept_phiG rfl (by simp (config := { maxSteps := 1000000 }) only [go_sem,↓reduceIte]; exact hS (by omega)) (by simp (config := { maxSteps := 1000000 }) only [go_sem,↓reduceIte]; rfl) ?_
  rintro _ rfl
  obtain ⟨_, hd0, _⟩ := of_decide_eq_true hma
  obtain ⟨_, he0, _⟩ := of_decide_eq_true hmb
  have hiff : (numsT a da.toNat = numsT b db.toNat) ↔ (a = b ∧ da = db) := by
    constructor
    · intro h
      obtain ⟨q1, q2⟩ := nums_apart ha hb h
      exact ⟨q1, by omega⟩
    · rintro ⟨rfl, rfl⟩
      rfl
  simp (config := { maxSteps := 1000000 }) only [go_sem,↓reduceIte,hiff]

end Go.Proofs.YtiaalcpkhlnpcabGreatDoor

namespace Go.Am
section
variable {P : Program} {t : TypeId} {ds : List D}

theorem HasS.inv_bool (h : HasS P t ds) (hu : P.underlying t = some .bool) : ∃ b, ds = [.bool b] := by
  cases h with
  | bool _ b => exact ⟨b, rfl⟩
  | int hu' => rw [hu] at hu'; cases hu'
  | str hu' => rw [hu] at hu'; cases hu'
  | sl hu' => rw [hu] at hu'; cases hu'
  | struct hu' => rw [hu] at hu'; cases hu'
  | array hu' => rw [hu] at hu'; cases hu'
theorem HasS.inv_int {k : IntKind} (h : HasS P t ds) (hu : P.underlying t = some (.int k)) : ∃ m, ds = [.int k m] ∧ (Lit.int k m).wf = true := by
  cases h with
  | int hu' m hw => rw [hu] at hu'; cases hu'; exact ⟨m, rfl, hw⟩
  | bool hu' => rw [hu] at hu'; cases hu'
  | str hu' => rw [hu] at hu'; cases hu'
  | sl hu' => rw [hu] at hu'; cases hu'
  | struct hu' => rw [hu] at hu'; cases hu'
  | array hu' => rw [hu] at hu'; cases hu'
theorem HasS.inv_str (h : HasS P t ds) (hu : P.underlying t = some .string) : ∃ s, ds = [.str s] ∧ s.length ≤ reachBytes := by
  cases h with
  | str _ s hl => exact ⟨s, rfl, hl⟩
  | bool hu' => rw [hu] at hu'; cases hu'
  | int hu' => rw [hu] at hu'; cases hu'
  | sl hu' => rw [hu] at hu'; cases hu'
  | struct hu' => rw [hu] at hu'; cases hu'
  | array hu' => rw [hu] at hu'; cases hu'
theorem HasS.inv_sl {e : TypeId} (h : HasS P t ds) (hu : P.underlying t = some (.slice e)) : ∃ es, ds = [.sl es] ∧ es.length * P.bytesOf e ≤ reachBytes ∧ ∀ x ∈ es, HasS P e x := by
  cases h with
  | sl hu' es hl hh => rw [hu] at hu'; cases hu'; exact ⟨es, rfl, hl, hh⟩
  | bool hu' => rw [hu] at hu'; cases hu'
  | int hu' => rw [hu] at hu'; cases hu'
  | str hu' => rw [hu] at hu'; cases hu'
  | struct hu' => rw [hu] at hu'; cases hu'
  | array hu' => rw [hu] at hu'; cases hu'
theorem HasS.inv_struct {fs : Array Field} (h : HasS P t ds) (hu : P.underlying t = some (.struct fs)) : ∃ parts : List (List D), ds = parts.flatten ∧ parts.length = fs.toList.length ∧ ∀ (i : Nat) (f : Field) (x : List D), fs.toList[i]? = some f → parts[i]? = some x → HasS P f.type x := by
  cases h with
  | struct hu' parts hl hh => rw [hu] at hu'; cases hu'; exact ⟨parts, rfl, hl, hh⟩
  | bool hu' => rw [hu] at hu'; cases hu'
  | int hu' => rw [hu] at hu'; cases hu'
  | str hu' => rw [hu] at hu'; cases hu'
  | sl hu' => rw [hu] at hu'; cases hu'
  | array hu' => rw [hu] at hu'; cases hu'
theorem HasS.inv_array {n e : Nat} (h : HasS P t ds) (hu : P.underlying t = some (.array n e)) : ∃ parts : List (List D), ds = parts.flatten ∧ parts.length = n ∧ ∀ x ∈ parts, HasS P e x := by
  cases h with
  | array hu' parts hl hs hh => rw [hu] at hu'; cases hu'; exact ⟨parts, rfl, hl, hh⟩
  | bool hu' => rw [hu] at hu'; cases hu'
  | int hu' => rw [hu] at hu'; cases hu'
  | str hu' => rw [hu] at hu'; cases hu'
  | sl hu' => rw [hu] at hu'; cases hu'
  | struct hu' => rw [hu] at hu'; cases hu'

/-- A list of things that are each the image of something. -/
theorem list_of {α β : Type} {f : β → α} {Q : β → Prop} : ∀ {l : List α}, (∀ x ∈ l, ∃ y, x = f y ∧ Q y) → ∃ m : List β, l = m.map f ∧ ∀ y ∈ m, Q y
  | [], _ => ⟨[], rfl, fun _ h => by cases h⟩
  | x :: l, h => by
    obtain ⟨y, rfl, hy⟩ := h x (by simp)
    obtain ⟨m, rfl, hm⟩ := list_of (l := l) fun x hx => h x (by simp [hx])
    exact ⟨y :: m, rfl, fun z hz => by
      rcases List.mem_cons.1 hz with rfl | hz
      · exact hy
      · exact hm z hz⟩
end
end Go.Am

namespace Go.Proofs.YtiaalcpkhlnpcabGreatDoor
open Go Go.Am Go.ChangeShapes Go.WideShapes Go.ChangeAt Go.RowKit Go.Lib
set_option maxRecDepth 100000

theorem own : ownKnob Tryz.prog.godebug = none := by kernel_rfl
theorem laidOut : laidOutB Tryz.prog = true := by kernel_rfl
def laidV : List (String × DataW Unit) := [("math/bits.deBruijn32tab", Rows.laid_math_bits_deBruijn32tab), ("math/bits.deBruijn64tab", Rows.laid_math_bits_deBruijn64tab), ("internal/strconv.uint64pow10", Rows.laid_internal_strconv_uint64pow10), ("seedcorn/hex.small", Rows.laid_seedcorn_hex_small), ("seedcorn/token.words", Rows.laid_seedcorn_token_words), ("seedcorn/token.signs", Rows.laid_seedcorn_token_signs)]

theorem reach_eq : reachBytes = 140737488351232 := by kernel_rfl
theorem u9 : Tryz.prog.underlying 9 = some .string := by kernel_rfl
theorem u4 : Tryz.prog.underlying 4 = some .bool := by kernel_rfl
theorem u3 : Tryz.prog.underlying 3 = some (.int .i64) := by kernel_rfl
theorem u31 : Tryz.prog.underlying 31 = some (.int .u32) := by kernel_rfl
theorem u64 : Tryz.prog.underlying 64 = some (.int .u64) := by kernel_rfl
theorem u22 : Tryz.prog.underlying 22 = some (.slice 31) := by kernel_rfl
def fieldTys : Option TypeDesc → Option (List TypeId)
  | some (.struct fs) => some (fs.toList.map (·.type))
  | _ => none
theorem u24 : ∃ fs : Array Field, Tryz.prog.underlying 24 = some (.struct fs) ∧ fs.toList.map (·.type) = [22, 3] := by
  have h : fieldTys (Tryz.prog.underlying 24) = some [22, 3] := by kernel_rfl
  cases hu : Tryz.prog.underlying 24 with
  | none => rw [hu] at h; cases h
  | some d =>
    rw [hu] at h
    cases d with
    | struct fs => exact ⟨fs, rfl, Option.some.inj h⟩
    | _ => cases h

theorem has_img {x : List D} (h : HasS Tryz.prog 24 x) : ∃ code d, x = [codeD code, .int .i64 d] ∧ ∀ w ∈ code, w < 4294967296 := by
  obtain ⟨fs, h1, h2⟩ := u24
  obtain ⟨parts, rfl, hl, hp⟩ := h.inv_struct h1
  have hlen : fs.toList.length = 2 := by have := congrArg List.length h2; simpa using this
  have hty : ∀ (i : Nat) (ty : TypeId) (x : List D), [22, 3][i]? = some ty → parts[i]? = some x → HasS Tryz.prog ty x := fun i ty x hi hx => by
    rw [← h2, List.getElem?_map] at hi
    cases hf : fs.toList[i]? with
    | none => rw [hf] at hi; cases hi
    | some f => rw [hf] at hi; cases hi; exact hp i f x hf hx
  rw [hlen] at hl
  match parts, hl with
  | [a, b], _ =>
    obtain ⟨es, rfl, _, he⟩ := (hty 0 22 a rfl rfl).inv_sl u22
    obtain ⟨m, rfl, hm⟩ := list_of (f := fun (n : Nat) => [D.int .u32 n]) (Q := fun n => n < 4294967296) fun x hx => by
      obtain ⟨n, rfl, hb⟩ := (he x hx).inv_int u31
      have hw : IntKind.u32.min ≤ n ∧ n ≤ IntKind.u32.max := by simpa [Lit.wf] using hb
      have h1 : IntKind.u32.min = 0 := by decide
      have h2 : IntKind.u32.max = 4294967295 := by decide
      obtain ⟨k, rfl⟩ : ∃ k : Nat, n = (k : Int) := ⟨n.toNat, by omega⟩
      exact ⟨k, rfl, by omega⟩
    obtain ⟨d, rfl, _⟩ := (hty 1 3 b rfl rfl).inv_int u3
    exact ⟨m, d, rfl, hm⟩
theorem agg_of {v : Value} {cs : List Value} {n : Nat} (h : v.cells.toList = cs) (hl : cs.length = n + 2) : v = .agg cs.toArray := by
  subst h
  cases v with
  | agg vs => simp [Value.cells]
  | _ => simp [Value.cells] at hl

def tys : List TypeId := [3, 22, 24, 31]
theorem closed_tys : closedT Tryz.prog tys = true := by kernel_rfl

/-- An array of texts that reads as the list holds the list's texts, cell for cell. -/
theorem cells_of_strs {H : Type} {enc : TypeId × Value → H} {P : Program} {w : World} {base : Nat} {sp : Nat → Bool} {held : Bool} {fuel : Nat} {t e : TypeId} {n : Nat} {cs : List Value} {zs : List (List UInt8)} {p : List MemPlace}
    (ht : P.underlying t = some (.array n e)) (he : P.underlying e = some .string) (hce : P.cellsOf e = 1) (hct : P.cellsOf t = n)
    (h : DataW.trod enc P w base sp held fuel t cs = some (DataW.agg (zs.map fun z => .lit (.string z)), p)) : ∀ (i : Nat) z, zs[i]? = some z → cs[i]? = some (.string ⟨z.toArray⟩) := by
  cases fuel with
  | zero => simp [DataW.trod] at h
  | succ fuel =>
    simp only [DataW.trod, ht, hce, hct, Nat.mul_one] at h
    split at h
    · obtain ⟨xs, hm, hx⟩ := Option.map_eq_some_iff.1 h
      have hxs : xs.map (·.1) = zs.map fun z => (DataW.lit (.string z) : DataW H) := by
        have := congrArg Prod.fst hx
        simpa using this
      have hxl : xs.length = n := by simpa using mapM_length hm
      have hzl : zs.length = n := by
        have := congrArg List.length hxs
        simp at this
        omega
      intro i z hz
      have hi : i < n := by
        have := (List.getElem?_eq_some_iff.1 hz).1
        omega
      obtain ⟨b, hb, hf⟩ := mapM_at hm i i (by simp [hi])
      obtain ⟨s, hc, rfl, _⟩ := DataW.trod_string he hf
      have h1 : cs[i]? = some (.string s) := by
        have := congrArg (·[0]?) hc
        simpa [List.getElem?_take, List.getElem?_drop] using this
      have h2 : (xs.map (·.1))[i]? = some (DataW.lit (.string s.data.toList) : DataW H) := by simp [hb]
      rw [hxs, List.getElem?_map, hz] at h2
      have h3 : z = s.data.toList := by simpa using h2
      rw [h1, h3]
    · cases h

theorem var_same {W w : World} {P : Program} {n : String} {g : Nat} (hn : P.globalNamed n = some g) (he : w.heap[g]? = W.heap[g]?) : w.var? P n = W.var? P n := by
  unfold World.var?
  rw [hn]
  show (match w.heap[g]? with | some (.cells cs _ _) => some cs | _ => none) = (match W.heap[g]? with | some (.cells cs _ _) => some cs | _ => none)
  rw [he]

theorem tabs_held {W : World} (h : laidMetH Tryz.prog laidV W) : ∃ o, Held 5 o W ∧ PowO o ∧ TokO o := by
  rw [MakeChecks.laidMetH_plain _ _ _ (by kernel_rfl)] at h
  have hpow : TabIs Tryz.prog W "internal/strconv.uint64pow10" .u64 pow10Tab := by
    obtain ⟨g, t, cs, fuel, p, hg, hty, hvar, hd⟩ := laidMet.reads h (n := "internal/strconv.uint64pow10") (d := Rows.laid_internal_strconv_uint64pow10) (by simp [laidV])
    obtain rfl := Option.some.inj ((show Tryz.prog.globalNamed "internal/strconv.uint64pow10" = some 1 by kernel_rfl).symm.trans hg)
    obtain rfl := Option.some.inj ((show (Tryz.prog.globals[1]?).map (·.type) = some 186 by kernel_rfl).symm.trans hty)
    have hcs := cells_of_tab (H := Unit) (k := .u64) (zs := pow10Tab) (show Tryz.prog.underlying 186 = some (.array 20 64) by kernel_rfl) u64 (by kernel_rfl) (by kernel_rfl) hd
    unfold TabIs
    rw [hvar, ← hcs]
  have hwordsT : ∀ (i : Nat) z, Src.wordsT[i]? = some z → W.cell? ⟨5, i, none⟩ = some (.string ⟨z.toArray⟩) := by
    obtain ⟨g, t, cs, fuel, p, hg, hty, hvar, hd⟩ := laidMet.reads h (n := "seedcorn/token.words") (d := Rows.laid_seedcorn_token_words) (by simp [laidV])
    obtain rfl := Option.some.inj ((show Tryz.prog.globalNamed "seedcorn/token.words" = some 5 by kernel_rfl).symm.trans hg)
    obtain rfl := Option.some.inj ((show (Tryz.prog.globals[5]?).map (·.type) = some 268 by kernel_rfl).symm.trans hty)
    intro i z hz
    have hc := cells_of_strs (H := Unit) (zs := Src.wordsT) (show Tryz.prog.underlying 268 = some (.array 10 9) by kernel_rfl) u9 (by kernel_rfl) (by kernel_rfl) hd i z hz
    rw [World.var?_cell hg hvar i, ← Array.getElem?_toList]
    exact hc
  have hsignsT : ∀ (i : Nat) z, Src.signsT[i]? = some z → W.cell? ⟨2, i, none⟩ = some (.string ⟨z.toArray⟩) := by
    obtain ⟨g, t, cs, fuel, p, hg, hty, hvar, hd⟩ := laidMet.reads h (n := "seedcorn/token.signs") (d := Rows.laid_seedcorn_token_signs) (by simp [laidV])
    obtain rfl := Option.some.inj ((show Tryz.prog.globalNamed "seedcorn/token.signs" = some 2 by kernel_rfl).symm.trans hg)
    obtain rfl := Option.some.inj ((show (Tryz.prog.globals[2]?).map (·.type) = some 221 by kernel_rfl).symm.trans hty)
    intro i z hz
    have hc := cells_of_strs (H := Unit) (zs := Src.signsT) (show Tryz.prog.underlying 221 = some (.array 24 9) by kernel_rfl) u9 (by kernel_rfl) (by kernel_rfl) hd i z hz
    rw [World.var?_cell hg hvar i, ← Array.getElem?_toList]
    exact hc
  have h0 := hwordsT 0 _ rfl
  have hlt : 5 < W.heap.size := by
    refine Nat.lt_of_not_le fun hle => ?_
    simp [World.cell?, Array.getElem?_eq_none hle] at h0
  refine ⟨fun b => W.heap[b]?, ⟨hlt, fun _ _ => rfl⟩, fun w hw => ?_, fun w hw => ⟨fun i t ht => ?_, fun i t ht => ?_⟩⟩
  · unfold TabIs
    rw [var_same (show Tryz.prog.globalNamed "internal/strconv.uint64pow10" = some 1 by kernel_rfl) (hw.2 1 (by decide))]
    exact hpow
  · rw [← hwordsT i t ht]
    unfold World.cell?
    rw [show w.heap[5]? = W.heap[5]? from hw.2 5 (by decide)]
  · rw [← hsignsT i t ht]
    unfold World.cell?
    rw [show w.heap[2]? = W.heap[2]? from hw.2 2 (by decide)]

end Go.Proofs.YtiaalcpkhlnpcabGreatDoor

namespace Go.Proofs.YtiaalcpkhlnpcabGreatDoor
open Go Go.Am
set_option maxRecDepth 100000

def cloL : List FuncId := [3, 4, 6, 9, 11, 10, 23, 36, 24, 37, 59, 60, 61, 88, 87, 89, 62, 63, 90, 91, 117, 118, 14, 12, 25, 38, 39, 40, 13, 26, 41, 8, 15, 27, 43, 44, 67, 96, 68, 69, 97, 66, 70, 71, 98, 126, 166, 167, 189, 191, 190, 199, 168, 169, 42, 64, 92, 119, 93, 94, 95, 120, 121, 122, 123, 125, 124, 127, 65, 45, 72, 73, 99, 74, 100, 128, 101, 129, 28, 29, 46, 75, 102, 130, 170, 131, 171, 133, 134, 132, 172, 173, 103, 135, 174, 175, 180, 192, 176, 177, 178, 136, 179, 137, 76, 77, 104, 105, 47, 48, 50, 80, 110, 163, 182, 183, 193, 164, 184, 194, 111, 49, 78, 106, 138, 139, 140, 141, 181, 142, 79, 107, 143, 144, 108, 145, 146, 147, 148, 149, 150, 151, 152, 153, 154, 155, 156, 157, 158, 159, 160, 161, 109, 162, 56, 30, 31, 51, 18, 19, 33, 54, 83, 53, 82, 20, 16, 17, 32, 52, 81, 112, 21, 34, 55, 22, 35, 58, 57, 84, 85, 113, 114, 115, 116, 165, 185, 186, 195, 187, 188, 196, 197, 198, 86, 5, 7]
theorem clo : Tryz.prog.closure 3 = cloL := by kernel_rfl
theorem k_unf : Tryz.prog.unfollowed 3 = true := by
  unfold Program.unfollowed
  rw [clo]
  kernel_rfl
theorem k_rec : Tryz.prog.recurses 3 = true := by
  unfold Program.recurses
  rw [k_unf]
  rfl
theorem k_inp : (Rows.chainApartRow.inPlace == Tryz.prog.inPlace 3) = true := by
  unfold Program.inPlace
  rw [clo]
  kernel_rfl
theorem k_nam : (Rows.chainApartRow.named == Tryz.prog.varsNamed 3) = true := by
  unfold Program.varsNamed
  rw [clo]
  kernel_rfl
theorem k_goes : Tryz.prog.goes 3 = false := by
  unfold Program.goes
  rw [clo, k_unf]
  kernel_rfl
theorem k_facts : joinedFacts Tryz.prog 3 Tryz.f3 Rows.chainApartSpec Rows.chainApartRow = true := by
  unfold joinedFacts
  rw [k_inp, k_nam, k_unf, k_rec]
  kernel_rfl
theorem k_goesBy : false = Rows.chainApartRow.goesBy Tryz.prog := by
  unfold OpenClaim.goesBy Program.goesAt Program.goesFrom
  rw [show Tryz.prog.funcNamed Rows.chainApartRow.func = some 3 by kernel_rfl]
  simp only [Option.any_some, k_goes, Bool.false_or]
  rfl

end Go.Proofs.YtiaalcpkhlnpcabGreatDoor

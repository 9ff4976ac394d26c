/- A part of the proof; no conditions. -/
import Derived.Test.YtiaalcpkhlnpcaaGreatDoorPart17
import Derived.Lib.LaidTab
import Derived.Lib.LaidU8
import Derived.OpenShut
import Derived.Laws.IdiomArrays
import Derived.Test.YtiaalcpkhlnpcaaGreatDoorTie
import Derived.Test.YtiaalcpkhlnpcaaGreatDoorCards
set_option linter.unusedSimpArgs false
set_option linter.unusedVariables false
namespace Go.Proofs.YtiaalcpkhlnpcaaGreatDoor
open Go Go.Am Go.Asm

theorem numL_two (a b : Nat) : numL [a, b] = dec a ++ [32] ++ dec b ++ [10] := by simp [numL, jn]
theorem numL_four (a b c d : Nat) : numL [a, b, c, d] = dec a ++ [32] ++ dec b ++ [32] ++ dec c ++ [32] ++ dec d ++ [10] := by simp [numL, jn]
def byC (s : Str) : List C := s.map fun b => C.d (byteD b)
theorem byC_len (s : Str) : (byC s).length = s.length := List.length_map _
theorem u8s_by : ∀ (s : Str), u8s (byC s) = some (s.map fun b => ((b.toNat : Nat) : Int))
  | [] => rfl
  | b :: s => by
    have ih := u8s_by s
    unfold byC at ih ⊢
    simp only [List.map_cons, byteD, u8s] at ih ⊢
    rw [ih]; rfl
theorem back_by (s : Str) : (s.map fun b => ((b.toNat : Nat) : Int)).map (fun n => UInt8.ofNat n.toNat) = s := by
  rw [List.map_map]
  conv => rhs; rw [← List.map_id s]
  exact List.map_congr_left fun b _ => by simp
theorem byC_app (s t : Str) : byC (s ++ t) = byC s ++ byC t := List.map_append

set_option maxHeartbeats 8000000 in
theorem NumbersR_A (code : List Nat) (d : Int) (hcw : ∀ w ∈ code, w < 4294967296) : PureR Tryz.prog 6 [imgZ code d] (· = numbersV code d) := by
  refine pure_of_wp Tt_ok mixed Tryz.func6 rfl (by rfl) [2, 3] rfl (by kernel_rfl) (by simp [Tryz.ntmps6]) fun g => ?_
  have hR := ImgRightR_A code d
  unfold numbersV
  cases hm : mayI code d
  · rw [hm] at hR
    unfold imgZ codeD at hR ⊢
    simp (config := { maxSteps := 1000000 }) only [go_sem,↓reduceIte]
    refine hook_call rfl (by simp (config := { maxSteps := 1000000 }) only [go_sem,↓reduceIte]; exact hR) (by simp (config := { maxSteps := 1000000 }) only [go_sem,↓reduceIte]; rfl) ?_
    rintro _ rfl
    simp (config := { maxSteps := 1000000 }) only [go_sem,↓reduceIte]
  rw [hm] at hR
  obtain ⟨hl, hd0, hd1⟩ := of_decide_eq_true hm
  obtain ⟨e, rfl⟩ : ∃ e : Nat, d = e := ⟨d.toNat, by omega⟩
  rw [Int.toNat_natCast]
  unfold imgZ codeD at hR ⊢
  have hn1 := number_A code.length (by omega)
  have hn2 := number_A e (by omega)
  have hb1 : (dec code.length).length ≤ 20 := dec_len (n := code.length) (by omega)
  have hb2 : (dec e).length ≤ 20 := dec_len (n := e) (by omega)
  simp (config := { maxSteps := 1000000 }) only [go_sem,↓reduceIte]
  refine hook_call rfl (by simp (config := { maxSteps := 1000000 }) only [go_sem,↓reduceIte]; exact hR) (by simp (config := { maxSteps := 1000000 }) only [go_sem,↓reduceIte]; rfl) ?_
  rintro _ rfl
  simp (config := { maxSteps := 1000000 }) only [go_sem,↓reduceIte]
  refine draw_det Tt_ok mixed [22] [([1], [], [], false), ([12], [], [], false), ([13], [], [], false), ([14], [], [], false), ([15], [], [], false), ([1], [], [], false), ([17], [], [], false), ([18], [], [], false), ([16, 19], [], [], false), ([20], [], [], false), ([21], [], [0], false), ([22], [], [], true)] 1 (by decide +kernel) rfl (by decide) ?_
  simp (config := { maxSteps := 1000000 }) only [go_sem,↓reduceIte]
  iterate 3 (apply det_pure; · (intro fa ga oa K' hK; simp (config := { maxSteps := 1000000 }) only [go_sem,↓reduceIte,List.length_map] at hK ⊢; exact hK))
  refine det_pure (v := sv (dec code.length)) (fun fa ga oa K' hK => ?_) ?_
  · simp (config := { maxSteps := 1000000 }) only [go_sem,↓reduceIte] at hK ⊢
    refine hook_call (k := bx K') rfl (by simp (config := { maxSteps := 1000000 }) only [go_sem,↓reduceIte]; exact hn1) (by simp (config := { maxSteps := 1000000 }) only [go_sem,↓reduceIte]; rfl) ?_
    rintro _ rfl
    simp (config := { maxSteps := 1000000 }) only [go_sem,↓reduceIte]
    exact hK
  refine det_pure (v := sv (dec code.length ++ [32])) (fun fa ga oa K' hK => ?_) ?_
  · simp (config := { maxSteps := 1000000 }) only [go_sem,↓reduceIte] at hK ⊢
    exact ⟨by omega, hK⟩
  iterate 2 (apply det_pure; · (intro fa ga oa K' hK; simp (config := { maxSteps := 1000000 }) only [go_sem,↓reduceIte] at hK ⊢; exact hK))
  refine det_pure (v := sv (dec e)) (fun fa ga oa K' hK => ?_) ?_
  · simp (config := { maxSteps := 1000000 }) only [go_sem,↓reduceIte] at hK ⊢
    refine hook_call (k := bx K') rfl (by simp (config := { maxSteps := 1000000 }) only [go_sem,↓reduceIte]; exact hn2) (by simp (config := { maxSteps := 1000000 }) only [go_sem,↓reduceIte]; rfl) ?_
    rintro _ rfl
    simp (config := { maxSteps := 1000000 }) only [go_sem,↓reduceIte]
    exact hK
  refine det_pure (v := sv ((dec code.length ++ [32]) ++ dec e)) (fun fa ga oa K' hK => ?_) ?_
  · simp (config := { maxSteps := 1000000 }) only [go_sem,↓reduceIte] at hK ⊢
    exact ⟨by simp only [List.length_append, List.length_cons, List.length_nil]; omega, hK⟩
  refine det_pure (v := sv (numL [code.length, e])) (fun fa ga oa K' hK => ?_) ?_
  · simp (config := { maxSteps := 1000000 }) only [go_sem,↓reduceIte] at hK ⊢
    rw [numL_two] at hK
    exact ⟨by simp only [List.length_append, List.length_cons, List.length_nil]; omega, hK⟩
  (apply det_new; · (intro fa ga oa K' hK; simp (config := { maxSteps := 1000000 }) only [go_sem,↓reduceIte] at hK ⊢; exact hK))
  apply det_last
  intro K' hK'
  simp (config := { maxSteps := 1000000 }) only [go_sem,↓reduceIte]
  refine hK' _ ?_
  clear hK' K'
  simp (config := { maxSteps := 1000000 }) only [go_sem,↓reduceIte]
  refine loop_intro (fun n st => ∃ k : Nat, n + k = code.length ∧ st.f 1 = .one (.ptr 1 (nxC 25 (g 1)) 0) ∧ st.gen 1 = nxC 25 (g 1) ∧ st.obj 1 = some [.d (codeD code), .d (.int .i64 (e : Nat))] ∧ st.f 5 = iv .i64 k ∧
    st.f 4 = .one (.osl 22 (st.gen 22) 1 0 (numL [code.length, e] ++ (code.take k).flatMap lineW).length) ∧ st.obj 22 = some (byC (numL [code.length, e] ++ (code.take k).flatMap lineW))) code.length ?_ ?_
  · refine ⟨0, rfl, ?_⟩
    simp (config := { maxSteps := 1000000 }) only [go_sem,↓reduceIte,List.take_zero, List.flatMap_nil, List.append_nil]
    exact ⟨rfl, rfl⟩
  clear hR hn1 hn2 hb1 hb2
  have hn2 := numL_len (l := [code.length, e]) (by simp; omega)
  simp only [List.length_cons, List.length_nil] at hn2
  rintro n f g1 ob1 ⟨k, hk, q1, e1, o1, q5, q4, o4⟩
  simp only at q1 e1 o1 q5 q4 o4
  unfold codeD at o1
  have hw := wrap_succ (k := k) (by omega)
  have hll := lines_len (l := code.take k) (fun w h => hcw w (List.mem_of_mem_take h))
  rw [List.length_take] at hll
  have hbl : (numL [code.length, e] ++ (code.take k).flatMap lineW).length ≤ 100000000 := by rw [List.length_append]; omega
  by_cases hlt : k < code.length
  case neg =>
    have hki : ¬ (k : Int) < (code.length : Int) := by omega
    obtain rfl : k = code.length := by omega
    rw [List.take_of_length_le (Nat.le_refl _)] at q4 o4 hbl
    simp (config := { maxSteps := 1000000 }) only [go_sem,↓reduceIte,q5, q1, e1, o1, List.length_map, hki, q4, o4, byC_len, Nat.mul_one]
    rw [List.take_of_length_le (Nat.le_of_eq (byC_len _)), u8s_by]
    simp (config := { maxSteps := 1000000 }) only [go_sem,↓reduceIte,back_by]
    exact ⟨Nat.le_refl _, rfl⟩
  have hki : (k : Int) < (code.length : Int) := by omega
  have hk0 : (0 : Int) ≤ (k : Int) := by omega
  obtain ⟨w, hcg⟩ := getq hlt
  have hc2 : (code.map fun n => ([.int .u32 (n : Nat)] : List D))[k]? = some [.int .u32 (w : Nat)] := by rw [List.getElem?_map, hcg]; rfl
  have hww := hcw w (List.mem_of_getElem? hcg)
  have htk : numL [code.length, e] ++ (code.take (k + 1)).flatMap lineW = (numL [code.length, e] ++ (code.take k).flatMap lineW) ++ lineW w := by rw [List.take_add_one, hcg, List.flatMap_append]; simp
  have hlwl := lineW_len hww
  have hlne : lineW w ≠ [] := by unfold lineW; split <;> simp [numL]
  have hlw : lineW w = if rightI (w / 16777216 : Nat) (w / 1048576 % 16 : Nat) (w / 65536 % 16 : Nat) (w % 65536 : Nat) = true then numL [w / 16777216, w / 1048576 % 16, w / 65536 % 16, w % 65536] else [48, 32] ++ dec w ++ [10] := rfl
  have hdl := dec_len (n := w) (by omega)
  have hx : (byC (lineW w)).length = (lineW w).length := byC_len _
  obtain ⟨T, hT⟩ : ∃ T, T = numL [code.length, e] ++ (code.take k).flatMap lineW := ⟨_, rfl⟩
  rw [← hT] at htk hbl q4 o4
  have hTl := byC_len T
  have hcl : List.take T.length (byC T) ++ List.take (lineW w).length ((lineW w).map fun b => C.d (byteD b)) = byC (T ++ lineW w) := by
    rw [List.take_of_length_le (by rw [hTl]; exact Nat.le_refl _), List.take_of_length_le (by simp), byC_app]; rfl
  simp (config := { maxSteps := 1000000 }) only [go_sem,↓reduceIte,q5, q1, e1, o1, hki, hk0, hc2, List.length_map]
  refine hook_call rfl (by simp (config := { maxSteps := 1000000 }) only [go_sem,↓reduceIte]; exact DecodeR_A w hww) (by simp (config := { maxSteps := 1000000 }) only [go_sem,↓reduceIte]; rfl) ?_
  rintro _ rfl
  unfold decV
  cases hR : rightI (w / 16777216 : Nat) (w / 1048576 % 16 : Nat) (w / 65536 % 16 : Nat) (w % 65536 : Nat)
  · rw [hR, if_neg (by decide)] at hlw
    unfold instV
    have hf : (48 :: 32 :: (dec w ++ [10]) : Str) = lineW w := hlw.symm
    simp (config := { maxSteps := 1000000 }) only [go_sem,↓reduceIte,q5, q1, e1, o1, hki, hk0, hc2, List.length_map]
    refine hook_call rfl (by simp (config := { maxSteps := 1000000 }) only [go_sem,↓reduceIte]; exact TextR_A w hww) (by simp (config := { maxSteps := 1000000 }) only [go_sem,↓reduceIte]; rfl) ?_
    rintro _ rfl
    simp (config := { maxSteps := 1000000 }) only [go_sem,↓reduceIte,hf, q4, o4, elemTy, q5, hw]
    refine ⟨by omega, by omega, by omega, Nat.le_refl _, ⟨by decide, by omega⟩, ?_⟩
    refine round_end (n - 1) (by omega) ⟨k + 1, by omega, ?_⟩
    rw [htk]
    simp (config := { maxSteps := 1000000 }) only [go_sem,↓reduceIte,q1, e1, o1, List.length_append]
    exact ⟨rfl, hcl⟩
  · rw [hR, if_pos rfl, numL_four] at hlw
    unfold instV
    simp (config := { maxSteps := 1000000 }) only [go_sem,↓reduceIte,q5, q1, e1, o1, hki, hk0, hc2, List.length_map]
    refine hook_call rfl (by simp (config := { maxSteps := 1000000 }) only [go_sem,↓reduceIte]; exact TextR_A w hww) (by simp (config := { maxSteps := 1000000 }) only [go_sem,↓reduceIte]; rfl) ?_
    rintro _ rfl
    simp (config := { maxSteps := 1000000 }) only [go_sem,↓reduceIte,q4, o4, elemTy, q5, hw]
    refine ⟨by omega, draw_calls Tt_ok mixed (by decide +kernel) ?_⟩
    simp (config := { maxSteps := 1000000 }) only [go_sem,↓reduceIte]
    refine quiet_call rfl (number_A (w / 16777216) (by omega)) (frzVs_data rfl) rfl ?_
    have b1 := dec_len (n := w / 16777216) (by omega)
    have b2 := dec_len (n := w / 1048576 % 16) (by omega)
    have b3 := dec_len (n := w / 65536 % 16) (by omega)
    have b4 := dec_len (n := w % 65536) (by omega)
    simp (config := { maxSteps := 1000000 }) only [go_sem,↓reduceIte]
    refine ⟨by omega, quiet_call rfl (number_A (w / 1048576 % 16) (by omega)) (frzVs_data rfl) rfl ?_⟩
    simp (config := { maxSteps := 1000000 }) only [go_sem,↓reduceIte]
    refine ⟨by simp only [List.length_append, List.length_cons, List.length_nil]; omega, by simp only [List.length_append, List.length_cons, List.length_nil]; omega, quiet_call rfl (number_A (w / 65536 % 16) (by omega)) (frzVs_data rfl) rfl ?_⟩
    simp (config := { maxSteps := 1000000 }) only [go_sem,↓reduceIte]
    refine ⟨by simp only [List.length_append, List.length_cons, List.length_nil]; omega, by simp only [List.length_append, List.length_cons, List.length_nil]; omega, quiet_call rfl (number_A (w % 65536) (by omega)) (frzVs_data rfl) rfl ?_⟩
    simp (config := { maxSteps := 1000000 }) only [go_sem,↓reduceIte,← hlw, q4, o4, elemTy, q5, hw]
    refine ⟨by simp only [List.length_append, List.length_cons, List.length_nil]; omega, by simp only [List.length_append, List.length_cons, List.length_nil]; omega, by omega, Nat.le_refl _, ⟨by decide, by omega⟩, ?_⟩
    refine round_end (n - 1) (by omega) ⟨k + 1, by omega, ?_⟩
    rw [htk]
    simp (config := { maxSteps := 1000000 }) only [go_sem,↓reduceIte,q1, e1, o1, List.length_append]
    exact ⟨rfl, hcl⟩

end Go.Proofs.YtiaalcpkhlnpcaaGreatDoor

namespace Go.Proofs.YtiaalcpkhlnpcaaGreatDoor
open Go Go.Am Go.Asm

theorem frz_ag2 {s : St} {c1 c2 : C} {x1 x2 : D} (h1 : Frz s c1 x1) (h2 : Frz s c2 x2) : FrzV s (.agg [c1, c2]) (.agg [.d x1, .d x2]) :=
  ⟨[x1, x2], rfl, fun i c hc => by match i, hc with | 0, hc => cases hc; exact ⟨_, rfl, h1⟩ | 1, hc => cases hc; exact ⟨_, rfl, h2⟩, rfl⟩

theorem nums_a : numbersV [436207616, 5] 3 = .tup [sv [50, 32, 51, 10, 50, 54, 32, 48, 32, 48, 32, 48, 10, 48, 32, 53, 10], iv .i64 0] := by
  have d2 : dec 2 = [50] := decs_small (by decide)
  have d3 : dec 3 = [51] := decs_small (by decide)
  have d0 : dec 0 = [48] := decs_small (by decide)
  have d5 : dec 5 = [53] := decs_small (by decide)
  have d26 : dec 26 = [50, 54] := by rw [decs_big (by decide), show 26 / 10 = 2 by decide, d2]; rfl
  have h1 : lineW 436207616 = [50, 54, 32, 48, 32, 48, 32, 48, 10] := by
    unfold lineW
    rw [if_pos (by decide), show 436207616 / 16777216 = 26 by decide, show 436207616 / 1048576 % 16 = 0 by decide, numL_four, d26, d0]; rfl
  have h2 : lineW 5 = [48, 32, 53, 10] := by
    unfold lineW
    rw [if_neg (by decide), d5]; rfl
  unfold numbersV
  rw [if_pos (by decide)]
  unfold numsT
  rw [show [436207616, 5].length = 2 from rfl, show (3 : Int).toNat = 3 from rfl, numL_two, d2, d3, List.flatMap_cons, List.flatMap_cons, List.flatMap_nil, h1, h2]
  rfl
theorem nums_b : numbersV [] (-1) = .tup [sv [], iv .i64 1] := by
  unfold numbersV
  rw [if_neg (by decide)]

set_option maxHeartbeats 8000000 in
theorem awake_G {o : Hold} (hp : PowO o) (ht : TokO o) : PureG Tryz.prog 5 o 4 [] (· = bv true) := by
  refine pure_of_wpG2 0 5 o Tt_ok mixed Tryz.func4 rfl (by rfl) [.tmp 0] rfl (by kernel_rfl) (by kernel_rfl) (by simp [Tryz.ntmps4]) fun b₀ β0 s0 w0 g => ?_
  simp (config := { maxSteps := 1000000 }) only [go_sem,↓reduceIte]
  refine hook_viewG (xs := [imgZ [436207616, 5] 3]) kept_phiG (fun s β ds w h => h.1.2) rfl ?_ (Numbers_G hp [436207616, 5] 3 (by simp)) (by rintro _ rfl; rw [nums_a]; rfl) ?_
  · simp (config := { maxSteps := 1000000 }) only [go_sem,↓reduceIte]
    exact ⟨_, _, rfl, frz_ag2 (frz_code (code := [436207616, 5]) (by simp [upd]) (by simp [upd]) rfl) (.d _), rfl⟩
  rintro _ rfl
  rw [nums_a]
  simp (config := { maxSteps := 1000000 }) only [go_sem,↓reduceIte]
  refine hook_viewG (xs := [imgZ [] (-1)]) kept_phiG (fun s β ds w h => h.1.2) rfl ?_ (Numbers_G hp [] (-1) (by simp)) (by rintro _ rfl; rw [nums_b]; rfl) ?_
  · simp (config := { maxSteps := 1000000 }) only [go_sem,↓reduceIte]
    exact ⟨_, _, rfl, frz_ag2 (.d .nsl) (.d _), rfl⟩
  rintro _ rfl
  rw [nums_b]
  simp (config := { maxSteps := 1000000 }) only [go_sem,↓reduceIte]
  refine hook_callG kept_phiG (fun s β ds w h => h.1.2) rfl (by simp (config := { maxSteps := 1000000 }) only [go_sem,↓reduceIte]; exact Grow_G ht 100) (by simp (config := { maxSteps := 1000000 }) only [go_sem,↓reduceIte]; rfl) ?_
  rintro _ rfl
  simp (config := { maxSteps := 1000000 }) only [go_sem,↓reduceIte]

set_option maxHeartbeats 8000000 in
theorem ChainNumbers_G {o : Hold} (hp : PowO o) (ht : TokO o) (code : List Nat) (d : Int) (hcw : ∀ w ∈ code, w < 4294967296) : PureG Tryz.prog 5 o 3 [imgZ code d] (· = bv true) := by
  refine pure_of_wpG2 0 5 o Tt_ok mixed Tryz.func3 rfl (by rfl) [.tmp 2] rfl (by kernel_rfl) (by kernel_rfl) (by simp [Tryz.ntmps3]) fun b₀ β0 s0 w0 g => ?_
  have hN := Numbers_G hp code d hcw
  have hM := NumbersR_A code d hcw
  unfold imgZ codeD at hN hM ⊢
  simp (config := { maxSteps := 1000000 }) only [go_sem,↓reduceIte]
  refine hook_callG kept_phiG (fun s β ds w h => h.1.2) rfl (by simp (config := { maxSteps := 1000000 }) only [go_sem,↓reduceIte]; exact awake_G hp ht) (by simp (config := { maxSteps := 1000000 }) only [go_sem,↓reduceIte]; rfl) ?_
  rintro _ rfl
  simp (config := { maxSteps := 1000000 }) only [go_sem,↓reduceIte,List.length_map]
  intro _
  refine hook_callG kept_phiG (fun s β ds w h => h.1.2) rfl (by simp (config := { maxSteps := 1000000 }) only [go_sem,↓reduceIte]; exact hN) (by simp (config := { maxSteps := 1000000 }) only [go_sem,↓reduceIte]; rfl) ?_
  rintro _ rfl
  unfold numbersV at hM ⊢
  cases hm : mayI code d
  · rw [hm] at hM
    simp (config := { maxSteps := 1000000 }) only [go_sem,↓reduceIte]
    refine hook_callF kept_phiG rfl (by simp (config := { maxSteps := 1000000 }) only [go_sem,↓reduceIte]; exact hM) (by simp (config := { maxSteps := 1000000 }) only [go_sem,↓reduceIte]; rfl) ?_
    rintro _ rfl
    simp (config := { maxSteps := 1000000 }) only [go_sem,↓reduceIte]
  · rw [hm] at hM
    simp (config := { maxSteps := 1000000 }) only [go_sem,↓reduceIte]
    refine hook_callF kept_phiG rfl (by simp (config := { maxSteps := 1000000 }) only [go_sem,↓reduceIte]; exact hM) (by simp (config := { maxSteps := 1000000 }) only [go_sem,↓reduceIte]; rfl) ?_
    rintro _ rfl
    simp (config := { maxSteps := 1000000 }) only [go_sem,↓reduceIte]

end Go.Proofs.YtiaalcpkhlnpcaaGreatDoor

namespace Go.Am
section
variable {P : Program} {t : TypeId} {ds : List D}

theorem HasS.inv_bool (h : HasS P t ds) (hu : P.underlying t = some .bool) : ∃ b, ds = [.bool b] := by
  cases h with
  | bool _ b => exact ⟨b, rfl⟩
  | int hu' => rw [hu] at hu'; cases hu'
  | str hu' => rw [hu] at hu'; cases hu'
  | sl hu' => rw [hu] at hu'; cases hu'
  | struct hu' => rw [hu] at hu'; cases hu'
  | array hu' => rw [hu] at hu'; cases hu'
theorem HasS.inv_int {k : IntKind} (h : HasS P t ds) (hu : P.underlying t = some (.int k)) : ∃ m, ds = [.int k m] ∧ (Lit.int k m).wf = true := by
  cases h with
  | int hu' m hw => rw [hu] at hu'; cases hu'; exact ⟨m, rfl, hw⟩
  | bool hu' => rw [hu] at hu'; cases hu'
  | str hu' => rw [hu] at hu'; cases hu'
  | sl hu' => rw [hu] at hu'; cases hu'
  | struct hu' => rw [hu] at hu'; cases hu'
  | array hu' => rw [hu] at hu'; cases hu'
theorem HasS.inv_str (h : HasS P t ds) (hu : P.underlying t = some .string) : ∃ s, ds = [.str s] ∧ s.length ≤ reachBytes := by
  cases h with
  | str _ s hl => exact ⟨s, rfl, hl⟩
  | bool hu' => rw [hu] at hu'; cases hu'
  | int hu' => rw [hu] at hu'; cases hu'
  | sl hu' => rw [hu] at hu'; cases hu'
  | struct hu' => rw [hu] at hu'; cases hu'
  | array hu' => rw [hu] at hu'; cases hu'
theorem HasS.inv_sl {e : TypeId} (h : HasS P t ds) (hu : P.underlying t = some (.slice e)) : ∃ es, ds = [.sl es] ∧ es.length * P.bytesOf e ≤ reachBytes ∧ ∀ x ∈ es, HasS P e x := by
  cases h with
  | sl hu' es hl hh => rw [hu] at hu'; cases hu'; exact ⟨es, rfl, hl, hh⟩
  | bool hu' => rw [hu] at hu'; cases hu'
  | int hu' => rw [hu] at hu'; cases hu'
  | str hu' => rw [hu] at hu'; cases hu'
  | struct hu' => rw [hu] at hu'; cases hu'
  | array hu' => rw [hu] at hu'; cases hu'
theorem HasS.inv_struct {fs : Array Field} (h : HasS P t ds) (hu : P.underlying t = some (.struct fs)) : ∃ parts : List (List D), ds = parts.flatten ∧ parts.length = fs.toList.length ∧ ∀ (i : Nat) (f : Field) (x : List D), fs.toList[i]? = some f → parts[i]? = some x → HasS P f.type x := by
  cases h with
  | struct hu' parts hl hh => rw [hu] at hu'; cases hu'; exact ⟨parts, rfl, hl, hh⟩
  | bool hu' => rw [hu] at hu'; cases hu'
  | int hu' => rw [hu] at hu'; cases hu'
  | str hu' => rw [hu] at hu'; cases hu'
  | sl hu' => rw [hu] at hu'; cases hu'
  | array hu' => rw [hu] at hu'; cases hu'
theorem HasS.inv_array {n e : Nat} (h : HasS P t ds) (hu : P.underlying t = some (.array n e)) : ∃ parts : List (List D), ds = parts.flatten ∧ parts.length = n ∧ ∀ x ∈ parts, HasS P e x := by
  cases h with
  | array hu' parts hl hs hh => rw [hu] at hu'; cases hu'; exact ⟨parts, rfl, hl, hh⟩
  | bool hu' => rw [hu] at hu'; cases hu'
  | int hu' => rw [hu] at hu'; cases hu'
  | str hu' => rw [hu] at hu'; cases hu'
  | sl hu' => rw [hu] at hu'; cases hu'
  | struct hu' => rw [hu] at hu'; cases hu'

/-- A list of things that are each the image of something. -/
theorem list_of {α β : Type} {f : β → α} {Q : β → Prop} : ∀ {l : List α}, (∀ x ∈ l, ∃ y, x = f y ∧ Q y) → ∃ m : List β, l = m.map f ∧ ∀ y ∈ m, Q y
  | [], _ => ⟨[], rfl, fun _ h => by cases h⟩
  | x :: l, h => by
    obtain ⟨y, rfl, hy⟩ := h x (by simp)
    obtain ⟨m, rfl, hm⟩ := list_of (l := l) fun x hx => h x (by simp [hx])
    exact ⟨y :: m, rfl, fun z hz => by
      rcases List.mem_cons.1 hz with rfl | hz
      · exact hy
      · exact hm z hz⟩
end
end Go.Am

namespace Go.Proofs.YtiaalcpkhlnpcaaGreatDoor
open Go Go.Am Go.ChangeShapes Go.WideShapes Go.ChangeAt Go.RowKit Go.Lib
set_option maxRecDepth 100000

theorem own : ownKnob Tryz.prog.godebug = none := by kernel_rfl
theorem laidOut : laidOutB Tryz.prog = true := by kernel_rfl
def laidV : List (String × DataW Unit) := [("math/bits.deBruijn32tab", Rows.laid_math_bits_deBruijn32tab), ("math/bits.deBruijn64tab", Rows.laid_math_bits_deBruijn64tab), ("internal/strconv.uint64pow10", Rows.laid_internal_strconv_uint64pow10), ("seedcorn/hex.small", Rows.laid_seedcorn_hex_small), ("seedcorn/token.words", Rows.laid_seedcorn_token_words), ("seedcorn/token.signs", Rows.laid_seedcorn_token_signs)]

theorem reach_eq : reachBytes = 140737488351232 := by kernel_rfl
theorem u9 : Tryz.prog.underlying 9 = some .string := by kernel_rfl
theorem u4 : Tryz.prog.underlying 4 = some .bool := by kernel_rfl
theorem u3 : Tryz.prog.underlying 3 = some (.int .i64) := by kernel_rfl
theorem u30 : Tryz.prog.underlying 30 = some (.int .u32) := by kernel_rfl
theorem u63 : Tryz.prog.underlying 63 = some (.int .u64) := by kernel_rfl
theorem u22 : Tryz.prog.underlying 22 = some (.slice 30) := by kernel_rfl
def fieldTys : Option TypeDesc → Option (List TypeId)
  | some (.struct fs) => some (fs.toList.map (·.type))
  | _ => none
theorem u24 : ∃ fs : Array Field, Tryz.prog.underlying 24 = some (.struct fs) ∧ fs.toList.map (·.type) = [22, 3] := by
  have h : fieldTys (Tryz.prog.underlying 24) = some [22, 3] := by kernel_rfl
  cases hu : Tryz.prog.underlying 24 with
  | none => rw [hu] at h; cases h
  | some d =>
    rw [hu] at h
    cases d with
    | struct fs => exact ⟨fs, rfl, Option.some.inj h⟩
    | _ => cases h

theorem has_img {x : List D} (h : HasS Tryz.prog 24 x) : ∃ code d, x = [codeD code, .int .i64 d] ∧ ∀ w ∈ code, w < 4294967296 := by
  obtain ⟨fs, h1, h2⟩ := u24
  obtain ⟨parts, rfl, hl, hp⟩ := h.inv_struct h1
  have hlen : fs.toList.length = 2 := by have := congrArg List.length h2; simpa using this
  have hty : ∀ (i : Nat) (ty : TypeId) (x : List D), [22, 3][i]? = some ty → parts[i]? = some x → HasS Tryz.prog ty x := fun i ty x hi hx => by
    rw [← h2, List.getElem?_map] at hi
    cases hf : fs.toList[i]? with
    | none => rw [hf] at hi; cases hi
    | some f => rw [hf] at hi; cases hi; exact hp i f x hf hx
  rw [hlen] at hl
  match parts, hl with
  | [a, b], _ =>
    obtain ⟨es, rfl, _, he⟩ := (hty 0 22 a rfl rfl).inv_sl u22
    obtain ⟨m, rfl, hm⟩ := list_of (f := fun (n : Nat) => [D.int .u32 n]) (Q := fun n => n < 4294967296) fun x hx => by
      obtain ⟨n, rfl, hb⟩ := (he x hx).inv_int u30
      have hw : IntKind.u32.min ≤ n ∧ n ≤ IntKind.u32.max := by simpa [Lit.wf] using hb
      have h1 : IntKind.u32.min = 0 := by decide
      have h2 : IntKind.u32.max = 4294967295 := by decide
      obtain ⟨k, rfl⟩ : ∃ k : Nat, n = (k : Int) := ⟨n.toNat, by omega⟩
      exact ⟨k, rfl, by omega⟩
    obtain ⟨d, rfl, _⟩ := (hty 1 3 b rfl rfl).inv_int u3
    exact ⟨m, d, rfl, hm⟩
theorem agg_of {v : Value} {cs : List Value} {n : Nat} (h : v.cells.toList = cs) (hl : cs.length = n + 2) : v = .agg cs.toArray := by
  subst h
  cases v with
  | agg vs => simp [Value.cells]
  | _ => simp [Value.cells] at hl

def tys : List TypeId := [3, 22, 24, 30]
theorem closed_tys : closedT Tryz.prog tys = true := by kernel_rfl

/-- An array of texts that reads as the list holds the list's texts, cell for cell. -/
theorem cells_of_strs {H : Type} {enc : TypeId × Value → H} {P : Program} {w : World} {base : Nat} {sp : Nat → Bool} {held : Bool} {fuel : Nat} {t e : TypeId} {n : Nat} {cs : List Value} {zs : List (List UInt8)} {p : List MemPlace}
    (ht : P.underlying t = some (.array n e)) (he : P.underlying e = some .string) (hce : P.cellsOf e = 1) (hct : P.cellsOf t = n)
    (h : DataW.trod enc P w base sp held fuel t cs = some (DataW.agg (zs.map fun z => .lit (.string z)), p)) : ∀ (i : Nat) z, zs[i]? = some z → cs[i]? = some (.string ⟨z.toArray⟩) := by
  cases fuel with
  | zero => simp [DataW.trod] at h
  | succ fuel =>
    simp only [DataW.trod, ht, hce, hct, Nat.mul_one] at h
    split at h
    · obtain ⟨xs, hm, hx⟩ := Option.map_eq_some_iff.1 h
      have hxs : xs.map (·.1) = zs.map fun z => (DataW.lit (.string z) : DataW H) := by
        have := congrArg Prod.fst hx
        simpa using this
      have hxl : xs.length = n := by simpa using mapM_length hm
      have hzl : zs.length = n := by
        have := congrArg List.length hxs
        simp at this
        omega
      intro i z hz
      have hi : i < n := by
        have := (List.getElem?_eq_some_iff.1 hz).1
        omega
      obtain ⟨b, hb, hf⟩ := mapM_at hm i i (by simp [hi])
      obtain ⟨s, hc, rfl, _⟩ := DataW.trod_string he hf
      have h1 : cs[i]? = some (.string s) := by
        have := congrArg (·[0]?) hc
        simpa [List.getElem?_take, List.getElem?_drop] using this
      have h2 : (xs.map (·.1))[i]? = some (DataW.lit (.string s.data.toList) : DataW H) := by simp [hb]
      rw [hxs, List.getElem?_map, hz] at h2
      have h3 : z = s.data.toList := by simpa using h2
      rw [h1, h3]
    · cases h

theorem var_same {W w : World} {P : Program} {n : String} {g : Nat} (hn : P.globalNamed n = some g) (he : w.heap[g]? = W.heap[g]?) : w.var? P n = W.var? P n := by
  unfold World.var?
  rw [hn]
  show (match w.heap[g]? with | some (.cells cs _ _) => some cs | _ => none) = (match W.heap[g]? with | some (.cells cs _ _) => some cs | _ => none)
  rw [he]

theorem tabs_held {W : World} (h : laidMetH Tryz.prog laidV W) : ∃ o, Held 5 o W ∧ PowO o ∧ TokO o := by
  rw [MakeChecks.laidMetH_plain _ _ _ (by kernel_rfl)] at h
  have hpow : TabIs Tryz.prog W "internal/strconv.uint64pow10" .u64 pow10Tab := by
    obtain ⟨g, t, cs, fuel, p, hg, hty, hvar, hd⟩ := laidMet.reads h (n := "internal/strconv.uint64pow10") (d := Rows.laid_internal_strconv_uint64pow10) (by simp [laidV])
    obtain rfl := Option.some.inj ((show Tryz.prog.globalNamed "internal/strconv.uint64pow10" = some 1 by kernel_rfl).symm.trans hg)
    obtain rfl := Option.some.inj ((show (Tryz.prog.globals[1]?).map (·.type) = some 187 by kernel_rfl).symm.trans hty)
    have hcs := cells_of_tab (H := Unit) (k := .u64) (zs := pow10Tab) (show Tryz.prog.underlying 187 = some (.array 20 63) by kernel_rfl) u63 (by kernel_rfl) (by kernel_rfl) hd
    unfold TabIs
    rw [hvar, ← hcs]
  have hwordsT : ∀ (i : Nat) z, Src.wordsT[i]? = some z → W.cell? ⟨5, i, none⟩ = some (.string ⟨z.toArray⟩) := by
    obtain ⟨g, t, cs, fuel, p, hg, hty, hvar, hd⟩ := laidMet.reads h (n := "seedcorn/token.words") (d := Rows.laid_seedcorn_token_words) (by simp [laidV])
    obtain rfl := Option.some.inj ((show Tryz.prog.globalNamed "seedcorn/token.words" = some 5 by kernel_rfl).symm.trans hg)
    obtain rfl := Option.some.inj ((show (Tryz.prog.globals[5]?).map (·.type) = some 269 by kernel_rfl).symm.trans hty)
    intro i z hz
    have hc := cells_of_strs (H := Unit) (zs := Src.wordsT) (show Tryz.prog.underlying 269 = some (.array 10 9) by kernel_rfl) u9 (by kernel_rfl) (by kernel_rfl) hd i z hz
    rw [World.var?_cell hg hvar i, ← Array.getElem?_toList]
    exact hc
  have hsignsT : ∀ (i : Nat) z, Src.signsT[i]? = some z → W.cell? ⟨2, i, none⟩ = some (.string ⟨z.toArray⟩) := by
    obtain ⟨g, t, cs, fuel, p, hg, hty, hvar, hd⟩ := laidMet.reads h (n := "seedcorn/token.signs") (d := Rows.laid_seedcorn_token_signs) (by simp [laidV])
    obtain rfl := Option.some.inj ((show Tryz.prog.globalNamed "seedcorn/token.signs" = some 2 by kernel_rfl).symm.trans hg)
    obtain rfl := Option.some.inj ((show (Tryz.prog.globals[2]?).map (·.type) = some 222 by kernel_rfl).symm.trans hty)
    intro i z hz
    have hc := cells_of_strs (H := Unit) (zs := Src.signsT) (show Tryz.prog.underlying 222 = some (.array 24 9) by kernel_rfl) u9 (by kernel_rfl) (by kernel_rfl) hd i z hz
    rw [World.var?_cell hg hvar i, ← Array.getElem?_toList]
    exact hc
  have h0 := hwordsT 0 _ rfl
  have hlt : 5 < W.heap.size := by
    refine Nat.lt_of_not_le fun hle => ?_
    simp [World.cell?, Array.getElem?_eq_none hle] at h0
  refine ⟨fun b => W.heap[b]?, ⟨hlt, fun _ _ => rfl⟩, fun w hw => ?_, fun w hw => ⟨fun i t ht => ?_, fun i t ht => ?_⟩⟩
  · unfold TabIs
    rw [var_same (show Tryz.prog.globalNamed "internal/strconv.uint64pow10" = some 1 by kernel_rfl) (hw.2 1 (by decide))]
    exact hpow
  · rw [← hwordsT i t ht]
    unfold World.cell?
    rw [show w.heap[5]? = W.heap[5]? from hw.2 5 (by decide)]
  · rw [← hsignsT i t ht]
    unfold World.cell?
    rw [show w.heap[2]? = W.heap[2]? from hw.2 2 (by decide)]

end Go.Proofs.YtiaalcpkhlnpcaaGreatDoor

namespace Go.Proofs.YtiaalcpkhlnpcaaGreatDoor
open Go Go.Am
set_option maxRecDepth 100000

def cloL : List FuncId := [3, 4, 5, 8, 10, 9, 26, 40, 27, 41, 66, 67, 68, 95, 94, 96, 69, 70, 97, 98, 124, 125, 13, 11, 28, 42, 43, 44, 12, 29, 45, 7, 18, 31, 50, 51, 74, 103, 75, 76, 104, 73, 77, 78, 105, 133, 173, 174, 196, 198, 197, 206, 175, 176, 49, 71, 99, 126, 100, 101, 102, 127, 128, 129, 130, 132, 131, 134, 72, 52, 79, 80, 106, 81, 107, 135, 108, 136, 32, 33, 53, 82, 109, 137, 177, 138, 178, 140, 141, 139, 179, 180, 110, 142, 181, 182, 187, 199, 183, 184, 185, 143, 186, 144, 83, 84, 111, 112, 54, 55, 57, 87, 117, 170, 189, 190, 200, 171, 191, 201, 118, 56, 85, 113, 145, 146, 147, 148, 188, 149, 86, 114, 150, 151, 115, 152, 153, 154, 155, 156, 157, 158, 159, 160, 161, 162, 163, 164, 165, 166, 167, 168, 116, 169, 63, 34, 35, 58, 21, 22, 37, 61, 90, 60, 89, 23, 19, 20, 36, 59, 88, 119, 24, 38, 62, 25, 39, 65, 64, 91, 92, 120, 121, 122, 123, 172, 192, 193, 202, 194, 195, 203, 204, 205, 93, 6, 14, 15, 17, 16, 30, 46, 47, 48]
theorem clo : Tryz.prog.closure 3 = cloL := by kernel_rfl
theorem k_unf : Tryz.prog.unfollowed 3 = true := by
  unfold Program.unfollowed
  rw [clo]
  kernel_rfl
theorem k_rec : Tryz.prog.recurses 3 = true := by
  unfold Program.recurses
  rw [k_unf]
  rfl
theorem k_inp : (Rows.chainNumbersRow.inPlace == Tryz.prog.inPlace 3) = true := by
  unfold Program.inPlace
  rw [clo]
  kernel_rfl
theorem k_nam : (Rows.chainNumbersRow.named == Tryz.prog.varsNamed 3) = true := by
  unfold Program.varsNamed
  rw [clo]
  kernel_rfl
theorem k_goes : Tryz.prog.goes 3 = false := by
  unfold Program.goes
  rw [clo, k_unf]
  kernel_rfl
theorem k_facts : joinedFacts Tryz.prog 3 Tryz.f3 Rows.chainNumbersSpec Rows.chainNumbersRow = true := by
  unfold joinedFacts
  rw [k_inp, k_nam, k_unf, k_rec]
  kernel_rfl
theorem k_goesBy : false = Rows.chainNumbersRow.goesBy Tryz.prog := by
  unfold OpenClaim.goesBy Program.goesAt Program.goesFrom
  rw [show Tryz.prog.funcNamed Rows.chainNumbersRow.func = some 3 by kernel_rfl]
  simp only [Option.any_some, k_goes, Bool.false_or]
  rfl

end Go.Proofs.YtiaalcpkhlnpcaaGreatDoor

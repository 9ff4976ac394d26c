/- A function's code; a program's. -/
import Derived.Test.YthengcpckdlpgaaL11
import Derived.Test.YthengcpckdlpgaaAm23
set_option linter.unusedSimpArgs false
set_option linter.unusedVariables false
namespace Go.Proofs.Ythengcpckdlpgaa
open Go Go.Am Go.Lower

def insD (x : Ins) : List D := [.int .i64 x.op, .int .i64 x.a, .int .i64 x.b, .int .u32 x.n]
abbrev insV (l : Lower.Code) : D := .sl ((l.map Prod.fst).map insD)

theorem stmts_A {w : Int} {ps : Sig} {fi : Nat} {fw : Bool} {l : List Stm} {lv : Int} (hN : sizeSs l ≤ 100000000000) (hr : rSs w ps fi fw lv l) : Writes 24 [slS l] (codeSs l) :=
  stmts_of (by omega) fun k s hs => stmt_A (sizeS s) s lv (Nat.le_refl _) (by have := sizeS_lt hs; omega) (rSs_get hr hs)

set_option maxHeartbeats 4000000 in
set_option maxRecDepth 100000 in
theorem body_A {w : Int} {ps : Sig} {fi : Nat} {fw : Bool} {x : Fn} (hr : rSs w ps fi fw 1 x.body) (hN : sizeSs x.body ≤ 100000000000) (hl : (codeOf x.word x.body).length ≤ 1000000000) :
    PureR Try.prog 16 [.agg ((fnD x).map .d)] (· = .one (.d (insV (codeOf x.word x.body)))) := by
  refine pure_of_wp Tt_ok mixed Try.func16 rfl (by rfl) [2] rfl (by kernel_rfl) (by simp [Try.ntmps16]) fun g => ?_
  have hl2 : (cSs x.word 0 x.body).length + (leave x.word).length ≤ 1000000000 := by rw [codeOf, List.length_append] at hl; exact hl
  simp (config := { maxSteps := 1000000 }) only [go_sem, ↓reduceIte, Nat.reduceEqDiff, Nat.reduceAdd, Nat.reduceMul, Nat.reduceSub, Nat.reduceLT, Nat.reduceLeDiff, Int.reduceLT, Int.reduceLE, Int.reduceEq, Int.reduceNe, Int.reduceAdd, Int.reduceNeg, Int.reduceToNat, fnD, List.length_map]
  refine hook_vs _ (vs_claimAt (t := 3) (o := 3) (b := 20) (j := 1) (sz := 4) (off := 0) rfl rfl rfl (by decide)) ?_
  simp only [St.claimAt]
  have hp : Prog 21 21 3 20 x.word [] (upd (upd (upd g 1 (g 1 + 1)) 3 (g 3 + 1)) 20 (g 20 + 1)) _ _ _ := Prog.start (ob := upd (upd (upd (upd (upd (fun _ => none) 1 (some [.d (.int .i64 x.params), .d (.int .i64 x.slots), .d (.int .i64 x.first), .d (.bool x.word), .d (.sl (smsD x.body))])) 3 (some [.d (.bool false), .d .nsl])) 3 (some [.d (.bool x.word), .d .nsl])) 3 (some [.d (.bool x.word), .osl 20 (g 20 + 1) 4 0 0])) 20 (some []))
    ⟨by simp [upd], by simp [upd, insCs_nil], by decide⟩ (by decide) (by decide) (fun i hi => by simp only [upd]; rw [if_neg (by omega), if_neg (by omega), if_neg (by omega), if_neg (by omega), if_neg (by omega)]) (Nat.le_refl _)
  refine hook_writes (stmts_A hN hr) hp rfl (by simp [upd]) rfl (by simp only [codeSs, List.length_map, List.length_nil, Nat.zero_add]; omega) ?_
  intro g1 ob1 p1 q1 r1
  have hlc : ([] ++ codeSs x.body x.word ([] : List Ins).length).length = (cSs x.word 0 x.body).length := by simp only [codeSs, List.nil_append, List.length_map, List.length_nil]
  simp (config := { maxSteps := 1000000 }) only [go_sem, ↓reduceIte, Nat.reduceEqDiff, Nat.reduceAdd, Nat.reduceMul, Nat.reduceSub, Nat.reduceLT, Nat.reduceLeDiff, Int.reduceLT, Int.reduceLE, Int.reduceEq, Int.reduceNe, Int.reduceAdd, Int.reduceNeg, Int.reduceToNat]
  refine hook_writes leave_A p1 rfl (by simp [upd]) rfl (by rw [hlc, List.length_map]; exact hl2) ?_
  intro g2 ob2 p2 q2 r2
  have e : [] ++ codeSs x.body x.word ([] : List Ins).length ++ (leave x.word).map Prod.fst = (codeOf x.word x.body).map Prod.fst := by simp only [codeSs, codeOf, List.nil_append, List.map_append, List.length_nil]
  rw [e] at p2
  have g3 : g2 3 = g 3 + 1 := by rw [q2 3 (by decide) (by decide), q1 3 (by decide) (by decide)]; simp [upd]
  simp (config := { maxSteps := 1000000 }) only [go_sem, ↓reduceIte, Nat.reduceEqDiff, Nat.reduceAdd, Nat.reduceMul, Nat.reduceSub, Nat.reduceLT, Nat.reduceLeDiff, Int.reduceLT, Int.reduceLE, Int.reduceEq, Int.reduceNe, Int.reduceAdd, Int.reduceNeg, Int.reduceToNat, p2.tape.t, g3]
  refine ⟨_, ⟨_, frz_rows (s := ⟨_, _, _⟩) rfl ((codeOf x.word x.body).map Prod.fst) insD p2.tape.b (by rfl) (fun a _ y hy => ?_) (fun _ _ => rfl) (List.length_map _), rfl⟩, rfl⟩
  simp only [insD, List.mem_cons, List.not_mem_nil, or_false] at hy
  rcases hy with rfl | rfl | rfl | rfl <;> rfl

def sfD (x : Fn) : List D := [.int .i64 x.params, .int .i64 x.slots, .int .i64 x.first, .bool x.word, insV (codeOf x.word x.body)]
def stackC (w : Int) (fs : List Fn) : AV := .agg [.d (.int .i64 w), .d (.sl (fs.map sfD))]
theorem sfD_len (x : Fn) : (sfD x).length = 5 := rfl
theorem fnD_len (x : Fn) : (fnD x).length = 5 := rfl

/-- A program's code is short enough. -/
def Short (fs : List Fn) : Prop := ∀ x ∈ fs, (codeOf x.word x.body).length ≤ 1000000000

set_option maxHeartbeats 4000000 in
set_option maxRecDepth 100000 in
theorem Of_A {w : Int} {ps : Sig} {fs : List Fn} (hN : sizeC fs ≤ 100000000000) (hF : fs.length ≤ 1000000) (hsh : Short fs) (hr : ∀ (k : Nat) (x : Fn), fs[k]? = some x → rSs w ps k x.word 1 x.body) : PureR Try.prog 6 [coreC w fs] (· = stackC w fs) := by
  refine pure_of_wpR Tt_ok mixed Try.func6 rfl (by rfl) [.cell 2 29] rfl (by kernel_rfl) (by simp [Try.ntmps6]) fun g => ?_
  unfold coreC
  simp (config := { maxSteps := 1000000 }) only [go_sem, ↓reduceIte, Nat.reduceEqDiff, Nat.reduceAdd, Nat.reduceMul, Nat.reduceSub, Nat.reduceLT, Nat.reduceLeDiff, Int.reduceLT, Int.reduceLE, Int.reduceEq, Int.reduceNe, Int.reduceAdd, Int.reduceNeg, Int.reduceToNat, List.length_map]
  refine loop_vsB _ (vs_claimAt (t := 3) (o := 3) (b := 30) (j := 1) (sz := 5) (off := 0) rfl rfl rfl (by decide)) (fun n s => ∃ k : Nat, n + k = fs.length ∧ s.f 2 = .one (.ptr 2 (s.gen 2) 0) ∧ s.f 3 = .one (.ptr 3 (s.gen 3) 0) ∧ s.f 10 = .one (.d (.sl (fs.map fnD))) ∧ s.f 11 = iv .i64 fs.length ∧ s.f 12 = iv .i64 k ∧ s.obj 2 = some [.d (.int .i64 0), .d .nsl] ∧ s.obj 3 = some [.d (.int .i64 w), .osl 30 (s.gen 30) 5 0 k] ∧
    s.obj 30 = some ((fs.take k).flatMap fun x => (sfD x).map .d)) fs.length ?_ ?_
  · refine ⟨0, rfl, ?_⟩
    simp only [St.claimAt]
    simp (config := { maxSteps := 1000000 }) only [go_sem, ↓reduceIte, Nat.reduceEqDiff, Nat.reduceAdd, Nat.reduceMul, Nat.reduceSub, Nat.reduceLT, Nat.reduceLeDiff, Int.reduceLT, Int.reduceLE, Int.reduceEq, Int.reduceNe, Int.reduceAdd, Int.reduceNeg, Int.reduceToNat, List.flatMap_nil]
    try rfl
  · clear g
    rintro n f g ob ⟨k, hk, f2, f3, f10, f11, f12, o2, o3, o30⟩
    simp only at f2 f3 f10 f11 f12 o2 o3 o30
    have hw := wrap_succ (k := k) (by omega)
    have hfl : ∀ l : List Fn, (l.flatMap fun x => (sfD x).map C.d).length = l.length * 5 := by
      intro l
      induction l with
      | nil => rfl
      | cons a l ih => simp only [List.flatMap_cons, List.length_append, ih, List.length_map, sfD_len, List.length_cons]; omega
    by_cases hlt : k < fs.length
    · obtain ⟨x, hx⟩ := getq hlt
      have hxs : sizeSs x.body ≤ 100000000000 := by
        have h2 := sizeCTo_succ hx
        have h3 := sizeCTo_le fs (k + 1)
        omega
      have htl : (fs.take k).length = k := by rw [List.length_take]; omega
      simp (config := { maxSteps := 1000000 }) only [go_sem, ↓reduceIte, Nat.reduceEqDiff, Nat.reduceAdd, Nat.reduceMul, Nat.reduceSub, Nat.reduceLT, Nat.reduceLeDiff, Int.reduceLT, Int.reduceLE, Int.reduceEq, Int.reduceNe, Int.reduceAdd, Int.reduceNeg, Int.reduceToNat, f2, f3, f10, f11, f12, o2, o3, o30, hlt, hx, List.length_map, fnD]
      refine draw_det Tt_ok mixed [29, 30, 3] [([3], [0], [], false), ([16], [0], [], false), ([5], [], [], false), ([18], [], [], false), ([5], [], [], false), ([20], [], [], false), ([5], [], [], false), ([22], [], [], false), ([5], [], [], false), ([24], [], [], false), ([5], [], [], false), ([26], [], [], false), ([19, 21, 23, 25, 27], [], [], false), ([28], [], [0], false), ([17, 29], [], [1], false), ([3], [], [], false), ([31, 30], [], [], true)] 3 (by decide +kernel) rfl (by decide) ?_
      simp (config := { maxSteps := 1000000 }) only [go_sem, ↓reduceIte, Nat.reduceEqDiff, Nat.reduceAdd, Nat.reduceMul, Nat.reduceSub, Nat.reduceLT, Nat.reduceLeDiff, Int.reduceLT, Int.reduceLE, Int.reduceEq, Int.reduceNe, Int.reduceAdd, Int.reduceNeg, Int.reduceToNat]
      iterate 11 (apply det_pure; · (intro fa ga oa K' hK; simp (config := { maxSteps := 1000000 }) only [go_sem, ↓reduceIte, Nat.reduceEqDiff, Nat.reduceAdd, Nat.reduceMul, Nat.reduceSub, Nat.reduceLT, Nat.reduceLeDiff, Int.reduceLT, Int.reduceLE, Int.reduceEq, Int.reduceNe, Int.reduceAdd, Int.reduceNeg, Int.reduceToNat, f3, o3, setAt] at hK ⊢; exact hK))
      apply det_pure
      · intro fa ga oa K' hK
        simp (config := { maxSteps := 1000000 }) only [go_sem, ↓reduceIte, Nat.reduceEqDiff, Nat.reduceAdd, Nat.reduceMul, Nat.reduceSub, Nat.reduceLT, Nat.reduceLeDiff, Int.reduceLT, Int.reduceLE, Int.reduceEq, Int.reduceNe, Int.reduceAdd, Int.reduceNeg, Int.reduceToNat] at hK ⊢
        refine hook_pure rfl (body_A (hr k x hx) hxs (hsh x (List.mem_of_getElem? hx))) (by rfl) ?_
        rintro _ rfl
        simp (config := { maxSteps := 1000000 }) only [go_sem, ↓reduceIte, Nat.reduceEqDiff, Nat.reduceAdd, Nat.reduceMul, Nat.reduceSub, Nat.reduceLT, Nat.reduceLeDiff, Int.reduceLT, Int.reduceLE, Int.reduceEq, Int.reduceNe, Int.reduceAdd, Int.reduceNeg, Int.reduceToNat]
        exact hK
      (apply det_pure; · (intro fa ga oa K' hK; simp (config := { maxSteps := 1000000 }) only [go_sem, ↓reduceIte, Nat.reduceEqDiff, Nat.reduceAdd, Nat.reduceMul, Nat.reduceSub, Nat.reduceLT, Nat.reduceLeDiff, Int.reduceLT, Int.reduceLE, Int.reduceEq, Int.reduceNe, Int.reduceAdd, Int.reduceNeg, Int.reduceToNat, f3, o3] at hK ⊢; exact hK))
      (apply det_new; · (intro fa ga oa K' hK; simp (config := { maxSteps := 1000000 }) only [go_sem, ↓reduceIte, Nat.reduceEqDiff, Nat.reduceAdd, Nat.reduceMul, Nat.reduceSub, Nat.reduceLT, Nat.reduceLeDiff, Int.reduceLT, Int.reduceLE, Int.reduceEq, Int.reduceNe, Int.reduceAdd, Int.reduceNeg, Int.reduceToNat, f3, o3] at hK ⊢; exact hK))
      apply det_new
      · intro fa ga oa K' hK
        simp (config := { maxSteps := 1000000 }) only [go_sem, ↓reduceIte, Nat.reduceEqDiff, Nat.reduceAdd, Nat.reduceMul, Nat.reduceSub, Nat.reduceLT, Nat.reduceLeDiff, Int.reduceLT, Int.reduceLE, Int.reduceEq, Int.reduceNe, Int.reduceAdd, Int.reduceNeg, Int.reduceToNat, o30, hfl, htl] at hK ⊢
        refine ⟨?_, ?_, hK⟩
        · omega
        · exact ⟨by decide, by omega⟩
      (apply det_pure; · (intro fa ga oa K' hK; simp (config := { maxSteps := 1000000 }) only [go_sem, ↓reduceIte, Nat.reduceEqDiff, Nat.reduceAdd, Nat.reduceMul, Nat.reduceSub, Nat.reduceLT, Nat.reduceLeDiff, Int.reduceLT, Int.reduceLE, Int.reduceEq, Int.reduceNe, Int.reduceAdd, Int.reduceNeg, Int.reduceToNat, f3, o3] at hK ⊢; exact hK))
      apply det_last
      intro K' hK'
      simp (config := { maxSteps := 1000000 }) only [go_sem, ↓reduceIte, Nat.reduceEqDiff, Nat.reduceAdd, Nat.reduceMul, Nat.reduceSub, Nat.reduceLT, Nat.reduceLeDiff, Int.reduceLT, Int.reduceLE, Int.reduceEq, Int.reduceNe, Int.reduceAdd, Int.reduceNeg, Int.reduceToNat, f3, o3]
      refine hK' _ ?_
      simp (config := { maxSteps := 1000000 }) only [go_sem, ↓reduceIte, Nat.reduceEqDiff, Nat.reduceAdd, Nat.reduceMul, Nat.reduceSub, Nat.reduceLT, Nat.reduceLeDiff, Int.reduceLT, Int.reduceLE, Int.reduceEq, Int.reduceNe, Int.reduceAdd, Int.reduceNeg, Int.reduceToNat, f2, f3, f10, f11, f12, o2, hw]
      refine round_endB (n - 1) (by omega) ⟨k + 1, by omega, ?_⟩
      simp (config := { maxSteps := 1000000 }) only [go_sem, ↓reduceIte, Nat.reduceEqDiff, Nat.reduceAdd, Nat.reduceMul, Nat.reduceSub, Nat.reduceLT, Nat.reduceLeDiff, Int.reduceLT, Int.reduceLE, Int.reduceEq, Int.reduceNe, Int.reduceAdd, Int.reduceNeg, Int.reduceToNat, f2, f3, f10, f11, f12, o2, hw]
      rw [List.take_add_one, hx, List.flatMap_append, List.take_of_length_le (by rw [hfl, htl]; exact Nat.le_refl _)]
      rfl
    · have hkk : k = fs.length := by omega
      subst hkk
      simp (config := { maxSteps := 1000000 }) only [go_sem, ↓reduceIte, Nat.reduceEqDiff, Nat.reduceAdd, Nat.reduceMul, Nat.reduceSub, Nat.reduceLT, Nat.reduceLeDiff, Int.reduceLT, Int.reduceLE, Int.reduceEq, Int.reduceNe, Int.reduceAdd, Int.reduceNeg, Int.reduceToNat, f2, f3, f10, f11, f12, o2, o3, hlt, List.length_map]
      rw [List.take_length] at o30
      refine ⟨_, ⟨[.int .i64 w, .sl (fs.map sfD)], rfl, fun i c hc => ?_, rfl⟩, rfl⟩
      match i, hc with
      | 0, hc => cases hc; exact ⟨_, rfl, .d _⟩
      | 1, hc =>
        cases hc
        refine ⟨_, rfl, frz_rows (s := ⟨_, _, _⟩) rfl fs sfD ?_ rfl (fun a _ y hy => ?_) (fun _ _ => rfl) rfl⟩
        · simp only [upd]; exact o30
        · simp only [sfD, List.mem_cons, List.not_mem_nil, or_false] at hy
          rcases hy with rfl | rfl | rfl | rfl | rfl <;> rfl

end Go.Proofs.Ythengcpckdlpgaa

/- Code that is being written: statements. -/
import Derived.Test.YthengcpckdlpgaaL9
set_option linter.unusedSimpArgs false
set_option linter.unusedVariables false
namespace Go.Proofs.Ythengcpckdlpgaa
open Go Go.Am Go.Lower

abbrev ipS (s : Stm) : AV := .one (.d (.iptr (smD s)))
abbrev slS (l : List Stm) : AV := .one (.d (.sl (smsD l)))
abbrev codeS (s : Stm) : Bool → Nat → List Ins := fun word at' => (cS word at' s).map Prod.fst
abbrev codeSs (l : List Stm) : Bool → Nat → List Ins := fun word at' => (cSs word at' l).map Prod.fst

theorem cSs_snoc {word : Bool} : ∀ (l : List Stm) (k : Nat) (e : Stm) (at' : Nat), l[k]? = some e → cSs word at' (l.take (k + 1)) = cSs word at' (l.take k) ++ cS word (at' + (cSs word at' (l.take k)).length) e
  | [], k, e, at', h => by simp at h
  | x :: l, 0, e, at', h => by
    simp at h; subst h
    simp [cSs]
  | x :: l, k + 1, e, at', h => by
    have h' : l[k]? = some e := by simpa using h
    have ih := cSs_snoc (word := word) l k e (at' + (cS word at' x).length) h'
    rw [List.take_succ_cons, List.take_succ_cons, cSs, cSs, ih, List.append_assoc, List.length_append, Nat.add_assoc]
theorem cSs_le {word : Bool} : ∀ (l : List Stm) (k at' : Nat), (cSs word at' (l.take k)).length ≤ (cSs word at' l).length := by
  intro l
  induction l with
  | nil => intro k at'; simp [cSs]
  | cons x l ih =>
    intro k at'
    cases k with
    | zero => simp [cSs]
    | succ k =>
      rw [List.take_succ_cons, cSs, cSs, List.length_append, List.length_append]
      have := ih k (at' + (cS word at' x).length)
      omega

theorem rSs_get {w : Int} {ps : Sig} {f : Nat} {word : Bool} {lv : Int} : ∀ {l : List Stm} {k : Nat} {e : Stm}, rSs w ps f word lv l → l[k]? = some e → rS w ps f word lv e
  | [], k, e, _, h => by simp at h
  | x :: l, 0, e, hr, h => by simp at h; subst h; rw [rSs] at hr; exact hr.1
  | x :: l, k + 1, e, hr, h => by rw [rSs] at hr; exact rSs_get hr.2 (by simpa using h)

theorem sizeS_lt {l : List Stm} {k : Nat} {e : Stm} (h : l[k]? = some e) : sizeS e < sizeSs l := by
  have h2 := ssTo_succ h
  have h3 := ssTo_le l (k + 1)
  have hk := (List.getElem?_eq_some_iff.1 h).1
  have h4 : l.length ≤ ssTo l k := by unfold ssTo; omega
  omega

theorem smD_len (e : Stm) : (smD e).length = 6 := by cases e; simp [smD]

set_option maxHeartbeats 4000000 in
set_option maxRecDepth 100000 in
theorem stmts_of {l : List Stm} (hN : sizeSs l ≤ 1000000000000) (hS : ∀ (k : Nat) (e : Stm), l[k]? = some e → Writes 39 [ipS e] (codeS e)) : Writes 24 [slS l] (codeSs l) := by
  intro K T B word code g ob gT ht hgT hTK hBK hK hl
  have hp := Prog.start (K2 := K + 16) ht hTK hBK hK (by omega)
  have hl' : code.length + (cSs word code.length l).length ≤ 1000000000 := by simpa only [codeSs, List.length_map] using hl
  refine fun_of_wp K Tt_ok mixed Try.func24 rfl (by rfl) [] rfl (by kernel_rfl) (by simp [Try.ntmps24]) ?_
  unfold slS
  rw [smsD_map]
  simp (config := { maxSteps := 1000000 }) only [go_sem, ↓reduceIte, Nat.reduceEqDiff, Nat.reduceAdd, Nat.reduceMul, Nat.reduceSub, Nat.reduceLT, Nat.reduceLeDiff, Int.reduceLT, Int.reduceLE, Int.reduceEq, Int.reduceNe, Int.reduceAdd, Int.reduceNeg, Int.reduceToNat, List.length_map]
  refine loop_introB (fun n s => ∃ k : Nat, n + k = l.length ∧ s.f 0 = .one (.ptr T gT 0) ∧ s.f 1 = .one (.d (.sl (l.map smD))) ∧ s.f 6 = iv .i64 l.length ∧ s.f 7 = iv .i64 k ∧
    Prog K (K + 16) T B word (code ++ (cSs word code.length (l.take k)).map Prod.fst) g ob s.gen s.obj) l.length ?_ ?_
  · refine ⟨0, rfl, ?_⟩
    rw [List.take_zero, cSs, List.map_nil, List.append_nil]
    simp (config := { maxSteps := 1000000 }) only [go_sem, ↓reduceIte, Nat.reduceEqDiff, Nat.reduceAdd, Nat.reduceMul, Nat.reduceSub, Nat.reduceLT, Nat.reduceLeDiff, Int.reduceLT, Int.reduceLE, Int.reduceEq, Int.reduceNe, Int.reduceAdd, Int.reduceNeg, Int.reduceToNat]
    exact hp
  · rintro n f g1 ob1 ⟨k, hk, f0, f1, f6, f7, p1⟩
    simp only at f0 f1 f6 f7 p1
    have hkl : l.length ≤ sizeSs l := by rw [sizeSs_sum]; omega
    have hw := wrap_succ (k := k) (by omega)
    by_cases hlt : k < l.length
    · obtain ⟨e, he⟩ := getq hlt
      have hsn := cSs_snoc (word := word) l k e code.length he
      have hle := cSs_le (word := word) l (k + 1) code.length
      have hl2 : (cSs word code.length (l.take k)).length + (cS word (code.length + (cSs word code.length (l.take k)).length) e).length ≤ (cSs word code.length l).length := by
        rw [hsn, List.length_append] at hle; exact hle
      have hlc : (code ++ (cSs word code.length (l.take k)).map Prod.fst).length = code.length + (cSs word code.length (l.take k)).length := by rw [List.length_append, List.length_map]
      simp (config := { maxSteps := 1000000 }) only [go_sem, ↓reduceIte, Nat.reduceEqDiff, Nat.reduceAdd, Nat.reduceMul, Nat.reduceSub, Nat.reduceLT, Nat.reduceLeDiff, Int.reduceLT, Int.reduceLE, Int.reduceEq, Int.reduceNe, Int.reduceAdd, Int.reduceNeg, Int.reduceToNat, f0, f1, f6, f7, hlt, he, List.length_map, smD_len]
      refine hook_writes (hS k e he) p1 rfl hgT rfl (by rw [hlc]; simp only [codeS, List.length_map]; omega) ?_
      intro g2 ob2 p2 q2 r2
      rw [hlc] at p2
      simp (config := { maxSteps := 1000000 }) only [go_sem, ↓reduceIte, Nat.reduceEqDiff, Nat.reduceAdd, Nat.reduceMul, Nat.reduceSub, Nat.reduceLT, Nat.reduceLeDiff, Int.reduceLT, Int.reduceLE, Int.reduceEq, Int.reduceNe, Int.reduceAdd, Int.reduceNeg, Int.reduceToNat, f0, f1, f6, f7, hw]
      refine round_endB (n - 1) (by omega) ⟨k + 1, by omega, ?_⟩
      simp (config := { maxSteps := 1000000 }) only [go_sem, ↓reduceIte, Nat.reduceEqDiff, Nat.reduceAdd, Nat.reduceMul, Nat.reduceSub, Nat.reduceLT, Nat.reduceLeDiff, Int.reduceLT, Int.reduceLE, Int.reduceEq, Int.reduceNe, Int.reduceAdd, Int.reduceNeg, Int.reduceToNat, f0, f1, f6, f7, hw]
      rw [hsn, List.map_append, ← List.append_assoc]
      exact p2
    · have hkk : k = l.length := by omega
      subst hkk
      rw [List.take_length] at p1
      simp (config := { maxSteps := 1000000 }) only [go_sem, ↓reduceIte, Nat.reduceEqDiff, Nat.reduceAdd, Nat.reduceMul, Nat.reduceSub, Nat.reduceLT, Nat.reduceLeDiff, Int.reduceLT, Int.reduceLE, Int.reduceEq, Int.reduceNe, Int.reduceAdd, Int.reduceNeg, Int.reduceToNat, f0, f1, f6, f7, hlt, List.length_map]
      refine retF_drops (fun i => decide (K ≤ i)) ?_
      exact ⟨rfl, p1.fin hK⟩

set_option maxHeartbeats 4000000 in
set_option maxRecDepth 100000 in
theorem while_A {slot size : Int} {c : Ex} {th el : List Stm} (hc : Writes 23 [ipE c] (codeE 0 c)) (hth : Writes 24 [slS th] (codeSs th)) :
    Writes 44 [ipS (.mk 5 slot size [c] th el)] (codeS (.mk 5 slot size [c] th el)) := by
  intro K T B word code g ob gT ht hgT hTK hBK hK hl
  have hp := Prog.start (K2 := K + 33) ht hTK hBK hK (by omega)
  have hcS : (codeS (.mk 5 slot size [c] th el) word code.length) = (whileC code.length (cE code.length 0 c) (fun r => cSs word r th)).map Prod.fst := by simp only [codeS, cS, if_true, c1st]
  have hlen : code.length + ((cE code.length 0 c).length + 1 + (cSs word (code.length + (cE code.length 0 c).length + 1) th).length + 1) ≤ 1000000000 := by
    simp only [hcS, whileC, List.length_map, List.length_append, List.length_cons, List.length_nil] at hl
    omega
  refine fun_of_wp K Tt_ok mixed Try.func44 rfl (by rfl) [] rfl (by kernel_rfl) (by simp [Try.ntmps44]) ?_
  have h1 := ht.t
  have h2 := ht.b
  have hE : smD (.mk 5 slot size [c] th el) = [.int .i64 5, .int .i64 slot, .int .i64 size, .sl [exD c], .sl (smsD th), .sl (smsD el)] := by simp only [smD, exsD]
  unfold ipS
  rw [hE]
  simp (config := { maxSteps := 1000000 }) only [go_sem, ↓reduceIte, Nat.reduceEqDiff, Nat.reduceAdd, Nat.reduceMul, Nat.reduceSub, Nat.reduceLT, Nat.reduceLeDiff, Int.reduceLT, Int.reduceLE, Int.reduceEq, Int.reduceNe, Int.reduceAdd, Int.reduceNeg, Int.reduceToNat, h1, h2, hgT, exD_len]
  refine hook_writes hc hp rfl hgT rfl (by simp only [codeE, List.length_map]; omega) ?_
  intro g1 ob1 p1 q1 r1
  have hlA : (code ++ codeE 0 c word code.length).length = code.length + (cE code.length 0 c).length := by simp only [codeE, List.length_append, List.length_map]
  generalize hA : code ++ codeE 0 c word code.length = A at *
  simp (config := { maxSteps := 1000000 }) only [go_sem, ↓reduceIte, Nat.reduceEqDiff, Nat.reduceAdd, Nat.reduceMul, Nat.reduceSub, Nat.reduceLT, Nat.reduceLeDiff, Int.reduceLT, Int.reduceLE, Int.reduceEq, Int.reduceNe, Int.reduceAdd, Int.reduceNeg, Int.reduceToNat]
  refine hook_jump p1 rfl hgT rfl (by omega) ?_
  intro g2 ob2 gI gJ p2 o1 q2 r2
  have hlB : (A ++ [(⟨9, 0, 0, 0⟩ : Ins)]).length = code.length + (cE code.length 0 c).length + 1 := by rw [List.length_append, hlA]; rfl
  simp (config := { maxSteps := 1000000 }) only [go_sem, ↓reduceIte, Nat.reduceEqDiff, Nat.reduceAdd, Nat.reduceMul, Nat.reduceSub, Nat.reduceLT, Nat.reduceLeDiff, Int.reduceLT, Int.reduceLE, Int.reduceEq, Int.reduceNe, Int.reduceAdd, Int.reduceNeg, Int.reduceToNat]
  refine hook_writes hth p2 rfl hgT rfl (by rw [hlB]; simp only [codeSs, List.length_map]; omega) ?_
  intro g3 ob3 p3 q3 r3
  rw [hlB] at p3
  have o1 := o1.same (g' := g3) (ob' := ob3) (q3 _ (by omega) (by omega)) (q3 _ (by omega) (by omega)) (r3 _ (by omega) (by omega)) (r3 _ (by omega) (by omega))
  simp (config := { maxSteps := 1000000 }) only [go_sem, ↓reduceIte, Nat.reduceEqDiff, Nat.reduceAdd, Nat.reduceMul, Nat.reduceSub, Nat.reduceLT, Nat.reduceLeDiff, Int.reduceLT, Int.reduceLE, Int.reduceEq, Int.reduceNe, Int.reduceAdd, Int.reduceNeg, Int.reduceToNat]
  refine hook_put [⟨8, code.length, 0, 0⟩] p3 rfl hgT (by omega) (by omega) rfl rfl (by rw [List.length_append, hlB]; simp only [codeSs, List.length_map, List.length_cons, List.length_nil]; omega) ?_
  intro g4 ob4 p4 q4 r4
  have o1 := o1.same (g' := g4) (ob' := ob4) (q4 _ (by omega) (by omega)) (q4 _ (by omega) (by omega)) (r4 _ (by omega) (by omega) (by omega)) (r4 _ (by omega) (by omega) (by omega))
  have p4 : Prog K (K + 33 + 6) T B word (A ++ (⟨9, 0, 0, 0⟩ : Ins) :: (codeSs th word (code.length + (cE code.length 0 c).length + 1) ++ [(⟨8, code.length, 0, 0⟩ : Ins)])) g ob g4 ob4 := by
    have := p4
    simp only [List.append_assoc, List.cons_append, List.nil_append] at this ⊢
    exact this
  have hlF : (A ++ (⟨9, 0, 0, 0⟩ : Ins) :: (codeSs th word (code.length + (cE code.length 0 c).length + 1) ++ [(⟨8, code.length, 0, 0⟩ : Ins)])).length = code.length + (cE code.length 0 c).length + 1 + (cSs word (code.length + (cE code.length 0 c).length + 1) th).length + 1 := by
    simp only [List.length_append, List.length_cons, List.length_nil, hlA, codeSs, List.length_map]; omega
  simp (config := { maxSteps := 1000000 }) only [go_sem, ↓reduceIte, Nat.reduceEqDiff, Nat.reduceAdd, Nat.reduceMul, Nat.reduceSub, Nat.reduceLT, Nat.reduceLeDiff, Int.reduceLT, Int.reduceLE, Int.reduceEq, Int.reduceNe, Int.reduceAdd, Int.reduceNeg, Int.reduceToNat]
  refine hook_patch p4 o1 rfl hgT rfl rfl (by rw [hlF]; omega) ?_
  intro ob5 p5 r5
  rw [hlF] at p5
  simp (config := { maxSteps := 1000000 }) only [go_sem, ↓reduceIte, Nat.reduceEqDiff, Nat.reduceAdd, Nat.reduceMul, Nat.reduceSub, Nat.reduceLT, Nat.reduceLeDiff, Int.reduceLT, Int.reduceLE, Int.reduceEq, Int.reduceNe, Int.reduceAdd, Int.reduceNeg, Int.reduceToNat]
  refine retF_drops (fun i => decide (K ≤ i)) ?_
  refine ⟨rfl, ?_⟩
  have e : code ++ codeS (.mk 5 slot size [c] th el) word code.length = A ++ (⟨9, ((code.length + (cE code.length 0 c).length + 1 + (cSs word (code.length + (cE code.length 0 c).length + 1) th).length + 1 : Nat) : Int), 0, 0⟩ : Ins) :: (codeSs th word (code.length + (cE code.length 0 c).length + 1) ++ [(⟨8, code.length, 0, 0⟩ : Ins)]) := by
    rw [hcS, ← hA]
    simp only [codeE, codeSs, whileC, List.map_append, List.map_cons, List.map_nil, List.append_assoc, List.cons_append, List.nil_append]
  rw [e]
  exact p5.fin hK

end Go.Proofs.Ythengcpckdlpgaa

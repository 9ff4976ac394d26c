/- Code that is being written: expressions. -/
import Derived.Test.YthengcpckdlpgaaL7
set_option linter.unusedSimpArgs false
set_option linter.unusedVariables false
namespace Go.Proofs.Ythengcpckdlpgaa
open Go Go.Am Go.Lower

theorem Prog.more {K K2 K3 T B : Nat} {word : Bool} {code : List Ins} {g0 g : Nat → Nat} {ob0 ob : Obs} (h : Prog K K2 T B word code g0 ob0 g ob) (hk : K2 ≤ K3) : Prog K K3 T B word code g0 ob0 g ob :=
  ⟨h.tape, h.gen, h.obj, fun i hi => h.top i (by omega), h.tk, h.bk, by have := h.kk; omega⟩

/-- A jump that is still open. -/
structure Open (I J T gT at' gI gJ : Nat) (g : Nat → Nat) (ob : Obs) : Prop where
  gi : g I = gI
  gj : g J = gJ
  i : ob I = some [.ptr T gT 0]
  j : ob J = some [.d (.int .i64 at')]

theorem Open.same {I J T gT at' gI gJ : Nat} {g g' : Nat → Nat} {ob ob' : Obs} (h : Open I J T gT at' gI gJ g ob) (h1 : g' I = g I) (h2 : g' J = g J) (h3 : ob' I = ob I) (h4 : ob' J = ob J) : Open I J T gT at' gI gJ g' ob' :=
  ⟨h1.trans h.gi, h2.trans h.gj, h3.trans h.i, h4.trans h.j⟩

theorem hook_jump {K K2 T B gT : Nat} {op : Int} {word : Bool} {code : List Ins} {g0 g : Nat → Nat} {ob0 ob : Obs} (h : Prog K K2 T B word code g0 ob0 g ob) {o : Oper} {f : Nat → AV} {args : Array Operand} {tys : Array TypeId} {K' : St → Prop} {k : Box K'} {Bs : Nat}
    (ho : o.op = .call ⟨.value (.func 43), args, tys⟩) (hgT : g0 T = gT) (ha : args.toList.map (St.ev ⟨f, g, ob⟩) = [.one (.ptr T gT 0), iv .i64 op]) (hl : code.length + 1 ≤ 1000000000)
    (hk : ∀ g' ob' gI gJ, Prog K (K2 + 6) T B word (code ++ [⟨op, 0, 0, 0⟩]) g0 ob0 g' ob' → Open (K2 + 2) (K2 + 5) T gT code.length gI gJ g' ob' → (∀ i, i < K2 → i ≠ B → g' i = g i) → (∀ i, i < K2 → i ≠ T → i ≠ B → ob' i = ob i) → K' (St.put ⟨f, g', ob'⟩ o.dst (.one (.clo 47 [.ptr (K2 + 2) gI 0, .ptr (K2 + 5) gJ 0])))) : hookA (spB Try.prog Bs) o ⟨f, g, ob⟩ k := by
  have h1 := h.tk; have h2 := h.bk; have h3 := h.kk
  refine hook_fun ho (R := fun r g' ob' => Later (K2 + 2) (K2 + 5) T gT code.length g' ob' r ∧ Tape T B word (code ++ [⟨op, 0, 0, 0⟩]) g' ob' ∧ (∀ i, i < K2 → i ≠ B → g' i = g i) ∧ (∀ i, i < K2 → i ≠ T → i ≠ B → ob' i = ob i) ∧ ∀ i, K2 + 6 ≤ i → ob' i = none) ?_ ?_
  · rw [ha]
    exact jump_A h.tape (h.genT.trans hgT) (by omega) (by omega) h.top hl
  · rintro _ g' ob' ⟨⟨rfl, l2, l3⟩, t, q1, q2, q3⟩
    refine hk g' ob' _ _ ⟨t, fun i hi hb => ?_, fun i hi ht hb => ?_, q3, h1, h2, by omega⟩ ⟨rfl, rfl, l2, l3⟩ q1 q2
    · rw [q1 i (by omega) hb]; exact h.gen i hi hb
    · rw [q2 i (by omega) ht hb]; exact h.obj i hi ht hb

theorem hook_patch {K K2 T B gT I J gI gJ t : Nat} {word : Bool} {pre post : List Ins} {x : Ins} {g0 g : Nat → Nat} {ob0 ob : Obs} (h : Prog K K2 T B word (pre ++ x :: post) g0 ob0 g ob) (hop : Open I J T gT pre.length gI gJ g ob) {o : Oper} {f : Nat → AV} {args : Array Operand} {tys : Array TypeId} {K' : St → Prop} {k : Box K'} {Bs : Nat}
    (ho : o.op = .call ⟨.value (.tmp t), args, tys⟩) (hgT : g0 T = gT) (hf : f t = .one (.clo 47 [.ptr I gI 0, .ptr J gJ 0])) (ha : args.toList.map (St.ev ⟨f, g, ob⟩) = []) (hl : (pre ++ x :: post).length ≤ 1000000000)
    (hk : ∀ ob', Prog K K2 T B word (pre ++ { x with a := ((pre ++ x :: post).length : Int) } :: post) g0 ob0 g ob' → (∀ i, i ≠ B → ob' i = ob i) → K' (St.put ⟨f, g, ob'⟩ o.dst uv)) : hookA (spB Try.prog Bs) o ⟨f, g, ob⟩ k := by
  have h1 := h.tk; have h2 := h.bk; have h3 := h.kk
  refine hook_clo ho hf (R := fun r g' ob' => r = uv ∧ g' = g ∧ Tape T B word (pre ++ { x with a := ((pre ++ x :: post).length : Int) } :: post) g ob' ∧ ∀ i, i ≠ B → ob' i = ob i) ?_ ?_
  · rw [ha]
    exact patch_A h.tape (h.genT.trans hgT) hop.i hop.gi hop.j hop.gj hl
  · rintro _ g' ob' ⟨rfl, rfl, t, q⟩
    refine hk ob' ⟨t, h.gen, fun i hi ht hb => ?_, fun i hi => ?_, h1, h2, h3⟩ q
    · rw [q i hb]; exact h.obj i hi ht hb
    · rw [q i (by omega)]; exact h.top i hi

theorem exD_len (e : Ex) : (exD e).length = 6 := by cases e; simp [exD]
abbrev ipE (e : Ex) : AV := .one (.d (.iptr (exD e)))
abbrev codeE (d : Int) (e : Ex) : Bool → Nat → List Ins := fun _ at' => (cE at' d e).map Prod.fst

theorem upd_self {α : Type} (f : Nat → α) (i : Nat) : upd f i (f i) = f := by funext j; simp only [upd]; split <;> simp_all

set_option maxHeartbeats 4000000 in
set_option maxRecDepth 100000 in
theorem either8_A {op num slot size : Int} {a b : Ex} {d : Int} (ha : Writes 23 [ipE a] (codeE d a)) (hb : Writes 23 [ipE b] (codeE d b)) :
    Writes 37 [ipE (.mk 8 op num slot size [a, b])] (codeE d (.mk 8 op num slot size [a, b])) := by
  intro K T B word code g ob gT ht hgT hTK hBK hK hl
  have hlen : code.length + ((cE code.length d a).length + 4 + (cE (code.length + (cE code.length d a).length + 1 + 3) d b).length + 2) ≤ 1000000000 := by
    have : (codeE d (.mk 8 op num slot size [a, b]) word code.length).length = _ := rfl
    simp only [codeE, cE, cAO, joinE, notIf, c1st, List.length_map, if_true, true_or, List.length_append, List.length_cons, List.length_nil] at hl
    simp only [Nat.add_assoc, Nat.reduceAdd] at hl ⊢
    omega
  have hp := Prog.start (K2 := K + 50) ht hTK hBK hK (by omega)
  refine fun_of_wp K Tt_ok mixed Try.func37 rfl (by rfl) [] rfl (by kernel_rfl) (by simp [Try.ntmps37]) ?_
  have hp1 := hp.new (V := K + 4) (x := g (K + 4) + 1) (y := some [.d (.int .i64 0), .d (.int .i64 0), .d (.int .i64 0), .d (.int .u32 0)]) (by omega) (by omega)
  have hp2 := hp1.new (V := K + 4) (x := (upd g (K + 4) (g (K + 4) + 1)) (K + 4)) (y := some (insC ⟨7, 0, 0, 0⟩)) (by omega) (by omega)
  rw [upd_self] at hp2
  have h1 := ht.t
  have h2 := ht.b
  have hE : exD (.mk 8 op num slot size [a, b]) = [.int .i64 8, .int .i64 op, .int .u32 num, .int .i64 slot, .int .i64 size, .sl [exD a, exD b]] := by simp only [exD, exsD]
  unfold ipE
  rw [hE]
  simp (config := { maxSteps := 1000000 }) only [go_sem, ↓reduceIte, Nat.reduceEqDiff, Nat.reduceAdd, Nat.reduceMul, Nat.reduceSub, Nat.reduceLT, Nat.reduceLeDiff, Int.reduceLT, Int.reduceLE, Int.reduceEq, Int.reduceNe, Int.reduceAdd, Int.reduceNeg, Int.reduceToNat, h1, h2, hgT, exD_len]
  refine hook_writes ha hp2 rfl hgT rfl (by simp only [codeE, List.length_map]; omega) ?_
  intro g1 ob1 p1 q1 r1
  have e4 : ob1 (K + 4) = some [.d (.int .i64 7), .d (.int .i64 0), .d (.int .i64 0), .d (.int .u32 0)] := by rw [r1 _ (by omega) (by omega)]; simp [upd, insC]
  have g4 : g1 (K + 4) = g (K + 4) + 1 := by rw [q1 _ (by omega) (by omega)]; simp [upd]
  simp (config := { maxSteps := 1000000 }) only [go_sem, ↓reduceIte, Nat.reduceEqDiff, Nat.reduceAdd, Nat.reduceMul, Nat.reduceSub, Nat.reduceLT, Nat.reduceLeDiff, Int.reduceLT, Int.reduceLE, Int.reduceEq, Int.reduceNe, Int.reduceAdd, Int.reduceNeg, Int.reduceToNat, e4, g4]
  refine hook_put [⟨7, 0, 0, 0⟩] p1 rfl hgT (by omega) (by omega) rfl rfl (by simp only [codeE, List.length_append, List.length_map, List.length_cons, List.length_nil]; omega) ?_
  intro g2 ob2 p2 q2 r2
  have e4 : ob2 (K + 4) = some [.d (.int .i64 7), .d (.int .i64 0), .d (.int .i64 0), .d (.int .u32 0)] := by rw [r2 _ (by omega) (by omega) (by omega)]; exact e4
  have g4 : g2 (K + 4) = g (K + 4) + 1 := by rw [q2 _ (by omega) (by omega)]; exact g4
  simp (config := { maxSteps := 1000000 }) only [go_sem, ↓reduceIte, Nat.reduceEqDiff, Nat.reduceAdd, Nat.reduceMul, Nat.reduceSub, Nat.reduceLT, Nat.reduceLeDiff, Int.reduceLT, Int.reduceLE, Int.reduceEq, Int.reduceNe, Int.reduceAdd, Int.reduceNeg, Int.reduceToNat, e4, g4]
  refine hook_jump p2 rfl hgT rfl (by simp only [codeE, List.length_append, List.length_map, List.length_cons, List.length_nil]; omega) ?_
  intro g3 ob3 gI1 gJ1 p3 o1 q3 r3
  have e4 : ob3 (K + 4) = some [.d (.int .i64 7), .d (.int .i64 0), .d (.int .i64 0), .d (.int .u32 0)] := by rw [r3 _ (by omega) (by omega) (by omega)]; exact e4
  have g4 : g3 (K + 4) = g (K + 4) + 1 := by rw [q3 _ (by omega) (by omega)]; exact g4
  simp (config := { maxSteps := 1000000 }) only [go_sem, ↓reduceIte, Nat.reduceEqDiff, Nat.reduceAdd, Nat.reduceMul, Nat.reduceSub, Nat.reduceLT, Nat.reduceLeDiff, Int.reduceLT, Int.reduceLE, Int.reduceEq, Int.reduceNe, Int.reduceAdd, Int.reduceNeg, Int.reduceToNat, e4, g4]
  refine hook_put [⟨1, 0, 0, 0⟩] p3 rfl hgT (by omega) (by omega) rfl rfl (by simp only [codeE, List.length_append, List.length_map, List.length_cons, List.length_nil]; omega) ?_
  intro g4' ob4 p4 q4 r4
  have e4 : ob4 (K + 4) = some [.d (.int .i64 7), .d (.int .i64 0), .d (.int .i64 0), .d (.int .u32 0)] := by rw [r4 _ (by omega) (by omega) (by omega)]; exact e4
  have g4 : g4' (K + 4) = g (K + 4) + 1 := by rw [q4 _ (by omega) (by omega)]; exact g4
  have o1 := o1.same (g' := g4') (ob' := ob4) (q4 _ (by omega) (by omega)) (q4 _ (by omega) (by omega)) (r4 _ (by omega) (by omega) (by omega)) (r4 _ (by omega) (by omega) (by omega))
  simp (config := { maxSteps := 1000000 }) only [go_sem, ↓reduceIte, Nat.reduceEqDiff, Nat.reduceAdd, Nat.reduceMul, Nat.reduceSub, Nat.reduceLT, Nat.reduceLeDiff, Int.reduceLT, Int.reduceLE, Int.reduceEq, Int.reduceNe, Int.reduceAdd, Int.reduceNeg, Int.reduceToNat, e4, g4]
  refine hook_jump p4 rfl hgT rfl (by simp only [codeE, List.length_append, List.length_map, List.length_cons, List.length_nil]; omega) ?_
  intro g5 ob5 gI2 gJ2 p5 o2 q5 r5
  have e4 : ob5 (K + 4) = some [.d (.int .i64 7), .d (.int .i64 0), .d (.int .i64 0), .d (.int .u32 0)] := by rw [r5 _ (by omega) (by omega) (by omega)]; exact e4
  have g4 : g5 (K + 4) = g (K + 4) + 1 := by rw [q5 _ (by omega) (by omega)]; exact g4
  have o1 := o1.same (g' := g5) (ob' := ob5) (q5 _ (by omega) (by omega)) (q5 _ (by omega) (by omega)) (r5 _ (by omega) (by omega) (by omega)) (r5 _ (by omega) (by omega) (by omega))
  simp (config := { maxSteps := 1000000 }) only [go_sem, ↓reduceIte, Nat.reduceEqDiff, Nat.reduceAdd, Nat.reduceMul, Nat.reduceSub, Nat.reduceLT, Nat.reduceLeDiff, Int.reduceLT, Int.reduceLE, Int.reduceEq, Int.reduceNe, Int.reduceAdd, Int.reduceNeg, Int.reduceToNat, e4, g4]
  rw [List.append_assoc, List.append_assoc] at p5
  have hlA : (code ++ codeE d a word code.length ++ [(⟨7, 0, 0, 0⟩ : Ins)]).length = code.length + (cE code.length d a).length + 1 := by simp only [codeE, List.length_append, List.length_map, List.length_cons, List.length_nil]
  have hlB : (code ++ codeE d a word code.length ++ [(⟨7, 0, 0, 0⟩ : Ins)] ++ (⟨9, 0, 0, 0⟩ : Ins) :: [⟨1, 0, 0, 0⟩, ⟨8, 0, 0, 0⟩]).length = code.length + (cE code.length d a).length + 1 + 3 := by rw [List.length_append, hlA]; rfl
  have hlC : (code ++ codeE d a word code.length ++ [(⟨7, 0, 0, 0⟩ : Ins)] ++ (⟨9, 0, 0, 0⟩ : Ins) :: [⟨1, 0, 0, 0⟩]).length = code.length + (cE code.length d a).length + 1 + 2 := by rw [List.length_append, hlA]; rfl
  refine hook_patch (pre := code ++ codeE d a word code.length ++ [⟨7, 0, 0, 0⟩]) (x := ⟨9, 0, 0, 0⟩) (post := [⟨1, 0, 0, 0⟩, ⟨8, 0, 0, 0⟩]) p5 o1 rfl hgT rfl rfl (by rw [hlB]; omega) ?_
  intro ob6 p6 r6
  have e4 : ob6 (K + 4) = some [.d (.int .i64 7), .d (.int .i64 0), .d (.int .i64 0), .d (.int .u32 0)] := by rw [r6 _ (by omega)]; exact e4
  have o2 := o2.same (g' := g5) (ob' := ob6) rfl rfl (r6 _ (by omega)) (r6 _ (by omega))
  rw [hlB] at p6
  generalize hX : code ++ codeE d a word code.length ++ [(⟨7, 0, 0, 0⟩ : Ins)] = X at *
  have hlD : (X ++ (⟨9, ((code.length + (cE code.length d a).length + 1 + 3 : Nat) : Int), 0, 0⟩ : Ins) :: [⟨1, 0, 0, 0⟩, ⟨8, 0, 0, 0⟩]).length = code.length + (cE code.length d a).length + 1 + 3 := by rw [List.length_append, hlA]; rfl
  simp (config := { maxSteps := 1000000 }) only [go_sem, ↓reduceIte, Nat.reduceEqDiff, Nat.reduceAdd, Nat.reduceMul, Nat.reduceSub, Nat.reduceLT, Nat.reduceLeDiff, Int.reduceLT, Int.reduceLE, Int.reduceEq, Int.reduceNe, Int.reduceAdd, Int.reduceNeg, Int.reduceToNat, e4, g4, exD_len]
  refine hook_writes hb p6 rfl hgT rfl (by simp only [hlD, codeE, List.length_map]; omega) ?_
  intro g7 ob7 p7 q7 r7
  rw [hlD] at p7
  have e4 : ob7 (K + 4) = some [.d (.int .i64 7), .d (.int .i64 0), .d (.int .i64 0), .d (.int .u32 0)] := by rw [r7 _ (by omega) (by omega)]; exact e4
  have g4 : g7 (K + 4) = g (K + 4) + 1 := by rw [q7 _ (by omega) (by omega)]; exact g4
  have o2 := o2.same (g' := g7) (ob' := ob7) (q7 _ (by omega) (by omega)) (q7 _ (by omega) (by omega)) (r7 _ (by omega) (by omega)) (r7 _ (by omega) (by omega))
  simp (config := { maxSteps := 1000000 }) only [go_sem, ↓reduceIte, Nat.reduceEqDiff, Nat.reduceAdd, Nat.reduceMul, Nat.reduceSub, Nat.reduceLT, Nat.reduceLeDiff, Int.reduceLT, Int.reduceLE, Int.reduceEq, Int.reduceNe, Int.reduceAdd, Int.reduceNeg, Int.reduceToNat, e4, g4]
  refine hook_put [⟨7, 0, 0, 0⟩, ⟨7, 0, 0, 0⟩] p7 rfl hgT (by omega) (by omega) rfl rfl (by simp only [List.length_append, hlA, codeE, List.length_map, List.length_cons, List.length_nil]; omega) ?_
  intro g8 ob8 p8 q8 r8
  have o2 := o2.same (g' := g8) (ob' := ob8) (q8 _ (by omega) (by omega)) (q8 _ (by omega) (by omega)) (r8 _ (by omega) (by omega) (by omega)) (r8 _ (by omega) (by omega) (by omega))
  have p8 : Prog K (K + 50 + 6 + 6) T B word ((X ++ [⟨9, ((code.length + (cE code.length d a).length + 1 + 3 : Nat) : Int), 0, 0⟩, ⟨1, 0, 0, 0⟩]) ++ ⟨8, 0, 0, 0⟩ :: (codeE d b word (code.length + (cE code.length d a).length + 1 + 3) ++ [⟨7, 0, 0, 0⟩, ⟨7, 0, 0, 0⟩])) g ob g8 ob8 := by
    have := p8
    simp only [List.append_assoc, List.cons_append, List.nil_append] at this ⊢
    exact this
  have hlE : (X ++ [(⟨9, ((code.length + (cE code.length d a).length + 1 + 3 : Nat) : Int), 0, 0⟩ : Ins), (⟨1, 0, 0, 0⟩ : Ins)]).length = (X ++ [(⟨9, 0, 0, 0⟩ : Ins)] ++ [(⟨1, 0, 0, 0⟩ : Ins)]).length := by simp
  have hlF : ((X ++ [(⟨9, ((code.length + (cE code.length d a).length + 1 + 3 : Nat) : Int), 0, 0⟩ : Ins), ⟨1, 0, 0, 0⟩]) ++ (⟨8, 0, 0, 0⟩ : Ins) :: (codeE d b word (code.length + (cE code.length d a).length + 1 + 3) ++ [⟨7, 0, 0, 0⟩, ⟨7, 0, 0, 0⟩])).length = code.length + (cE code.length d a).length + 1 + 3 + (cE (code.length + (cE code.length d a).length + 1 + 3) d b).length + 2 := by
    simp only [List.length_append, List.length_cons, List.length_nil, hlA, codeE, List.length_map]; omega
  rw [← hlE] at o2
  simp (config := { maxSteps := 1000000 }) only [go_sem, ↓reduceIte, Nat.reduceEqDiff, Nat.reduceAdd, Nat.reduceMul, Nat.reduceSub, Nat.reduceLT, Nat.reduceLeDiff, Int.reduceLT, Int.reduceLE, Int.reduceEq, Int.reduceNe, Int.reduceAdd, Int.reduceNeg, Int.reduceToNat]
  refine hook_patch p8 o2 rfl hgT rfl rfl (by rw [hlF]; omega) ?_
  intro ob9 p9 r9
  rw [hlF] at p9
  simp (config := { maxSteps := 1000000 }) only [go_sem, ↓reduceIte, Nat.reduceEqDiff, Nat.reduceAdd, Nat.reduceMul, Nat.reduceSub, Nat.reduceLT, Nat.reduceLeDiff, Int.reduceLT, Int.reduceLE, Int.reduceEq, Int.reduceNe, Int.reduceAdd, Int.reduceNeg, Int.reduceToNat]
  refine retF_drops (fun i => decide (K ≤ i)) ?_
  refine ⟨rfl, ?_⟩
  have e : code ++ codeE d (.mk 8 op num slot size [a, b]) word code.length = (X ++ [(⟨9, ((code.length + (cE code.length d a).length + 1 + 3 : Nat) : Int), 0, 0⟩ : Ins), ⟨1, 0, 0, 0⟩]) ++ ⟨8, ((code.length + (cE code.length d a).length + 1 + 3 + (cE (code.length + (cE code.length d a).length + 1 + 3) d b).length + 2 : Nat) : Int), 0, 0⟩ :: (codeE d b word (code.length + (cE code.length d a).length + 1 + 3) ++ [⟨7, 0, 0, 0⟩, ⟨7, 0, 0, 0⟩]) := by
    rw [← hX]
    simp only [codeE, cE, cAO, joinE, notIf, c1st, if_true, true_or, List.map_append, List.map_cons, List.map_nil, List.append_assoc, List.cons_append, List.nil_append, List.length_cons, List.length_nil, Nat.zero_add]
  rw [e]
  exact p9.fin hK

set_option maxHeartbeats 4000000 in
set_option maxRecDepth 100000 in
theorem either9_A {op num slot size : Int} {a b : Ex} {d : Int} (ha : Writes 23 [ipE a] (codeE d a)) (hb : Writes 23 [ipE b] (codeE d b)) :
    Writes 37 [ipE (.mk 9 op num slot size [a, b])] (codeE d (.mk 9 op num slot size [a, b])) := by
  intro K T B word code g ob gT ht hgT hTK hBK hK hl
  have hlen : code.length + ((cE code.length d a).length + 3 + (cE (code.length + (cE code.length d a).length + 3) d b).length + 2) ≤ 1000000000 := by
    have : (codeE d (.mk 9 op num slot size [a, b]) word code.length).length = _ := rfl
    simp only [codeE, cE, cAO, joinE, notIf, c1st, List.length_map, show ¬ (9 : Int) = 8 by decide, if_false, if_true, or_true, List.length_append, List.length_cons, List.length_nil] at hl
    simp only [Nat.add_assoc, Nat.add_zero, Nat.reduceAdd] at hl ⊢
    omega
  have hp := Prog.start (K2 := K + 50) ht hTK hBK hK (by omega)
  refine fun_of_wp K Tt_ok mixed Try.func37 rfl (by rfl) [] rfl (by kernel_rfl) (by simp [Try.ntmps37]) ?_
  have hp1 := hp.new (V := K + 4) (x := g (K + 4) + 1) (y := some [.d (.int .i64 0), .d (.int .i64 0), .d (.int .i64 0), .d (.int .u32 0)]) (by omega) (by omega)
  have hp2 := hp1.new (V := K + 4) (x := (upd g (K + 4) (g (K + 4) + 1)) (K + 4)) (y := some (insC ⟨7, 0, 0, 0⟩)) (by omega) (by omega)
  rw [upd_self] at hp2
  have h1 := ht.t
  have h2 := ht.b
  have hE : exD (.mk 9 op num slot size [a, b]) = [.int .i64 9, .int .i64 op, .int .u32 num, .int .i64 slot, .int .i64 size, .sl [exD a, exD b]] := by simp only [exD, exsD]
  unfold ipE
  rw [hE]
  simp (config := { maxSteps := 1000000 }) only [go_sem, ↓reduceIte, Nat.reduceEqDiff, Nat.reduceAdd, Nat.reduceMul, Nat.reduceSub, Nat.reduceLT, Nat.reduceLeDiff, Int.reduceLT, Int.reduceLE, Int.reduceEq, Int.reduceNe, Int.reduceAdd, Int.reduceNeg, Int.reduceToNat, h1, h2, hgT, exD_len]
  refine hook_writes ha hp2 rfl hgT rfl (by simp only [codeE, List.length_map]; omega) ?_
  intro g1 ob1 p1 q1 r1
  have e4 : ob1 (K + 4) = some [.d (.int .i64 7), .d (.int .i64 0), .d (.int .i64 0), .d (.int .u32 0)] := by rw [r1 _ (by omega) (by omega)]; simp [upd, insC]
  have g4 : g1 (K + 4) = g (K + 4) + 1 := by rw [q1 _ (by omega) (by omega)]; simp [upd]
  simp (config := { maxSteps := 1000000 }) only [go_sem, ↓reduceIte, Nat.reduceEqDiff, Nat.reduceAdd, Nat.reduceMul, Nat.reduceSub, Nat.reduceLT, Nat.reduceLeDiff, Int.reduceLT, Int.reduceLE, Int.reduceEq, Int.reduceNe, Int.reduceAdd, Int.reduceNeg, Int.reduceToNat, e4, g4]
  refine hook_jump p1 rfl hgT rfl (by simp only [codeE, List.length_append, List.length_map, List.length_cons, List.length_nil]; omega) ?_
  intro g3 ob3 gI1 gJ1 p3 o1 q3 r3
  have e4 : ob3 (K + 4) = some [.d (.int .i64 7), .d (.int .i64 0), .d (.int .i64 0), .d (.int .u32 0)] := by rw [r3 _ (by omega) (by omega) (by omega)]; exact e4
  have g4 : g3 (K + 4) = g (K + 4) + 1 := by rw [q3 _ (by omega) (by omega)]; exact g4
  simp (config := { maxSteps := 1000000 }) only [go_sem, ↓reduceIte, Nat.reduceEqDiff, Nat.reduceAdd, Nat.reduceMul, Nat.reduceSub, Nat.reduceLT, Nat.reduceLeDiff, Int.reduceLT, Int.reduceLE, Int.reduceEq, Int.reduceNe, Int.reduceAdd, Int.reduceNeg, Int.reduceToNat, e4, g4]
  refine hook_put [⟨1, 0, 0, 1⟩] p3 rfl hgT (by omega) (by omega) rfl rfl (by simp only [codeE, List.length_append, List.length_map, List.length_cons, List.length_nil]; omega) ?_
  intro g4' ob4 p4 q4 r4
  have e4 : ob4 (K + 4) = some [.d (.int .i64 7), .d (.int .i64 0), .d (.int .i64 0), .d (.int .u32 0)] := by rw [r4 _ (by omega) (by omega) (by omega)]; exact e4
  have g4 : g4' (K + 4) = g (K + 4) + 1 := by rw [q4 _ (by omega) (by omega)]; exact g4
  have o1 := o1.same (g' := g4') (ob' := ob4) (q4 _ (by omega) (by omega)) (q4 _ (by omega) (by omega)) (r4 _ (by omega) (by omega) (by omega)) (r4 _ (by omega) (by omega) (by omega))
  simp (config := { maxSteps := 1000000 }) only [go_sem, ↓reduceIte, Nat.reduceEqDiff, Nat.reduceAdd, Nat.reduceMul, Nat.reduceSub, Nat.reduceLT, Nat.reduceLeDiff, Int.reduceLT, Int.reduceLE, Int.reduceEq, Int.reduceNe, Int.reduceAdd, Int.reduceNeg, Int.reduceToNat, e4, g4]
  refine hook_jump p4 rfl hgT rfl (by simp only [codeE, List.length_append, List.length_map, List.length_cons, List.length_nil]; omega) ?_
  intro g5 ob5 gI2 gJ2 p5 o2 q5 r5
  have e4 : ob5 (K + 4) = some [.d (.int .i64 7), .d (.int .i64 0), .d (.int .i64 0), .d (.int .u32 0)] := by rw [r5 _ (by omega) (by omega) (by omega)]; exact e4
  have g4 : g5 (K + 4) = g (K + 4) + 1 := by rw [q5 _ (by omega) (by omega)]; exact g4
  have o1 := o1.same (g' := g5) (ob' := ob5) (q5 _ (by omega) (by omega)) (q5 _ (by omega) (by omega)) (r5 _ (by omega) (by omega) (by omega)) (r5 _ (by omega) (by omega) (by omega))
  simp (config := { maxSteps := 1000000 }) only [go_sem, ↓reduceIte, Nat.reduceEqDiff, Nat.reduceAdd, Nat.reduceMul, Nat.reduceSub, Nat.reduceLT, Nat.reduceLeDiff, Int.reduceLT, Int.reduceLE, Int.reduceEq, Int.reduceNe, Int.reduceAdd, Int.reduceNeg, Int.reduceToNat, e4, g4]
  rw [List.append_assoc, List.append_assoc] at p5
  have hlA : (code ++ codeE d a word code.length).length = code.length + (cE code.length d a).length := by simp only [codeE, List.length_append, List.length_map, List.length_cons, List.length_nil]
  have hlB : (code ++ codeE d a word code.length ++ (⟨9, 0, 0, 0⟩ : Ins) :: [⟨1, 0, 0, 1⟩, ⟨8, 0, 0, 0⟩]).length = code.length + (cE code.length d a).length + 3 := by rw [List.length_append, hlA]; rfl
  have hlC : (code ++ codeE d a word code.length ++ (⟨9, 0, 0, 0⟩ : Ins) :: [⟨1, 0, 0, 1⟩]).length = code.length + (cE code.length d a).length + 2 := by rw [List.length_append, hlA]; rfl
  refine hook_patch (pre := code ++ codeE d a word code.length) (x := ⟨9, 0, 0, 0⟩) (post := [⟨1, 0, 0, 1⟩, ⟨8, 0, 0, 0⟩]) p5 o1 rfl hgT rfl rfl (by rw [hlB]; omega) ?_
  intro ob6 p6 r6
  have e4 : ob6 (K + 4) = some [.d (.int .i64 7), .d (.int .i64 0), .d (.int .i64 0), .d (.int .u32 0)] := by rw [r6 _ (by omega)]; exact e4
  have o2 := o2.same (g' := g5) (ob' := ob6) rfl rfl (r6 _ (by omega)) (r6 _ (by omega))
  rw [hlB] at p6
  generalize hX : code ++ codeE d a word code.length = X at *
  have hlD : (X ++ (⟨9, ((code.length + (cE code.length d a).length + 3 : Nat) : Int), 0, 0⟩ : Ins) :: [⟨1, 0, 0, 1⟩, ⟨8, 0, 0, 0⟩]).length = code.length + (cE code.length d a).length + 3 := by rw [List.length_append, hlA]; rfl
  simp (config := { maxSteps := 1000000 }) only [go_sem, ↓reduceIte, Nat.reduceEqDiff, Nat.reduceAdd, Nat.reduceMul, Nat.reduceSub, Nat.reduceLT, Nat.reduceLeDiff, Int.reduceLT, Int.reduceLE, Int.reduceEq, Int.reduceNe, Int.reduceAdd, Int.reduceNeg, Int.reduceToNat, e4, g4, exD_len]
  refine hook_writes hb p6 rfl hgT rfl (by simp only [hlD, codeE, List.length_map]; omega) ?_
  intro g7 ob7 p7 q7 r7
  rw [hlD] at p7
  have e4 : ob7 (K + 4) = some [.d (.int .i64 7), .d (.int .i64 0), .d (.int .i64 0), .d (.int .u32 0)] := by rw [r7 _ (by omega) (by omega)]; exact e4
  have g4 : g7 (K + 4) = g (K + 4) + 1 := by rw [q7 _ (by omega) (by omega)]; exact g4
  have o2 := o2.same (g' := g7) (ob' := ob7) (q7 _ (by omega) (by omega)) (q7 _ (by omega) (by omega)) (r7 _ (by omega) (by omega)) (r7 _ (by omega) (by omega))
  simp (config := { maxSteps := 1000000 }) only [go_sem, ↓reduceIte, Nat.reduceEqDiff, Nat.reduceAdd, Nat.reduceMul, Nat.reduceSub, Nat.reduceLT, Nat.reduceLeDiff, Int.reduceLT, Int.reduceLE, Int.reduceEq, Int.reduceNe, Int.reduceAdd, Int.reduceNeg, Int.reduceToNat, e4, g4]
  refine hook_put [⟨7, 0, 0, 0⟩, ⟨7, 0, 0, 0⟩] p7 rfl hgT (by omega) (by omega) rfl rfl (by simp only [List.length_append, hlA, codeE, List.length_map, List.length_cons, List.length_nil]; omega) ?_
  intro g8 ob8 p8 q8 r8
  have o2 := o2.same (g' := g8) (ob' := ob8) (q8 _ (by omega) (by omega)) (q8 _ (by omega) (by omega)) (r8 _ (by omega) (by omega) (by omega)) (r8 _ (by omega) (by omega) (by omega))
  have p8 : Prog K (K + 50 + 6 + 6) T B word ((X ++ [⟨9, ((code.length + (cE code.length d a).length + 3 : Nat) : Int), 0, 0⟩, ⟨1, 0, 0, 1⟩]) ++ ⟨8, 0, 0, 0⟩ :: (codeE d b word (code.length + (cE code.length d a).length + 3) ++ [⟨7, 0, 0, 0⟩, ⟨7, 0, 0, 0⟩])) g ob g8 ob8 := by
    have := p8
    simp only [List.append_assoc, List.cons_append, List.nil_append] at this ⊢
    exact this
  have hlE : (X ++ [(⟨9, ((code.length + (cE code.length d a).length + 3 : Nat) : Int), 0, 0⟩ : Ins), (⟨1, 0, 0, 1⟩ : Ins)]).length = (X ++ [(⟨9, 0, 0, 0⟩ : Ins)] ++ [(⟨1, 0, 0, 1⟩ : Ins)]).length := by simp
  have hlF : ((X ++ [(⟨9, ((code.length + (cE code.length d a).length + 3 : Nat) : Int), 0, 0⟩ : Ins), ⟨1, 0, 0, 1⟩]) ++ (⟨8, 0, 0, 0⟩ : Ins) :: (codeE d b word (code.length + (cE code.length d a).length + 3) ++ [⟨7, 0, 0, 0⟩, ⟨7, 0, 0, 0⟩])).length = code.length + (cE code.length d a).length + 3 + (cE (code.length + (cE code.length d a).length + 3) d b).length + 2 := by
    simp only [List.length_append, List.length_cons, List.length_nil, hlA, codeE, List.length_map]; omega
  rw [← hlE] at o2
  simp (config := { maxSteps := 1000000 }) only [go_sem, ↓reduceIte, Nat.reduceEqDiff, Nat.reduceAdd, Nat.reduceMul, Nat.reduceSub, Nat.reduceLT, Nat.reduceLeDiff, Int.reduceLT, Int.reduceLE, Int.reduceEq, Int.reduceNe, Int.reduceAdd, Int.reduceNeg, Int.reduceToNat]
  refine hook_patch p8 o2 rfl hgT rfl rfl (by rw [hlF]; omega) ?_
  intro ob9 p9 r9
  rw [hlF] at p9
  simp (config := { maxSteps := 1000000 }) only [go_sem, ↓reduceIte, Nat.reduceEqDiff, Nat.reduceAdd, Nat.reduceMul, Nat.reduceSub, Nat.reduceLT, Nat.reduceLeDiff, Int.reduceLT, Int.reduceLE, Int.reduceEq, Int.reduceNe, Int.reduceAdd, Int.reduceNeg, Int.reduceToNat]
  refine retF_drops (fun i => decide (K ≤ i)) ?_
  refine ⟨rfl, ?_⟩
  have e : code ++ codeE d (.mk 9 op num slot size [a, b]) word code.length = (X ++ [(⟨9, ((code.length + (cE code.length d a).length + 3 : Nat) : Int), 0, 0⟩ : Ins), ⟨1, 0, 0, 1⟩]) ++ ⟨8, ((code.length + (cE code.length d a).length + 3 + (cE (code.length + (cE code.length d a).length + 3) d b).length + 2 : Nat) : Int), 0, 0⟩ :: (codeE d b word (code.length + (cE code.length d a).length + 3) ++ [⟨7, 0, 0, 0⟩, ⟨7, 0, 0, 0⟩]) := by
    rw [← hX]
    simp only [codeE, cE, cAO, joinE, notIf, c1st, show ¬ (9 : Int) = 8 by decide, if_false, if_true, or_true, List.map_append, List.map_cons, List.map_nil, List.append_assoc, List.cons_append, List.nil_append, List.length_cons, List.length_nil, Nat.add_zero]
  rw [e]
  exact p9.fin hK

end Go.Proofs.Ythengcpckdlpgaa

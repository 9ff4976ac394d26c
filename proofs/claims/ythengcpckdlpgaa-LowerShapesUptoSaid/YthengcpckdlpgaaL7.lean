/- Code that is being written: the tape's methods put, leave, jump, and what a jump's place gets. -/
import Derived.Test.YthengcpckdlpgaaL6
set_option linter.unusedSimpArgs false
set_option linter.unusedVariables false
namespace Go.Proofs.Ythengcpckdlpgaa
open Go Go.Am Go.Lower

def insC (x : Ins) : List C := [.d (.int .i64 x.op), .d (.int .i64 x.a), .d (.int .i64 x.b), .d (.int .u32 x.n)]
def insCs (l : List Ins) : List C := l.flatMap insC
theorem insCs_nil : insCs [] = [] := rfl
theorem insCs_cons (x : Ins) (l : List Ins) : insCs (x :: l) = insC x ++ insCs l := rfl
theorem insCs_app (a b : List Ins) : insCs (a ++ b) = insCs a ++ insCs b := by simp [insCs]
theorem insCs_len : ∀ l : List Ins, (insCs l).length = l.length * 4
  | [] => rfl
  | x :: l => by rw [insCs_cons, List.length_append, insCs_len l]; simp only [insC, List.length_cons, List.length_nil]; omega

theorem insCs_set : ∀ (pre : List Ins) (x : Ins) (post : List Ins) (n : Int), (insCs (pre ++ x :: post)).set (pre.length * 4 + 1) (.d (.int .i64 n)) = insCs (pre ++ { x with a := n } :: post)
  | [], x, post, n => rfl
  | y :: pre, x, post, n => by
    rw [List.cons_append, insCs_cons, List.cons_append, insCs_cons, ← insCs_set pre x post n]
    rw [List.set_append_right _ _ (by simp only [insC, List.length_cons, List.length_nil]; omega)]
    congr 2
    simp only [insC, List.length_cons, List.length_nil]; omega

/-- Objects are given up, to which nothing that is wanted points. -/
theorem vs_drops {s : St} (p : Nat → Bool) : SemVs s ⟨s.f, s.gen, fun i => if p i = true then none else s.obj i⟩ := by
  refine vs_freeze (fun i => p i = true) rfl (fun i => .inl rfl) (fun i cells' hc => ?_)
  simp only at hc
  by_cases h : p i = true
  · rw [if_pos h] at hc; cases hc
  · rw [if_neg h] at hc
    exact ⟨h, cells', hc, rfl, fun j c c' e1 e2 => .inl (by rw [e1] at e2; exact (Option.some.inj e2).symm)⟩

theorem retF_drops {res : List Nat} {R : AV → (Nat → Nat) → Obs → Prop} {s : St} (p : Nat → Bool) (h : R (resAV s.f res) s.gen (fun i => if p i = true then none else s.obj i)) : RetF res R .normal s := ⟨_, vs_drops p, h⟩
theorem retF_dropsR {res : List Nat} {R : AV → (Nat → Nat) → Obs → Prop} {s : St} (p : Nat → Bool) (h : R (resAV s.f res) s.gen (fun i => if p i = true then none else s.obj i)) : RetF res R .ret s := ⟨_, vs_drops p, h⟩

structure Tape (T B : Nat) (word : Bool) (code : List Ins) (g : Nat → Nat) (ob : Obs) : Prop where
  t : ob T = some [.d (.bool word), .osl B (g B) 4 0 code.length]
  b : ob B = some (insCs code)
  ne : T ≠ B

theorem Tape.same {T B : Nat} {word : Bool} {code : List Ins} {g g' : Nat → Nat} {ob ob' : Obs} (h : Tape T B word code g ob) (hg : g' B = g B) (h1 : ob' T = ob T) (h2 : ob' B = ob B) : Tape T B word code g' ob' :=
  ⟨by rw [h1, hg]; exact h.t, by rw [h2]; exact h.b, h.ne⟩

/-- What was written, and what stayed: the numbers from K on are free. -/
structure Wrote (K T B : Nat) (word : Bool) (code : List Ins) (g : Nat → Nat) (ob : Obs) (g' : Nat → Nat) (ob' : Obs) : Prop where
  tape : Tape T B word code g' ob'
  gen : ∀ i, i < K → i ≠ B → g' i = g i
  obj : ∀ i, i ≠ T → i ≠ B → ob' i = ob i

def Writes (f : FuncId) (rest : List AV) (new : Bool → Nat → List Ins) : Prop :=
  ∀ (K T B : Nat) (word : Bool) (code : List Ins) (g : Nat → Nat) (ob : Obs) (gT : Nat), Tape T B word code g ob → g T = gT → T < K → B < K → (∀ i, K ≤ i → ob i = none) → code.length + (new word code.length).length ≤ 1000000000 →
    FunR Try.prog f (.one (.ptr T gT 0) :: rest) g ob (fun r g' ob' => r = uv ∧ Wrote K T B word (code ++ new word code.length) g ob g' ob')

set_option maxHeartbeats 2000000 in
set_option maxRecDepth 100000 in
theorem put_A {T B V gT gV n : Nat} {word : Bool} {code xs : List Ins} {g : Nat → Nat} {ob : Obs} (ht : Tape T B word code g ob) (hgT : g T = gT) (hv : ob V = some (insCs xs)) (hgV : g V = gV) (hn : xs.length = n) (hT : V ≠ T) (hB : V ≠ B) (hl : code.length + xs.length ≤ 1000000000) :
    FunR Try.prog 38 [.one (.ptr T gT 0), .one (.osl V gV 4 0 n)] g ob (fun r g' ob' => r = uv ∧ Tape T B word (code ++ xs) g' ob' ∧ (∀ i, i ≠ B → g' i = g i) ∧ ∀ i, i ≠ T → i ≠ B → ob' i = ob i) := by
  refine fun_of_wp 0 Tt_ok mixed Try.func38 rfl (by rfl) [] rfl (by kernel_rfl) (by simp [Try.ntmps38]) ?_
  obtain ⟨h1, h2, h3⟩ := ht
  subst hgT hgV hn
  simp (config := { maxSteps := 1000000 }) only [go_sem, ↓reduceIte, Nat.reduceEqDiff, Nat.reduceAdd, Nat.reduceMul, Nat.reduceSub, Nat.reduceLT, Nat.reduceLeDiff, Int.reduceLT, Int.reduceLE, Int.reduceEq, Int.reduceNe, Int.reduceAdd, Int.reduceNeg, Int.reduceToNat, h1, h2, hv, h3, insCs_len]
  refine ⟨Nat.le_refl _, Nat.le_refl _, ⟨by decide, by omega⟩, ⟨_, SemVs.refl _, rfl, ⟨?_, ?_, h3⟩, fun i hi => ?_, fun i hi hi' => ?_⟩⟩
  · simp only [upd, if_true, List.length_append]
  · simp only [upd, if_true, if_neg (Ne.symm h3)]
    rw [List.take_of_length_le (by rw [insCs_len]; omega), List.take_of_length_le (by rw [insCs_len]; omega), insCs_app]
  · simp only [upd, if_neg hi]
  · simp only [upd, if_neg hi, if_neg hi']

/-- A walk that writes, in its midst: K: its own numbers begin; K2: from there on nothing is. -/
structure Prog (K K2 T B : Nat) (word : Bool) (code : List Ins) (g0 : Nat → Nat) (ob0 : Obs) (g : Nat → Nat) (ob : Obs) : Prop where
  tape : Tape T B word code g ob
  gen : ∀ i, i < K → i ≠ B → g i = g0 i
  obj : ∀ i, i < K → i ≠ T → i ≠ B → ob i = ob0 i
  top : ∀ i, K2 ≤ i → ob i = none
  tk : T < K
  bk : B < K
  kk : K ≤ K2

theorem Prog.start {K K2 T B : Nat} {word : Bool} {code : List Ins} {g : Nat → Nat} {ob : Obs} (h : Tape T B word code g ob) (hT : T < K) (hB : B < K) (hK : ∀ i, K ≤ i → ob i = none) (hk : K ≤ K2) : Prog K K2 T B word code g ob g ob :=
  ⟨h, fun _ _ _ => rfl, fun _ _ _ _ => rfl, fun i hi => hK i (by omega), hT, hB, hk⟩

theorem Prog.fin {K K2 T B : Nat} {word : Bool} {code : List Ins} {g0 g : Nat → Nat} {ob0 ob : Obs} (h : Prog K K2 T B word code g0 ob0 g ob) (hK : ∀ i, K ≤ i → ob0 i = none) : Wrote K T B word code g0 ob0 g (fun i => if decide (K ≤ i) = true then none else ob i) := by
  refine ⟨h.tape.same rfl ?_ ?_, h.gen, fun i h1 h2 => ?_⟩
  · have := h.tk; simp [show ¬ K ≤ T by omega]
  · have := h.bk; simp [show ¬ K ≤ B by omega]
  · by_cases hi : K ≤ i
    · simp [hi, hK i hi]
    · simp only [hi, decide_false, Bool.false_eq_true, if_false]
      exact h.obj i (by omega) h1 h2

theorem Prog.new {K K2 T B V x : Nat} {y : Option (List C)} {word : Bool} {code : List Ins} {g0 g : Nat → Nat} {ob0 ob : Obs} (h : Prog K K2 T B word code g0 ob0 g ob) (h1 : K ≤ V) (h2 : V < K2) : Prog K K2 T B word code g0 ob0 (upd g V x) (upd ob V y) := by
  have hT : ¬ T = V := by have := h.tk; omega
  have hB : ¬ B = V := by have := h.bk; omega
  refine ⟨h.tape.same (by simp [upd, hB]) (by simp [upd, hT]) (by simp [upd, hB]), fun i hi hb => ?_, fun i hi ht hb => ?_, fun i hi => ?_, h.tk, h.bk, h.kk⟩
  · simp only [upd, if_neg (show ¬ i = V by omega)]; exact h.gen i hi hb
  · simp only [upd, if_neg (show ¬ i = V by omega)]; exact h.obj i hi ht hb
  · simp only [upd, if_neg (show ¬ i = V by omega)]; exact h.top i hi

theorem Prog.genT {K K2 T B : Nat} {word : Bool} {code : List Ins} {g0 g : Nat → Nat} {ob0 ob : Obs} (h : Prog K K2 T B word code g0 ob0 g ob) : g T = g0 T := h.gen T h.tk h.tape.ne

/-- A call of put, as a walk meets it: the instructions lie in an object of their own. -/
theorem hook_put {K K2 T B V gT gV n : Nat} {word : Bool} {code : List Ins} (xs : List Ins) {g0 g : Nat → Nat} {ob0 ob : Obs} (h : Prog K K2 T B word code g0 ob0 g ob) {o : Oper} {f : Nat → AV} {args : Array Operand} {tys : Array TypeId} {K' : St → Prop} {k : Box K'} {Bs : Nat}
    (ho : o.op = .call ⟨.value (.func 38), args, tys⟩) (hgT : g0 T = gT) (h1 : K ≤ V) (h2 : V < K2) (hn : xs.length = n) (ha : args.toList.map (St.ev ⟨f, upd g V gV, upd ob V (some (insCs xs))⟩) = [.one (.ptr T gT 0), .one (.osl V gV 4 0 n)]) (hl : code.length + xs.length ≤ 1000000000)
    (hk : ∀ g' ob', Prog K K2 T B word (code ++ xs) g0 ob0 g' ob' → (∀ i, i ≠ B → i ≠ V → g' i = g i) → (∀ i, i ≠ T → i ≠ B → i ≠ V → ob' i = ob i) → K' (St.put ⟨f, g', ob'⟩ o.dst uv)) : hookA (spB Try.prog Bs) o ⟨f, upd g V gV, upd ob V (some (insCs xs))⟩ k := by
  have hp := h.new (x := gV) (y := some (insCs xs)) h1 h2
  have hT : V ≠ T := by have := h.tk; omega
  have hB : V ≠ B := by have := h.bk; omega
  refine hook_fun ho (R := fun r g' ob' => r = uv ∧ Tape T B word (code ++ xs) g' ob' ∧ (∀ i, i ≠ B → g' i = upd g V gV i) ∧ ∀ i, i ≠ T → i ≠ B → ob' i = upd ob V (some (insCs xs)) i) ?_ ?_
  · rw [ha]
    exact put_A hp.tape (hp.genT.trans hgT) (by simp [upd]) (by simp [upd]) hn hT hB hl
  · rintro _ g' ob' ⟨rfl, t, q1, q2⟩
    refine hk g' ob' ⟨t, fun i hi hb => ?_, fun i hi ht hb => ?_, fun i hi => ?_, h.tk, h.bk, h.kk⟩ (fun i hb hv => ?_) (fun i ht hb hv => ?_)
    · rw [q1 i hb]; exact hp.gen i hi hb
    · rw [q2 i ht hb]; exact hp.obj i hi ht hb
    · have := h.tk; have := h.bk; have := h.kk
      rw [q2 i (by omega) (by omega)]; exact hp.top i hi
    · rw [q1 i hb]; simp only [upd, if_neg hv]
    · rw [q2 i ht hb]; simp only [upd, if_neg hv]

/-- A call of something that writes. -/
theorem hook_writes {K K2 T B gT : Nat} {word : Bool} {code : List Ins} {f' : FuncId} {rest : List AV} {new : Bool → Nat → List Ins} (hw : Writes f' rest new) {g0 g : Nat → Nat} {ob0 ob : Obs} (h : Prog K K2 T B word code g0 ob0 g ob) {o : Oper} {f : Nat → AV} {args : Array Operand} {tys : Array TypeId} {K' : St → Prop} {k : Box K'} {Bs : Nat}
    (ho : o.op = .call ⟨.value (.func f'), args, tys⟩) (hgT : g0 T = gT) (ha : args.toList.map (St.ev ⟨f, g, ob⟩) = .one (.ptr T gT 0) :: rest) (hl : code.length + (new word code.length).length ≤ 1000000000)
    (hk : ∀ g' ob', Prog K K2 T B word (code ++ new word code.length) g0 ob0 g' ob' → (∀ i, i < K2 → i ≠ B → g' i = g i) → (∀ i, i ≠ T → i ≠ B → ob' i = ob i) → K' (St.put ⟨f, g', ob'⟩ o.dst uv)) : hookA (spB Try.prog Bs) o ⟨f, g, ob⟩ k := by
  have h1 := h.tk; have h2 := h.bk; have h3 := h.kk
  refine hook_fun ho (R := fun r g' ob' => r = uv ∧ Wrote K2 T B word (code ++ new word code.length) g ob g' ob') ?_ ?_
  · rw [ha]
    exact hw K2 T B word code g ob gT h.tape (h.genT.trans hgT) (by omega) (by omega) h.top hl
  · rintro _ g' ob' ⟨rfl, t, q1, q2⟩
    refine hk g' ob' ⟨t, fun i hi hb => ?_, fun i hi ht hb => ?_, fun i hi => ?_, h1, h2, h3⟩ q1 q2
    · rw [q1 i (by omega) hb]; exact h.gen i hi hb
    · rw [q2 i ht hb]; exact h.obj i hi ht hb
    · rw [q2 i (by omega) (by omega)]; exact h.top i hi

set_option maxHeartbeats 2000000 in
set_option maxRecDepth 100000 in
theorem leave_A : Writes 25 [] (fun word _ => (leave word).map Prod.fst) := by
  intro K T B word code g ob gT ht hgT hTK hBK hK hl
  have hp := Prog.start (K2 := K + 14) ht hTK hBK hK (by omega)
  refine fun_of_wp K Tt_ok mixed Try.func25 rfl (by rfl) [] rfl (by kernel_rfl) (by simp [Try.ntmps25]) ?_
  have h1 := ht.t
  cases word with
  | false =>
    have hl' : code.length + 1 ≤ 1000000000 := hl
    simp (config := { maxSteps := 1000000 }) only [go_sem, ↓reduceIte, Nat.reduceEqDiff, Nat.reduceAdd, Nat.reduceMul, Nat.reduceSub, Nat.reduceLT, Nat.reduceLeDiff, Int.reduceLT, Int.reduceLE, Int.reduceEq, Int.reduceNe, Int.reduceAdd, Int.reduceNeg, Int.reduceToNat, h1, hgT]
    refine hook_put [⟨11, 0, 0, 0⟩] hp rfl hgT (by omega) (by omega) rfl rfl (by exact hl') ?_
    intro g1 ob1 p1 _ _
    simp (config := { maxSteps := 1000000 }) only [go_sem, ↓reduceIte, Nat.reduceEqDiff, Nat.reduceAdd, Nat.reduceMul, Nat.reduceSub, Nat.reduceLT, Nat.reduceLeDiff, Int.reduceLT, Int.reduceLE, Int.reduceEq, Int.reduceNe, Int.reduceAdd, Int.reduceNeg, Int.reduceToNat]
    refine retF_drops (fun i => decide (K ≤ i)) ?_
    exact ⟨rfl, p1.fin hK⟩
  | true =>
    have hl' : code.length + 2 ≤ 1000000000 := hl
    simp (config := { maxSteps := 1000000 }) only [go_sem, ↓reduceIte, Nat.reduceEqDiff, Nat.reduceAdd, Nat.reduceMul, Nat.reduceSub, Nat.reduceLT, Nat.reduceLeDiff, Int.reduceLT, Int.reduceLE, Int.reduceEq, Int.reduceNe, Int.reduceAdd, Int.reduceNeg, Int.reduceToNat, h1, hgT]
    refine hook_put [⟨1, 0, 0, 0⟩] hp rfl hgT (by omega) (by omega) rfl rfl (by show code.length + 1 ≤ 1000000000; omega) ?_
    intro g1 ob1 p1 _ _
    simp (config := { maxSteps := 1000000 }) only [go_sem, ↓reduceIte, Nat.reduceEqDiff, Nat.reduceAdd, Nat.reduceMul, Nat.reduceSub, Nat.reduceLT, Nat.reduceLeDiff, Int.reduceLT, Int.reduceLE, Int.reduceEq, Int.reduceNe, Int.reduceAdd, Int.reduceNeg, Int.reduceToNat, p1.tape.t, p1.genT, hgT]
    refine hook_put [⟨11, 0, 0, 0⟩] p1 rfl hgT (by omega) (by omega) rfl rfl (by simp only [List.length_append, List.length_cons, List.length_nil]; omega) ?_
    intro g2 ob2 p2 _ _
    rw [List.append_assoc] at p2
    simp (config := { maxSteps := 1000000 }) only [go_sem, ↓reduceIte, Nat.reduceEqDiff, Nat.reduceAdd, Nat.reduceMul, Nat.reduceSub, Nat.reduceLT, Nat.reduceLeDiff, Int.reduceLT, Int.reduceLE, Int.reduceEq, Int.reduceNe, Int.reduceAdd, Int.reduceNeg, Int.reduceToNat]
    refine retF_drops (fun i => decide (K ≤ i)) ?_
    exact ⟨rfl, p2.fin hK⟩

set_option maxHeartbeats 2000000 in
set_option maxRecDepth 100000 in
/-- What was written, at a jump's place: here it leads. -/
theorem patch_A {T B I J gT gI gJ : Nat} {word : Bool} {pre post : List Ins} {x : Ins} {g : Nat → Nat} {ob : Obs} (ht : Tape T B word (pre ++ x :: post) g ob) (hgT : g T = gT) (hI : ob I = some [.ptr T gT 0]) (hgI : g I = gI)
    (hJ : ob J = some [.d (.int .i64 pre.length)]) (hgJ : g J = gJ) (hl : (pre ++ x :: post).length ≤ 1000000000) :
    FunR Try.prog 47 [.one (.ptr I gI 0), .one (.ptr J gJ 0)] g ob (fun r g' ob' => r = uv ∧ g' = g ∧ Tape T B word (pre ++ { x with a := ((pre ++ x :: post).length : Int) } :: post) g ob' ∧ ∀ i, i ≠ B → ob' i = ob i) := by
  refine fun_of_wp 0 Tt_ok mixed Try.func47 rfl (by rfl) [] rfl (by kernel_rfl) (by simp [Try.ntmps47]) ?_
  obtain ⟨h1, h2, h3⟩ := ht
  subst hgT hgI hgJ
  simp (config := { maxSteps := 1000000 }) only [go_sem, ↓reduceIte, Nat.reduceEqDiff, Nat.reduceAdd, Nat.reduceMul, Nat.reduceSub, Nat.reduceLT, Nat.reduceLeDiff, Int.reduceLT, Int.reduceLE, Int.reduceEq, Int.reduceNe, Int.reduceAdd, Int.reduceNeg, Int.reduceToNat]
  refine draw_introB (by decide +kernel) ?_
  have hlen : pre.length < (pre ++ x :: post).length := by simp only [List.length_append, List.length_cons]; omega
  simp (config := { maxSteps := 1000000 }) only [go_sem, ↓reduceIte, Nat.reduceEqDiff, Nat.reduceAdd, Nat.reduceMul, Nat.reduceSub, Nat.reduceLT, Nat.reduceLeDiff, Int.reduceLT, Int.reduceLE, Int.reduceEq, Int.reduceNe, Int.reduceAdd, Int.reduceNeg, Int.reduceToNat, h1, h2, hI, hJ, h3, insCs_len, hlen]
  refine ⟨by omega, _, SemVs.refl _, rfl, rfl, ⟨?_, ?_, h3⟩, fun i hi => by simp [upd, hi]⟩
  · simp only [upd, if_neg h3, h1, List.length_append, List.length_cons]
  · simp only [upd, if_true]
    exact congrArg some (insCs_set pre x post _)

/-- A closure that a jump's place is given by. -/
structure Later (I J : Nat) (T gT at' : Nat) (g : Nat → Nat) (ob : Obs) (v : AV) : Prop where
  v : v = .one (.clo 47 [.ptr I (g I) 0, .ptr J (g J) 0])
  i : ob I = some [.ptr T gT 0]
  j : ob J = some [.d (.int .i64 at')]

theorem Later.same {I J T gT at' : Nat} {g g' : Nat → Nat} {ob ob' : Obs} {v : AV} (h : Later I J T gT at' g ob v) (h1 : g' I = g I) (h2 : g' J = g J) (h3 : ob' I = ob I) (h4 : ob' J = ob J) : Later I J T gT at' g' ob' v :=
  ⟨by rw [h1, h2]; exact h.v, by rw [h3]; exact h.i, by rw [h4]; exact h.j⟩

set_option maxHeartbeats 2000000 in
set_option maxRecDepth 100000 in
theorem jump_A {K T B gT : Nat} {op : Int} {word : Bool} {code : List Ins} {g : Nat → Nat} {ob : Obs} (ht : Tape T B word code g ob) (hgT : g T = gT) (hTK : T < K) (hBK : B < K) (hK : ∀ i, K ≤ i → ob i = none) (hl : code.length + 1 ≤ 1000000000) :
    FunR Try.prog 43 [.one (.ptr T gT 0), iv .i64 op] g ob (fun r g' ob' => Later (K + 2) (K + 5) T gT code.length g' ob' r ∧ Tape T B word (code ++ [⟨op, 0, 0, 0⟩]) g' ob' ∧ (∀ i, i < K → i ≠ B → g' i = g i) ∧ (∀ i, i < K → i ≠ T → i ≠ B → ob' i = ob i) ∧ ∀ i, K + 6 ≤ i → ob' i = none) := by
  refine fun_of_wp K Tt_ok mixed Try.func43 rfl (by rfl) [4] rfl (by kernel_rfl) (by simp [Try.ntmps43]) ?_
  have hp := Prog.start (K2 := K + 17) ht hTK hBK hK (by omega)
  have h1 := ht.t
  have h2 := ht.b
  have t1 : ¬ T = K + 2 := by omega
  have t2 : ¬ T = K + 5 := by omega
  have b1 : ¬ B = K + 2 := by omega
  have b2 : ¬ B = K + 5 := by omega
  have hp1 := hp.new (V := K + 2) (x := g (K + 2) + 1) (y := some [.ptr T gT 0]) (by omega) (by omega)
  have hp2 := hp1.new (V := K + 5) (x := g (K + 5) + 1) (y := some [.d (.int .i64 0)]) (by omega) (by omega)
  have hp3 : Prog K (K + 17) T B word code g ob (upd (upd g (K + 2) (g (K + 2) + 1)) (K + 5) (g (K + 5) + 1)) (upd (upd (upd ob (K + 2) (some [.ptr T gT 0])) (K + 5) (some [.d (.int .i64 0)])) (K + 5) (some [.d (.int .i64 code.length)])) := by
    have := hp2.new (V := K + 5) (x := (upd (upd g (K + 2) (g (K + 2) + 1)) (K + 5) (g (K + 5) + 1)) (K + 5)) (y := some [.d (.int .i64 code.length)]) (by omega) (by omega)
    have e : ∀ (f : Nat → Nat) (i : Nat), upd f i (f i) = f := fun f i => by funext j; simp only [upd]; split <;> simp_all
    rw [e] at this
    exact this
  simp (config := { maxSteps := 1000000 }) only [go_sem, ↓reduceIte, Nat.reduceEqDiff, Nat.reduceAdd, Nat.reduceMul, Nat.reduceSub, Nat.reduceLT, Nat.reduceLeDiff, Int.reduceLT, Int.reduceLE, Int.reduceEq, Int.reduceNe, Int.reduceAdd, Int.reduceNeg, Int.reduceToNat, h1, h2, hgT, t1, t2, b1, b2]
  refine hook_put [⟨op, 0, 0, 0⟩] hp3 rfl hgT (by omega) (by omega) rfl rfl (by exact hl) ?_
  intro g1 ob1 p1 q1 q2
  have e1 : g1 (K + 2) = g (K + 2) + 1 := by rw [q1 _ (by omega) (by omega)]; simp [upd]
  have e2 : g1 (K + 5) = g (K + 5) + 1 := by rw [q1 _ (by omega) (by omega)]; simp [upd]
  have e3 : ob1 (K + 2) = some [.ptr T gT 0] := by rw [q2 _ (by omega) (by omega) (by omega)]; simp [upd]
  have e4 : ob1 (K + 5) = some [.d (.int .i64 code.length)] := by rw [q2 _ (by omega) (by omega) (by omega)]; simp [upd]
  simp (config := { maxSteps := 1000000 }) only [go_sem, ↓reduceIte, Nat.reduceEqDiff, Nat.reduceAdd, Nat.reduceMul, Nat.reduceSub, Nat.reduceLT, Nat.reduceLeDiff, Int.reduceLT, Int.reduceLE, Int.reduceEq, Int.reduceNe, Int.reduceAdd, Int.reduceNeg, Int.reduceToNat, e1, e2]
  refine retF_dropsR (fun i => decide (K + 6 ≤ i)) ?_
  refine ⟨⟨?_, ?_, ?_⟩, p1.tape.same rfl ?_ ?_, p1.gen, fun i hi hT hB => ?_, fun i hi => ?_⟩
  · simp (config := { maxSteps := 1000000 }) only [go_sem, ↓reduceIte, Nat.reduceEqDiff, Nat.reduceAdd, Nat.reduceMul, Nat.reduceSub, Nat.reduceLT, Nat.reduceLeDiff, Int.reduceLT, Int.reduceLE, Int.reduceEq, Int.reduceNe, Int.reduceAdd, Int.reduceNeg, Int.reduceToNat, resAV, e1, e2]
  · simp [e3]
  · simp [e4]
  · simp [show ¬ K + 6 ≤ T by omega]
  · simp [show ¬ K + 6 ≤ B by omega]
  · simp only [show ¬ K + 6 ≤ i by omega, decide_false, Bool.false_eq_true, if_false]; exact p1.obj i hi hT hB
  · simp [hi]

end Go.Proofs.Ythengcpckdlpgaa

/- Stack code: the depths are found. -/
import Derived.Test.YthengcpckdlpgaaL13
set_option linter.unusedSimpArgs false
set_option linter.unusedVariables false
namespace Go.Proofs.Ythengcpckdlpgaa
open Go Go.Am Go.Lower

def icells (l : List Int) : List C := l.map fun k => .d (.int .i64 k)
theorem icells_len (l : List Int) : (icells l).length = l.length := by simp [icells]
theorem icells_get (l : List Int) (k : Nat) : (icells l)[k]? = (l[k]?).map fun k => .d (.int .i64 k) := by simp [icells]
theorem icells_set (l : List Int) (k : Nat) (v : Int) : (icells l).set k (.d (.int .i64 v)) = icells (l.set k v) := by simp [icells, List.map_set]
theorem icells_app (a b : List Int) : icells (a ++ b) = icells a ++ icells b := by simp [icells]

theorem frzV_agg {s : St} {cs : List D} (h : cs.all (fun x => match x with | .nsl => false | _ => true) = true) : FrzV s (.agg (cs.map .d)) (.agg (cs.map .d)) := by
  refine ⟨cs, by simp, fun i c hc => ?_, rfl⟩
  rw [List.getElem?_map] at hc
  cases hq : cs[i]? with
  | none => rw [hq] at hc; cases hc
  | some x =>
    rw [hq] at hc
    cases hc
    refine ⟨x, rfl, ?_⟩
    have := List.all_eq_true.1 h x (List.mem_of_getElem? hq)
    have hn : normD x = x := by cases x <;> simp_all [normD]
    have h2 := Frz.d (s := s) x
    rwa [hn] at h2

theorem fill_set (n k : Nat) (h : k < n) : (List.replicate k (-1 : Int) ++ List.replicate (n - k) 0).set k (-1) = List.replicate (k + 1) (-1) ++ List.replicate (n - (k + 1)) 0 := by
  rw [List.set_append_right _ _ (by simp), List.length_replicate, Nat.sub_self]
  obtain ⟨m, hm⟩ : ∃ m, n - k = m + 1 := ⟨n - k - 1, by omega⟩
  rw [hm, show n - (k + 1) = m by omega, List.replicate_succ, List.set_cons_zero, List.replicate_succ' (n := k), List.append_assoc]
  rfl

theorem start_inv {T : Nat → Option Int} {n : Nat} (hn : 0 < n) (hT : T 0 = some 0) : Inv T n ((List.replicate n (-1 : Int)).set 0 0) [0] ∧ left ((List.replicate n (-1 : Int)).set 0 0) + 1 = n ∧ (∀ v ∈ (List.replicate n (-1 : Int)).set 0 0, v ≤ 0) := by
  obtain ⟨m, rfl⟩ : ∃ m, n = m + 1 := ⟨n - 1, by omega⟩
  rw [List.replicate_succ, List.set_cons_zero]
  refine ⟨⟨by simp, fun k v h => ?_, fun a ha => ?_⟩, ?_, fun v hv => ?_⟩
  · cases k with
    | zero => simp at h; subst h; exact .inr ⟨hT, Int.le_refl _⟩
    | succ k => rw [List.getElem?_cons_succ, List.getElem?_replicate] at h; split at h <;> simp at h; exact .inl h.symm
  · obtain rfl : a = 0 := by simpa using ha
    exact ⟨0, rfl, hT, Int.le_refl _⟩
  · unfold left
    rw [List.countP_cons, List.countP_replicate]
    simp
  · rcases List.mem_cons.1 hv with rfl | h
    · exact Int.le_refl _
    · have := List.eq_of_mem_replicate h; omega

theorem rep_flat {α : Type} (n : Nat) (x : α) : (List.replicate n [x]).flatten = List.replicate n x := by
  induction n with
  | zero => rfl
  | succ n ih => rw [List.replicate_succ, List.flatten_cons, ih, List.replicate_succ]; rfl

theorem insD_0 (x : Ins) : (insD x)[0]? = some (.int .i64 x.op) := rfl
theorem insD_len (x : Ins) : (insD x).length = 4 := rfl
def nI (l : List Nat) : List Int := l.map fun k : Nat => (k : Int)
theorem todo_head {cells : List C} {off a : Nat} {todo : List Nat} (h : (cells.drop off).take (todo.length + 1) = icells (nI (a :: todo))) : cells[off]? = some (.d (.int .i64 a)) ∧ (cells.drop (off + 1)).take todo.length = icells (nI todo) := by
  have h0 : ((cells.drop off).take (todo.length + 1))[0]? = some (.d (.int .i64 a)) := by rw [h]; rfl
  rw [List.getElem?_take, if_pos (by omega), List.getElem?_drop, Nat.add_zero] at h0
  refine ⟨h0, ?_⟩
  have h1 : ((cells.drop off).take (todo.length + 1)).drop 1 = icells (nI todo) := by rw [h]; rfl
  rw [List.drop_take, List.drop_drop] at h1
  simpa [Nat.add_comm] using h1

/-- The search in its midst. -/
structure Mid (T : Nat → Option Int) (n : Nat) (out : List Int) (todo : List Nat) : Prop where
  inv : Inv T n out todo
  le : ∀ v ∈ out, v + left out ≤ n

theorem Mid.pop {T : Nat → Option Int} {n : Nat} {out : List Int} {a : Nat} {todo : List Nat} (h : Mid T n out (a :: todo)) : Mid T n out todo ∧ ∃ v, out[a]? = some v ∧ T a = some v ∧ 0 ≤ v ∧ v + left out ≤ n := by
  obtain ⟨v, h1, h2, h3⟩ := h.inv.2.2 a (by simp)
  exact ⟨⟨⟨h.inv.1, h.inv.2.1, fun b hb => h.inv.2.2 b (by simp [hb])⟩, h.le⟩, v, h1, h2, h3, h.le v (List.mem_of_getElem? h1)⟩

theorem Mid.find {T : Nat → Option Int} {n k : Nat} {out : List Int} {todo : List Nat} {deep v d : Int} (h : Mid T n out todo) (hT : T k = some deep) (h0 : 0 ≤ deep) (hv : out[k]? = some v) (hn : v < 0) (hd : deep ≤ d + 1) (hdl : d + left out ≤ n) :
    Mid T n (out.set k deep) (todo ++ [k]) ∧ left (out.set k deep) + (todo ++ [k]).length = left out + todo.length ∧ d + left (out.set k deep) ≤ n := by
  obtain ⟨h1, h2⟩ := h.inv.find hT h0 hv hn
  have hc := count_set_neg hv hn h0
  refine ⟨⟨h1, fun u hu => ?_⟩, h2, by omega⟩
  rcases List.mem_or_eq_of_mem_set hu with hu | rfl
  · have := h.le u hu; omega
  · omega

theorem good_all {ps : Sig} {word : Bool} {T : Nat → Option Int} {c : Lower.Code} (h : Lower.Good ps word T 0 c) {i : Nat} {x : Ins} {d : Int} (hi : c[i]? = some (x, d)) : OkI ps word T i x d := by
  have := good_get h hi
  rwa [Nat.zero_add] at this

theorem takes_p {ps : Sig} {word : Bool} {x : Ins} {t p : Int} (h : takes ps word x = some (t, p)) : 0 ≤ p ∧ p ≤ 1 := by
  rcases takes_op h with h1 | h1 | h1 | h1 | h1 | h1 | h1 | h1 | h1 | h1 | h1 | h1 | h1
  all_goals try (obtain ⟨rfl, rfl⟩ : _ = t ∧ _ = p := by simpa [takes, h1] using h)
  all_goals try (exact ⟨by decide, by decide⟩)
  · simp only [takes, h1] at h
    simp at h
    obtain ⟨_, a, ⟨_, _, hb⟩ | ⟨_, _, hb⟩⟩ := h <;> omega
  · cases word <;> simp [takes, h1] at h <;> omega

set_option maxHeartbeats 8000000 in
set_option maxRecDepth 100000 in
theorem Depths_A {w : Int} {fs : List Fn} {f : Nat} {fx : Fn} (hf : fs[f]? = some fx) {cd : Lower.Code} (hcd : codeOf fx.word fx.body = cd) (hl : cd.length ≤ 1000000000) {T : Nat → Option Int} (hT : ∀ k, T k = (cd[k]?).map Prod.snd) (h0 : T 0 = some 0) (hg : Lower.Good (sig fs) fx.word T 0 cd) :
    PureR Try.prog 18 [stackC w fs, iv .i64 f] (fun r => ∃ x, r = .tup [.one (.d x), bv true]) := by
  refine pure_of_wp Tt_ok mixed Try.func18 rfl (by rfl) [4, 5] rfl (by kernel_rfl) (by simp [Try.ntmps18]) fun g => ?_
  have hfl : f < fs.length := (List.getElem?_eq_some_iff.1 hf).1
  have hfl' : ¬ fs.length ≤ f := by omega
  have hn : 0 < cd.length := by
    cases hq : cd with
    | nil => rw [hT] at h0; simp [hq] at h0
    | cons => simp
  have hn0 : ¬ (cd.length : Int) = 0 := by omega
  have hf0 : ¬ (f : Int) < 0 := by omega
  have hTl : ∀ k v, T k = some v → k < cd.length := fun k v h => by
    rw [hT] at h
    cases hq : cd[k]? with
    | none => rw [hq] at h; cases h
    | some => exact (List.getElem?_eq_some_iff.1 hq).1
  unfold stackC
  simp (config := { maxSteps := 1000000 }) only [go_sem, ↓reduceIte, Nat.reduceEqDiff, Nat.reduceAdd, Nat.reduceMul, Nat.reduceSub, Nat.reduceLT, Nat.reduceLeDiff, Int.reduceLT, Int.reduceLE, Int.reduceEq, Int.reduceNe, Int.reduceAdd, Int.reduceNeg, Int.reduceToNat, hf, hfl, hfl', hf0, hn0, sfD, hcd, List.length_map]
  refine ⟨Nat.le_refl _, by omega, by omega, ?_⟩
  refine loop_introB (fun n s => ∃ k : Nat, n + k = cd.length ∧ s.f 1 = iv .i64 f ∧ s.f 2 = .one (.ptr 2 (s.gen 2) 0) ∧ s.f 6 = .one (.d (insV cd)) ∧ s.f 7 = .one (.osl 45 (s.gen 45) 1 0 cd.length) ∧ s.f 8 = iv .i64 k ∧
    s.obj 2 = some [.d (.int .i64 w), .d (.sl (fs.map sfD))] ∧ s.obj 45 = some (icells (List.replicate k (-1) ++ List.replicate (cd.length - k) 0))) cd.length ?_ ?_
  · refine ⟨0, rfl, ?_⟩
    simp (config := { maxSteps := 1000000 }) only [go_sem, ↓reduceIte, Nat.reduceEqDiff, Nat.reduceAdd, Nat.reduceMul, Nat.reduceSub, Nat.reduceLT, Nat.reduceLeDiff, Int.reduceLT, Int.reduceLE, Int.reduceEq, Int.reduceNe, Int.reduceAdd, Int.reduceNeg, Int.reduceToNat]
    rw [rep_flat, icells, List.map_append, List.map_replicate, List.map_replicate, List.replicate_zero, List.nil_append]
  · clear g
    rintro n g gn ob ⟨k, hk, f1, f2, f6, f7, f8, o2, o45⟩
    simp only at f1 f2 f6 f7 f8 o2 o45
    have hw := wrap_succ (k := k) (by omega)
    by_cases hlt : k < cd.length
    · have hil : (icells (List.replicate k (-1) ++ List.replicate (cd.length - k) 0)).length = cd.length := by rw [icells_len, List.length_append, List.length_replicate, List.length_replicate]; omega
      simp (config := { maxSteps := 1000000 }) only [go_sem, ↓reduceIte, Nat.reduceEqDiff, Nat.reduceAdd, Nat.reduceMul, Nat.reduceSub, Nat.reduceLT, Nat.reduceLeDiff, Int.reduceLT, Int.reduceLE, Int.reduceEq, Int.reduceNe, Int.reduceAdd, Int.reduceNeg, Int.reduceToNat, f1, f2, f6, f7, f8, o2, o45, hlt, hil, hw]
      refine ⟨by omega, ?_⟩
      refine round_endB (n - 1) (by omega) ⟨k + 1, by omega, ?_⟩
      simp (config := { maxSteps := 1000000 }) only [go_sem, ↓reduceIte, Nat.reduceEqDiff, Nat.reduceAdd, Nat.reduceMul, Nat.reduceSub, Nat.reduceLT, Nat.reduceLeDiff, Int.reduceLT, Int.reduceLE, Int.reduceEq, Int.reduceNe, Int.reduceAdd, Int.reduceNeg, Int.reduceToNat, f1, f2, f6, f7, f8, o2, o45, hw, setAt]
      rw [icells_set, fill_set cd.length k hlt]
    · have hkk : k = cd.length := by omega
      subst hkk
      rw [Nat.sub_self, List.replicate_zero, List.append_nil] at o45
      simp (config := { maxSteps := 1000000 }) only [go_sem, ↓reduceIte, Nat.reduceEqDiff, Nat.reduceAdd, Nat.reduceMul, Nat.reduceSub, Nat.reduceLT, Nat.reduceLeDiff, Int.reduceLT, Int.reduceLE, Int.reduceEq, Int.reduceNe, Int.reduceAdd, Int.reduceNeg, Int.reduceToNat, f1, f2, f6, f7, f8, o2, o45, hlt, icells_len, List.length_replicate, hn]
      refine ⟨by omega, by omega, ?_⟩
      obtain ⟨s1, s2, s3⟩ := start_inv (T := T) hn h0
      refine loop_introB (fun m s => ∃ (out : List Int) (todo : List Nat) (off : Nat) (cells : List C), m = left out + todo.length ∧ m ≤ cd.length ∧ Mid T cd.length out todo ∧ s.f 1 = iv .i64 f ∧ s.f 2 = .one (.ptr 2 (s.gen 2) 0) ∧ s.f 6 = .one (.d (insV cd)) ∧ s.f 7 = .one (.osl 45 (s.gen 45) 1 0 cd.length) ∧ s.f 9 = .one (.osl 57 (s.gen 57) 1 off todo.length) ∧
        s.obj 2 = some [.d (.int .i64 w), .d (.sl (fs.map sfD))] ∧ s.obj 45 = some (icells out) ∧ s.obj 57 = some cells ∧ (cells.drop off).take todo.length = icells (nI todo) ∧ off + todo.length ≤ cells.length) cd.length ?_ ?_
      · refine ⟨(List.replicate cd.length (-1)).set 0 0, [0], 0, [.d (.int .i64 0)], by rw [List.length_cons, List.length_nil]; exact s2.symm, Nat.le_refl _, ⟨s1, fun v hv => by have := s3 v hv; omega⟩, ?_⟩
        simp (config := { maxSteps := 1000000 }) only [go_sem, ↓reduceIte, Nat.reduceEqDiff, Nat.reduceAdd, Nat.reduceMul, Nat.reduceSub, Nat.reduceLT, Nat.reduceLeDiff, Int.reduceLT, Int.reduceLE, Int.reduceEq, Int.reduceNe, Int.reduceAdd, Int.reduceNeg, Int.reduceToNat, f1, f2, f6, f7, o2, setAt]
        exact ⟨icells_set _ _ _, rfl⟩
      · clear f1 f2 f6 f7 f8 o2 o45 hk hlt hw s1 s2 s3
        clear n g gn ob
        rintro n g gn ob ⟨out, todo, off, cells, hm, hmn, hmid, f1, f2, f6, f7, f9, o2, o45, o57, hc, hfit⟩
        simp only at f1 f2 f6 f7 f9 o2 o45 o57
        cases todo with
        | nil =>
          simp (config := { maxSteps := 1000000 }) only [go_sem, ↓reduceIte, Nat.reduceEqDiff, Nat.reduceAdd, Nat.reduceMul, Nat.reduceSub, Nat.reduceLT, Nat.reduceLeDiff, Int.reduceLT, Int.reduceLE, Int.reduceEq, Int.reduceNe, Int.reduceAdd, Int.reduceNeg, Int.reduceToNat, f1, f2, f6, f7, f9, o2, o45, o57, List.length_nil]
          refine ⟨_, ⟨_, frz_rows (s := ⟨_, _, _⟩) rfl out (fun k => [.int .i64 k]) o45 ?_ (fun _ _ y hy => by simp at hy; subst hy; rfl) (fun _ _ => rfl) hmid.inv.1, rfl⟩, _, rfl⟩
          simp only [icells, List.map_cons, List.map_nil]
          clear o45 hmid hm
          induction out with
          | nil => rfl
          | cons b out ih => rw [List.map_cons, List.flatMap_cons, ih]; rfl
        | cons a todo =>
          obtain ⟨hmid', v, hv, hTa, hv0, hvn⟩ := hmid.pop
          have hal := hTl a v hTa
          obtain ⟨hc0, hc1⟩ := todo_head (by simpa using hc)
          have hTa' := hTa
          rw [hT] at hTa'
          obtain ⟨⟨x, v'⟩, hx, hxv⟩ := Option.map_eq_some_iff.1 hTa'
          obtain rfl : v' = v := hxv
          obtain ⟨t, p, htk, ht0, htv, hret, hnx⟩ := good_all hg hx
          have hpos : (0 : Int) < ((todo.length + 1 : Nat) : Int) := by omega
          have hpos2 : ¬ ((todo.length + 1 : Nat) : Int) ≤ 0 := by omega
          simp (config := { maxSteps := 1000000 }) only [go_sem, ↓reduceIte, Nat.reduceEqDiff, Nat.reduceAdd, Nat.reduceMul, Nat.reduceSub, Nat.reduceLT, Nat.reduceLeDiff, Int.reduceLT, Int.reduceLE, Int.reduceEq, Int.reduceNe, Int.reduceAdd, Int.reduceNeg, Int.reduceToNat, f1, f2, f6, f7, f9, o2, o45, o57, List.length_cons, hpos, hc0]
          refine ⟨Nat.le_refl _, ?_⟩
          refine draw_calls Tt_ok mixed (by decide +kernel) ?_
          simp (config := { maxSteps := 1000000 }) only [go_sem, ↓reduceIte, Nat.reduceEqDiff, Nat.reduceAdd, Nat.reduceMul, Nat.reduceSub, Nat.reduceLT, Nat.reduceLeDiff, Int.reduceLT, Int.reduceLE, Int.reduceEq, Int.reduceNe, Int.reduceAdd, Int.reduceNeg, Int.reduceToNat, f1, f2, f6, f7, o2, o45, o57, hal, hx, List.length_map, insD_len]
          refine quiet_call rfl (Takes_A hf htk) ⟨_, _, rfl, frzV_agg (cs := [.int .i64 w, .sl (fs.map sfD)]) rfl, _, _, rfl, ⟨_, .d _, rfl⟩, _, _, rfl, frzV_agg (cs := insD x) rfl, rfl⟩ rfl ?_
          have hol := hmid.inv.1
          have h1 : ¬ t < 0 := by omega
          have h2 : ¬ v' < t := by omega
          have hs1 : IntKind.i64.wrap (v' - t) = v' - t := by rw [wrap_i64] <;> omega
          have hp := takes_p htk
          have hs2 : IntKind.i64.wrap (v' - t + p) = v' - t + p := by rw [wrap_i64] <;> omega
          have hcase : x.op = 11 ∧ (v' = t) = True ∨ ¬ x.op = 11 := by
            by_cases hr : x.op = 11
            · exact .inl ⟨hr, eq_true (hret hr)⟩
            · exact .inr hr
          rcases hcase with ⟨hr, hvt⟩ | hr
          simp (config := { maxSteps := 1000000 }) only [go_sem, ↓reduceIte, Nat.reduceEqDiff, Nat.reduceAdd, Nat.reduceMul, Nat.reduceSub, Nat.reduceLT, Nat.reduceLeDiff, Int.reduceLT, Int.reduceLE, Int.reduceEq, Int.reduceNe, Int.reduceAdd, Int.reduceNeg, Int.reduceToNat, f1, f2, f6, f7, o2, o45, o57, hal, hx, hv, hol, List.length_map, icells_get, h1, h2, hr, hvt, hs1, hs2, insD_len, insD_0]
          rotate_left
          simp (config := { maxSteps := 1000000 }) only [go_sem, ↓reduceIte, Nat.reduceEqDiff, Nat.reduceAdd, Nat.reduceMul, Nat.reduceSub, Nat.reduceLT, Nat.reduceLeDiff, Int.reduceLT, Int.reduceLE, Int.reduceEq, Int.reduceNe, Int.reduceAdd, Int.reduceNeg, Int.reduceToNat, f1, f2, f6, f7, o2, o45, o57, hal, hx, hv, hol, List.length_map, icells_get, h1, h2, hr, hs1, hs2, insD_len, insD_0]
          rotate_left
          all_goals (
            refine hook_call rfl (Next_A (at' := a) (x := x) (by omega)) (by rfl) ?_
            rintro _ rfl
            simp (config := { maxSteps := 1000000 }) only [go_sem, ↓reduceIte, Nat.reduceEqDiff, Nat.reduceAdd, Nat.reduceMul, Nat.reduceSub, Nat.reduceLT, Nat.reduceLeDiff, Int.reduceLT, Int.reduceLE, Int.reduceEq, Int.reduceNe, Int.reduceAdd, Int.reduceNeg, Int.reduceToNat]
            refine loop_introB (fun m s => ∃ (out : List Int) (todo : List Nat) (off : Nat) (cells : List C) (j : Nat), m + j = (next x a).length ∧ left out + todo.length + 1 = n ∧ Mid T cd.length out todo ∧ v' + left out ≤ cd.length ∧ s.f 1 = iv .i64 f ∧ s.f 2 = .one (.ptr 2 (s.gen 2) 0) ∧ s.f 6 = .one (.d (insV cd)) ∧ s.f 7 = .one (.osl 45 (s.gen 45) 1 0 cd.length) ∧ s.f 9 = .one (.osl 57 (s.gen 57) 1 off todo.length) ∧
              s.f 14 = iv .i64 (v' - t + p) ∧ s.f 15 = .one (.d (ksD (next x a))) ∧ s.f 16 = iv .i64 j ∧ s.obj 2 = some [.d (.int .i64 w), .d (.sl (fs.map sfD))] ∧ s.obj 45 = some (icells out) ∧ s.obj 57 = some cells ∧ (cells.drop off).take todo.length = icells (nI todo) ∧ off + todo.length ≤ cells.length) (next x a).length ?_ ?_
            · refine ⟨out, todo, off + 1, cells, 0, rfl, by rw [hm, List.length_cons]; omega, hmid', hvn, ?_⟩
              simp (config := { maxSteps := 1000000 }) only [go_sem, ↓reduceIte, Nat.reduceEqDiff, Nat.reduceAdd, Nat.reduceMul, Nat.reduceSub, Nat.reduceLT, Nat.reduceLeDiff, Int.reduceLT, Int.reduceLE, Int.reduceEq, Int.reduceNe, Int.reduceAdd, Int.reduceNeg, Int.reduceToNat, f1, f2, f6, f7, o2, o45, o57, Nat.add_sub_cancel]
              refine ⟨hc1, by simp only [List.length_cons] at hfit; omega⟩
            · clear f1 f2 f6 f7 f9 o2 o45 o57 hc hc0 hc1 hfit hmid hmid' hm hvn hv hol hpos hpos2
              clear g gn ob out todo off cells
              rintro m g gn ob ⟨out, todo, off, cells, j, hj, hm, hmid, hvn, f1, f2, f6, f7, f9, f14, f15, f16, o2, o45, o57, hc, hfit⟩
              simp only at f1 f2 f6 f7 f9 f14 f15 f16 o2 o45 o57
              have hol := hmid.inv.1
              have hjl : (next x a).length ≤ 2 := by
                unfold next
                by_cases e1 : x.op = 8
                · simp [e1]
                · by_cases e2 : x.op = 9
                  · simp [e2]
                  · by_cases e3 : x.op = 11 <;> simp [e1, e2, e3]
              have hwj := wrap_succ (k := j) (by omega)
              by_cases hlt : j < (next x a).length
              · obtain ⟨y, hy⟩ := getq hlt
                obtain ⟨k, rfl, hTk⟩ := hnx y (List.mem_of_getElem? hy)
                have hkl := hTl k _ hTk
                have hkl' : ¬ List.length cd ≤ k := by omega
                have hk0 : ¬ (k : Int) < 0 := by omega
                obtain ⟨u, hu⟩ := getq (show k < out.length by omega)
                have hd0 : ¬ (v' - t + p) < 0 := by omega
                rcases hmid.inv.seen hTk hu with hneg | heq
                · have hneg' : ¬ 0 ≤ u := by omega
                  obtain ⟨m1, m2, m3⟩ := hmid.find hTk (by omega) hu hneg (show v' - t + p ≤ v' + 1 by omega) hvn
                  simp (config := { maxSteps := 1000000 }) only [go_sem, ↓reduceIte, Nat.reduceEqDiff, Nat.reduceAdd, Nat.reduceMul, Nat.reduceSub, Nat.reduceLT, Nat.reduceLeDiff, Int.reduceLT, Int.reduceLE, Int.reduceEq, Int.reduceNe, Int.reduceAdd, Int.reduceNeg, Int.reduceToNat, f1, f2, f6, f7, f9, f14, f15, f16, o2, o45, o57, hlt, hy, hkl, hkl', hk0, hu, hneg, hneg', hol, List.length_map, icells_get, icells_len, ksD, setAt]
                  refine ⟨by omega, hfit, ⟨by decide, by omega⟩, ?_⟩
                  refine round_endB (m - 1) (by omega) ⟨out.set k (v' - t + p), todo ++ [k], 0, (cells.drop off).take todo.length ++ [.d (.int .i64 (k : Int))], j + 1, by omega, by omega, m1, m3, ?_⟩
                  simp (config := { maxSteps := 1000000 }) only [go_sem, ↓reduceIte, Nat.reduceEqDiff, Nat.reduceAdd, Nat.reduceMul, Nat.reduceSub, Nat.reduceLT, Nat.reduceLeDiff, Int.reduceLT, Int.reduceLE, Int.reduceEq, Int.reduceNe, Int.reduceAdd, Int.reduceNeg, Int.reduceToNat, f1, f2, f6, f7, f9, f14, f15, f16, o2, o45, o57, hwj, ksD, List.length_append]
                  refine ⟨icells_set _ _ _, ?_, ?_⟩
                  · rw [hc, List.take_of_length_le (by simp [icells_len, nI]), nI, nI, List.map_append, icells_app]; rfl
                  · rw [hc]; simp [icells_len, nI]
                · subst heq
                  have hge : 0 ≤ v' - t + p := by omega
                  simp (config := { maxSteps := 1000000 }) only [go_sem, ↓reduceIte, Nat.reduceEqDiff, Nat.reduceAdd, Nat.reduceMul, Nat.reduceSub, Nat.reduceLT, Nat.reduceLeDiff, Int.reduceLT, Int.reduceLE, Int.reduceEq, Int.reduceNe, Int.reduceAdd, Int.reduceNeg, Int.reduceToNat, f1, f2, f6, f7, f9, f14, f15, f16, o2, o45, o57, hlt, hy, hkl, hkl', hk0, hu, hge, hd0, hol, List.length_map, icells_get, icells_len, ksD, hwj]
                  refine round_endB (m - 1) (by omega) ⟨out, todo, off, cells, j + 1, by omega, hm, hmid, hvn, ?_⟩
                  simp (config := { maxSteps := 1000000 }) only [go_sem, ↓reduceIte, Nat.reduceEqDiff, Nat.reduceAdd, Nat.reduceMul, Nat.reduceSub, Nat.reduceLT, Nat.reduceLeDiff, Int.reduceLT, Int.reduceLE, Int.reduceEq, Int.reduceNe, Int.reduceAdd, Int.reduceNeg, Int.reduceToNat, f1, f2, f6, f7, f9, f14, f15, f16, o2, o45, o57, hwj, ksD]
                  exact ⟨hc, hfit⟩
              · simp (config := { maxSteps := 1000000 }) only [go_sem, ↓reduceIte, Nat.reduceEqDiff, Nat.reduceAdd, Nat.reduceMul, Nat.reduceSub, Nat.reduceLT, Nat.reduceLeDiff, Int.reduceLT, Int.reduceLE, Int.reduceEq, Int.reduceNe, Int.reduceAdd, Int.reduceNeg, Int.reduceToNat, f1, f2, f6, f7, f9, f14, f15, f16, o2, o45, o57, hlt, List.length_map, ksD]
                refine round_endB (n - 1) (by omega) ⟨out, todo, off, cells, by omega, by omega, hmid, ?_⟩
                simp (config := { maxSteps := 1000000 }) only [go_sem, ↓reduceIte, Nat.reduceEqDiff, Nat.reduceAdd, Nat.reduceMul, Nat.reduceSub, Nat.reduceLT, Nat.reduceLeDiff, Int.reduceLT, Int.reduceLE, Int.reduceEq, Int.reduceNe, Int.reduceAdd, Int.reduceNeg, Int.reduceToNat, f1, f2, f6, f7, f9, o2, o45, o57]
                exact ⟨hc, hfit⟩)

end Go.Proofs.Ythengcpckdlpgaa

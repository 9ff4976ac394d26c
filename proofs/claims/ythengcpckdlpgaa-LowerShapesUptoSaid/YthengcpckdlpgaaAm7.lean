/- All operations; regions; code. -/
import Derived.Test.YthengcpckdlpgaaAm6
import Derived.Deep.LoopGhost
import Derived.Deep.Upon
set_option linter.unusedSimpArgs false
set_option linter.unusedVariables false
namespace Go.Am
section
variable {P : Program} {T : Nat → TI} {b₀ : Bs} {β : Loc} {w : World}

theorem Src.eq_nil {size : Nat} {tx : TypeId} {x : Value} {news : List Value} (hs : Src P size tx x 0 news w) : news = [] := List.eq_nil_of_length_eq_zero (by rw [hs.newsLen]; simp)

theorem CellsAre.nil_of {s : St} {cs : List C} (h : CellsAre b₀ β s w cs []) : cs = [] := List.eq_nil_of_length_eq_zero (by rw [← h.1]; rfl)

/-- An object's block is below the heap's end. -/
theorem obj_lt {N : Nat} {s : St} {a : Act} (hr : Rel b₀ N s β a w) {i : Nat} {ad : Addr} (ho : (s.obj i).isSome = true) (hβ : β i = some ad) : ad.block < w.heap.size := by
  obtain ⟨cells, hc⟩ := Option.isSome_iff_exists.1 ho
  have := hr.obj i cells hc
  rw [hβ] at this
  exact this.block.2

theorem appendA_sound (hT : TabOk P T) {N : Nat} {s : St} {a : Act} (hr : Rel b₀ N s β a w) {t tx i₀ d : Nat} (hsl : okSl T t = true) (hd : d < N) {x y : AV} {v u : Value} {K : St → Prop} {k : Box K}
    (h : appendA (elemTI T t) (isStr (T tx).desc) (okSl T tx) i₀ d s x y k) (hv : RepV b₀ β s.gen s.obj w x v) (hu : RepV b₀ β s.gen s.obj w y u) (ty : TypeId) :
    ∃ s' β' w' cv, K s' ∧ (Builtin.append_ #[t, tx] ty #[v, u]).run P w = .ok cv w' ∧ Rel b₀ N s' β' (a.put (some d) cv) w' ∧ Tr b₀ β s w β' s' w' := by
  obtain ⟨e, he1, he2, hty, hte⟩ := okSl_inv hT hsl
  rw [he2] at h
  unfold appendA at h
  split at h
  · simp only [RepV, RepC] at hv
    obtain rfl := hv.inv_nsl
    obtain ⟨n, cs, news, ⟨hroom, hK⟩, hs, hca⟩ := contents_sound hT hr h hu
    obtain ⟨inf, hi, hsz, _⟩ := hte.info
    by_cases hn : n = 0
    · subst hn
      obtain rfl := Src.eq_nil hs
      obtain rfl := hca.nil_of
      have hrun := run_append_nothing (P := P) w t tx ty e inf hty hi none 0 0 (Nat.le_refl _) u (by rw [hsz]; exact hs)
      obtain ⟨r1, r2⟩ := append_nothing hr i₀ d hd (T e).size (x := none) (v := .slice none 0 0) ⟨rfl, rfl⟩ rfl rfl (fun _ _ _ _ _ _ hx => by cases hx) (fun _ _ hx => by cases hx)
      exact ⟨_, _, _, _, hK, hrun, r1, r2⟩
    · obtain ⟨β', w', cv, g1, g2, g3⟩ := append_grow hr hty hte i₀ d hd (base := none) (sLen := 0) (sCap := 0) (n := n) (x := u) (cs := []) (cs' := cs) (olds := []) (news := news)
        (run_firstCells_none w.drew _ _ _ _) (by simp) hs ⟨rfl, fun _ _ hc => by simp at hc⟩ hca (by omega) (by simpa using hroom) ty (tx := tx)
      simp only [List.nil_append, Nat.zero_add] at g2 g3
      exact ⟨_, _, _, _, hK, g1, g2, g3⟩
  · rename_i id g' sz off len
    obtain ⟨hg, rfl, h⟩ := h
    obtain ⟨cells, ho, hfit, h⟩ := onSome_inv h
    simp only [RepV] at hv
    have hat := osl_live hv hg (by simp [ho])
    obtain ⟨n, cs, news, ⟨hroom, hK⟩, hs, hca⟩ := contents_sound hT hr h hu
    obtain ⟨inf, hi, hsz, _⟩ := hte.info
    have hob := hr.obj id cells ho
    -- an empty handle, to which nothing is appended
    have hempty : len = 0 → n = 0 → v.oneCell' = true → ∀ (hv0 : ∃ b, v = .slice b 0 0), ∃ s' β' w' cv, K s' ∧ (Builtin.append_ #[t, tx] ty #[v, u]).run P w = .ok cv w' ∧ Rel b₀ N s' β' (a.put (some d) cv) w' ∧ Tr b₀ β s w β' s' w' := by
      rintro rfl rfl hone ⟨b, rfl⟩
      obtain rfl := Src.eq_nil hs
      obtain rfl := hca.nil_of
      have hrun := run_append_nothing (P := P) w t tx ty e inf hty hi b 0 0 (Nat.le_refl _) u (by rw [hsz]; exact hs)
      simp only [Nat.zero_mul, List.take_zero, List.append_nil, Nat.add_zero] at hK
      cases hβ : β id with
      | none =>
        rw [hβ] at hat hob
        obtain ⟨r1, r2⟩ := append_nothing hr id d hd (T e).size (x := none) (v := .slice b 0 0) ⟨rfl, hat.2⟩ hone rfl (fun _ _ _ _ _ _ hx => by cases hx) (fun _ _ hx => by cases hx)
        exact ⟨_, _, _, _, hK, hrun, r1, r2⟩
      | some ad =>
        rw [hβ] at hat hob
        obtain ⟨hsp, hat⟩ := hat
        obtain ⟨hB, arr, el, lo, hi', hblk, hfr, hlen, hcells⟩ := hob.cells hsp
        have hx : OslAt w (T e).size 0 0 (.slice b 0 0) (some ⟨ad.block, ad.off + off, none⟩) := by
          rcases hat with ⟨cap, hv1, _, hc⟩ | ⟨_, o, ho'⟩
          · cases hv1
            exact ⟨rfl, .inl ⟨0, by simp, Nat.le_refl _, fun arr1 el1 fr1 h1 => by have := hc _ _ _ h1; simpa using this⟩⟩
          · exact ⟨rfl, .inr ⟨rfl, o, ho'⟩⟩
        obtain ⟨r1, r2⟩ := append_nothing hr id d hd (T e).size (x := some ⟨ad.block, ad.off + off, none⟩) (v := .slice b 0 0) hx hone
          (.ofCells rfl ⟨hB, arr, el, lo, hi', hblk, hfr, by simp at hfit ⊢; omega, fun _ _ hc => by simp at hc⟩)
          (fun i' a' a'' hne hi1 hb1 hb2 hb => by cases hb2; exact hne (hr.inj i' id a' ad hi1 (by simp [ho]) hb1 hβ hb)) (fun b' a'' hb2 hb => by cases hb2; exact hb.2.2 id ad (by simp [ho]) hβ)
        exact ⟨_, _, _, _, hK, hrun, r1, r2⟩
    -- the cells that are there already
    have hgrow : ∀ base sCap, v = .slice base len sCap → len * (T e).size = 0 ∨ (∃ ad, β id = some ad ∧ base = some ⟨ad.block, ad.off + off, none⟩) → sCap < len + n →
        ∃ s' β' w' cv, K s' ∧ (Builtin.append_ #[t, tx] ty #[v, u]).run P w = .ok cv w' ∧ Rel b₀ N s' β' (a.put (some d) cv) w' ∧ Tr b₀ β s w β' s' w' := by
      rintro base sCap rfl hbase hlt
      have hold : ∃ olds, (Builtin.firstCells (T e).size len (.slice base len sCap)).run P w.drew = .ok olds.toArray w.drew ∧ olds.length = len * (T e).size ∧ CellsAre b₀ β s w ((cells.drop off).take (len * (T e).size)) olds := by
        rcases hbase with h0 | ⟨ad, hβ, rfl⟩
        · refine ⟨[], ?_, by simp [h0], by simp [h0], fun _ _ hc => by rw [h0] at hc; simp at hc⟩
          cases base with
          | none => exact run_firstCells_none w.drew _ _ _ _
          | some b => exact run_firstCells_some w.drew _ _ b _ _ [] (by simp [h0]) (fun _ _ hc => by simp at hc)
        · rcases osl_cells hr (hat.spot) ho hfit with ⟨ad', hβ', vs, hcv, hl, hcell⟩ | ⟨hβ', rfl⟩
          · rw [hβ] at hβ'; cases hβ'
            exact ⟨vs, run_firstCells_some w.drew _ _ _ _ _ vs hl (fun j u hu => by rw [addr_add]; simpa using hcell j u hu), hl, hcv⟩
          · rw [hβ] at hβ'; cases hβ'
      obtain ⟨olds, o1, o2, o3⟩ := hold
      obtain ⟨β', w', cv, g1, g2, g3⟩ := append_grow hr hty hte id d hd (base := base) (sLen := len) (sCap := sCap) (n := n) (x := u) o1 o2 hs o3 hca hlt hroom ty (tx := tx)
      exact ⟨_, _, _, _, hK, g1, g2, g3⟩
    cases hβ : β id with
    | none =>
      rw [hβ] at hat
      obtain ⟨hl0, rfl⟩ := hat
      by_cases hn : n = 0
      · exact hempty hl0 hn rfl ⟨none, rfl⟩
      · subst hl0
        exact hgrow none 0 rfl (.inl (by simp)) (by omega)
    | some ad =>
      rw [hβ] at hat
      obtain ⟨hsp, hat⟩ := hat
      rcases hat with ⟨cap, rfl, hcap, hc⟩ | ⟨hl0, o, rfl⟩
      · by_cases hlt : cap < len + n
        · exact hgrow _ cap rfl (.inr ⟨ad, hβ, rfl⟩) hlt
        · obtain ⟨β', w', cv, g1, g2, g3⟩ := append_room hr hty hte id d hd hβ hsp ho hfit hc hs hca (by omega) ty
          exact ⟨_, _, _, _, hK, g1, g2, g3⟩
      · by_cases hn : n = 0
        · exact hempty hl0 hn rfl ⟨_, rfl⟩
        · subst hl0
          exact hgrow _ 0 rfl (.inl (by simp)) (by omega)
  · exact h.elim

/-- make. -/
theorem makeSliceA_sound (hT : TabOk P T) {N : Nat} {s : St} {a : Act} (hr : Rel b₀ N s β a w) {t i₀ d : Nat} (hsl : okSl T t = true) (hd : d < N) {x y : AV} {v u : Value} {K : St → Prop} {k : Box K}
    (h : makeSliceA (elemTI T t) i₀ d s x y k) (hv : RepV b₀ β s.gen s.obj w x v) (hu : RepV b₀ β s.gen s.obj w y u) :
    ∃ s' β' w' cv, K s' ∧ (Instr.makeSlice t v u).run P w = .ok cv w' ∧ Rel b₀ N s' β' (a.put (some d) cv) w' ∧ Tr b₀ β s w β' s' w' := by
  obtain ⟨e, he1, he2, hty, hte⟩ := okSl_inv hT hsl
  rw [he2] at h
  unfold makeSliceA at h
  split at h
  · rename_i k1 n k2 m
    obtain ⟨h0, h1, h2, h3, hK⟩ := h
    simp only [RepV, RepC] at hv hu
    obtain rfl := hv.inv_int
    obtain rfl := hu.inv_int
    obtain ⟨inf, hi, hsz, hby, z, hz, hzc⟩ := hte.info
    have hrun := run_make (P := P) w t e inf z hty hi hz k1 k2 n m h0 h1 (by rw [hby, Int.mul_comm]; exact h3) (by omega)
    have hzs := hte.zsize hi hz
    have hfl : ((List.replicate m.toNat ((T e).zero.map C.d)).flatten).length = m.toNat * (T e).size := by
      simp [hte.zlen]
    refine ⟨_, upd β i₀ (some ⟨w.heap.size, 0, none⟩), _, _, hK, hrun, ?_⟩
    refine newSlice hr i₀ d hd rfl (by exact ⟨rfl, rfl⟩) (vs := (madeCells z.cells (m.toNat * inf.size)).toList) ⟨?_, fun j c hc => ?_⟩ (fun j v hv => by simpa using hv) ?_ _ _ _ (by omega) ?_
    · rw [hfl, Array.length_toList, size_madeCells, hsz]
    · have hlt : j < m.toNat * (T e).size := by rw [← hfl]; exact (List.getElem?_eq_some_iff.1 hc).1
      obtain ⟨i, e', j', q1, q2, q3⟩ := flatten_get (sz := (T e).size) _ (fun e' he' => by rw [List.eq_of_mem_replicate he', List.length_map, hte.zlen]) j c hc
      have he' : e' = (T e).zero.map C.d := List.eq_of_mem_replicate (List.mem_of_getElem? q1)
      subst he'
      rw [List.getElem?_map] at q2
      cases hq : (T e).zero[j']? with
      | none => rw [hq] at q2; cases q2
      | some x =>
        rw [hq] at q2
        simp only [Option.map_some, Option.some.injEq] at q2
        subst q2
        have hj' : j' < (T e).size := by rw [← hte.zlen]; exact (List.getElem?_eq_some_iff.1 hq).1
        have hmod : j % z.cells.size = j' := by rw [hzs, q3, Nat.mul_comm, Nat.mul_add_mod, Nat.mod_eq_of_lt hj']
        have hzj : z.cells[j']? = some (dV x) := by rw [← Array.getElem?_toList, hzc, List.getElem?_map, hq]; rfl
        refine ⟨dV x, ?_, ?_⟩
        · rw [Array.getElem?_toList]
          have : j < m.toNat * inf.size := by rw [hsz]; exact hlt
          simp only [madeCells, Array.getElem?_map, Array.getElem?_range, this, if_true, Option.map_some, hmod]
          rw [getElem!_def, hzj]
        · simp only [RepC]
          exact RepD.of_plain (by have := hte.plain; rw [List.all_eq_true] at this; exact this x (List.mem_of_getElem? hq))
    · rw [hfl, size_madeCells, hsz]; exact Nat.le_refl _
    · rw [size_madeCells, hsz]; exact Nat.le_refl _
  · exact h.elim

theorem foldl_zip (off : Nat) : ∀ (l : List Value) (k : Nat) (c : Array Value), ((l.zipIdx k).foldl (fun cs (p : Value × Nat) => cs.setIfInBounds (off + p.2) p.1) c).size = c.size ∧
    ∀ j, ((l.zipIdx k).foldl (fun cs (p : Value × Nat) => cs.setIfInBounds (off + p.2) p.1) c)[j]? = if off + k ≤ j ∧ j < off + k + l.length ∧ j < c.size then l[j - (off + k)]? else c[j]?
  | [], k, c => ⟨rfl, fun j => by rw [if_neg (by simp; omega)]; rfl⟩
  | v :: l, k, c => by
    simp only [List.zipIdx_cons, List.foldl_cons]
    obtain ⟨h1, h2⟩ := foldl_zip off l (k + 1) (c.setIfInBounds (off + k) v)
    refine ⟨by rw [h1]; simp, fun j => ?_⟩
    rw [h2 j]
    simp only [Array.size_setIfInBounds, List.length_cons]
    by_cases hj : j = off + k
    · subst hj
      rw [if_neg (by omega)]
      by_cases hs : off + k < c.size
      · rw [if_pos (by omega), Array.getElem?_setIfInBounds_self_of_lt hs]; simp
      · rw [if_neg (by omega)]; simp [hs]
    · by_cases hc : off + (k + 1) ≤ j ∧ j < off + (k + 1) + l.length ∧ j < c.size
      · rw [if_pos hc, if_pos (by omega)]
        have : j - (off + k) = (j - (off + (k + 1))) + 1 := by omega
        rw [this, List.getElem?_cons_succ]
      · rw [if_neg hc, if_neg (by omega), Array.getElem?_setIfInBounds_ne (Ne.symm hj)]

theorem fill_step {pl : Nat → Option (Nat × Nat)} {i off sz : Nat} {v : Value} {vs : List Value} {cells : Array Value} {rest : List (Nat × Value)} (hp : pl i = some (off, sz)) (hv : v.cells = vs.toArray) (hl : vs.length = sz) (hfit : off + sz ≤ cells.size) :
    ∃ cells' : Array Value, Instr.fill pl cells ((i, v) :: rest) = Instr.fill pl cells' rest ∧ cells'.size = cells.size ∧ ∀ j, cells'[j]? = if off ≤ j ∧ j < off + sz ∧ j < cells.size then vs[j - off]? else cells[j]? := by
  obtain ⟨h1, h2⟩ := foldl_zip off vs 0 cells
  have hsz : v.cells.size = sz := by rw [hv]; simpa using hl
  refine ⟨_, ?_, h1, fun j => ?_⟩
  · simp only [Instr.fill, hp, hsz, ne_eq, not_true_eq_false, decide_false, Bool.false_or, gt_iff_lt, decide_eq_true_eq, if_neg (Nat.not_lt.2 hfit)]
    rw [hv]
    congr 1
    simp
  · have := h2 j
    simp only [Nat.add_zero, hl] at this
    exact this

/-- Parts, laid one by one. -/
theorem fillA_sound {N : Nat} {s : St} {a : Act} (hr : Rel b₀ N s β a w) {pl : Nat → Option (Nat × Nat)} : ∀ (ps : List (Nat × Operand)) {cells : List C} {carr : Array Value} {K : List C → Prop} {k : Box K}, CellsAre b₀ β s w cells carr.toList →
    fillA pl cells (ps.map fun p => (p.1, s.ev p.2)) k → ∃ cells' carr', K cells' ∧ Instr.fill pl carr (ps.map fun p => (p.1, a.eval p.2)) = some carr' ∧ CellsAre b₀ β s w cells' carr'.toList
  | [], cells, carr, K, k, hc, h => ⟨cells, carr, h, rfl, hc⟩
  | p :: ps, cells, carr, K, k, hc, h => by
    simp only [List.map_cons, fillA] at h
    obtain ⟨q, hq, h⟩ := onSome_inv h
    obtain ⟨cs, hcs, hl, hfit, h⟩ := onSome_inv h
    obtain ⟨vs, e1, e2, e3, e4⟩ := RepV.cells hcs (hr.ev p.2)
    have hcl : carr.size = cells.length := by simpa using hc.1
    obtain ⟨carr', g1, g2, g3⟩ := fill_step (rest := ps.map fun p => (p.1, a.eval p.2)) (cells := carr) hq e1 (by rw [e2, hl]) (by omega)
    have hc' : CellsAre b₀ β s w (setAt cells q.1 cs) carr'.toList := by
      refine ⟨by simp [setAt_length, g2, hcl], fun j c hj => ?_⟩
      rw [setAt_get] at hj
      rw [Array.getElem?_toList, g3]
      split at hj
      · rename_i hin
        rw [if_pos (by omega)]
        exact e3 _ c hj
      · rename_i hin
        rw [if_neg (by omega)]
        simpa using hc.2 j c hj
    obtain ⟨cells'', carr'', f1, f2, f3⟩ := fillA_sound hr ps hc' h
    exact ⟨cells'', carr'', f1, by simp only [List.map_cons]; rw [g1]; exact f2, f3⟩

/-- The elements of a literal. -/
theorem catA_sound {N : Nat} {s : St} {a : Act} (hr : Rel b₀ N s β a w) {sz : Nat} : ∀ (ps : List (Nat × Operand)) {k : Nat} {arr : Array Value} {K : List C → Prop} {b : Box K}, arr.size = (k + ps.length) * sz →
    catA sz k (ps.map fun p => (p.1, s.ev p.2)) b → ∃ cs vs arr', K cs ∧ Instr.fill (fun i => some (i * sz, sz)) arr (ps.map fun p => (p.1, a.eval p.2)) = some arr' ∧ arr'.size = arr.size ∧ CellsAre b₀ β s w cs vs ∧ vs.length = ps.length * sz ∧
      (∀ j, j < k * sz → arr'[j]? = arr[j]?) ∧ ∀ (j : Nat) v, vs[j]? = some v → arr'[k * sz + j]? = some v
  | [], k, arr, K, b, hsz, h => ⟨[], [], arr, h, rfl, rfl, ⟨rfl, fun _ _ h => by simp at h⟩, by simp, fun _ _ => rfl, fun _ _ h => by simp at h⟩
  | p :: ps, k, arr, K, b, hsz, h => by
    simp only [List.map_cons, catA] at h
    obtain ⟨hk, h⟩ := h
    obtain ⟨cs, hcs, hl, h⟩ := onSome_inv h
    obtain ⟨vs, e1, e2, e3, e4⟩ := RepV.cells hcs (hr.ev p.2)
    have hmul : (k + (ps.length + 1)) * sz = k * sz + sz + ps.length * sz := by rw [Nat.add_mul, Nat.add_mul]; omega
    simp only [List.length_cons] at hsz
    rw [hmul] at hsz
    obtain ⟨arr1, g1, g2, g3⟩ := fill_step (pl := fun i => some (i * sz, sz)) (i := p.1) (v := a.eval p.2) (rest := ps.map fun p => (p.1, a.eval p.2)) (cells := arr) (by rw [hk]) e1 (by rw [e2, hl]) (by omega)
    have hmul2 : (k + 1) * sz = k * sz + sz := by rw [Nat.add_mul]; omega
    obtain ⟨rest, vr, arr2, f1, f2, f3, f4, f5, f6, f7⟩ := catA_sound hr ps (k := k + 1) (arr := arr1) (by rw [g2, hsz, Nat.add_mul, hmul2]) h
    have hvl : vs.length = sz := by rw [e2, hl]
    refine ⟨cs ++ rest, vs ++ vr, arr2, f1, by simp only [List.map_cons]; rw [g1]; exact f2, by rw [f3, g2], CellsAre.append ⟨e2, e3⟩ f4, by simp [hvl, f5, Nat.add_mul]; omega, fun j hj => ?_, fun j v hj => ?_⟩
    · rw [f6 j (by omega), g3, if_neg (by omega)]
    · rw [List.getElem?_append] at hj
      split at hj
      · rename_i hlt
        rw [hvl] at hlt
        rw [f6 _ (by omega), g3, if_pos (by omega), show k * sz + j - k * sz = j by omega]
        exact hj
      · rename_i hlt
        have := f7 _ v hj
        rw [hvl] at this hlt
        rw [hmul2, show k * sz + sz + (j - sz) = k * sz + j by omega] at this
        exact this

theorem buildSliceA_sound (hT : TabOk P T) {N : Nat} {s : St} {a : Act} (hr : Rel b₀ N s β a w) {t i₀ d n : Nat} (hsl : okSl T t = true) (hd : d < N) {ps : List (Nat × Operand)} {K : St → Prop} {k : Box K}
    (h : buildSliceA (elemTI T t).size i₀ d n s (ps.map fun p => (p.1, s.ev p.2)) k) :
    ∃ s' β' w' cv, K s' ∧ (Instr.buildSlice t n (ps.map fun p => (p.1, a.eval p.2)).toArray).run P w = .ok cv w' ∧ Rel b₀ N s' β' (a.put (some d) cv) w' ∧ Tr b₀ β s w β' s' w' := by
  obtain ⟨e, he1, he2, hty, hte⟩ := okSl_inv hT hsl
  rw [he2] at h
  obtain ⟨inf, hi, hsz, hby, z, hz, hzc⟩ := hte.info
  have hzs := hte.zsize hi hz
  obtain ⟨hn, hbig0, h⟩ := h
  rw [List.length_map] at hn
  have hbig : ¬ n * (T e).size > 2 ^ 24 := by omega
  have hf : ∀ arr : Array Value, arr.size = n * (T e).size → ∃ cs arr', K ((s.new i₀ cs).put (some d) (.one (.osl i₀ (s.gen i₀ + 1) (T e).size 0 n))) ∧ Instr.fill (fun i => some (i * (T e).size, (T e).size)) arr (ps.map fun p => (p.1, a.eval p.2)) = some arr' ∧ CellsAre b₀ β s w cs arr'.toList ∧ arr'.size = n * (T e).size := fun arr harr => by
    obtain ⟨cs, vs, arr', f1, f2, f3, f4, f5, f6, f7⟩ := catA_sound hr ps (k := 0) (arr := arr) (by rw [harr, Nat.zero_add, hn]) h
    have hv : vs = arr'.toList := by
      apply List.ext_getElem?
      intro j
      have e2 : arr'.toList[j]? = arr'[j]? := Array.getElem?_toList
      rw [e2]
      by_cases hj : j < vs.length
      · have := f7 j _ (List.getElem?_eq_getElem hj)
        rw [List.getElem?_eq_getElem hj, ← this]; simp
      · rw [List.getElem?_eq_none (by omega), Array.getElem?_eq_none (by rw [f3, harr, ← hn, ← f5]; omega)]
    exact ⟨cs, arr', f1, f2, hv ▸ f4, by rw [f3, harr]⟩
  have key : ∃ cs arr', K ((s.new i₀ cs).put (some d) (.one (.osl i₀ (s.gen i₀ + 1) (T e).size 0 n))) ∧ (Instr.buildSlice t n (ps.map fun p => (p.1, a.eval p.2)).toArray).run P w = .ok (.slice (some ⟨w.heap.size, 0, none⟩) n n) (w.alloc (.cells arr' e)) ∧ CellsAre b₀ β s w cs arr'.toList ∧ arr'.size = n * (T e).size := by
    unfold Instr.buildSlice
    simp only [Sem.run_bind, run_underlying hty, run_sizeOf' hte, Result.andThen_ok, hbig, if_false]
    by_cases h0 : n * (T e).size = 0
    · obtain ⟨cs, arr', f1, f2, f3, f4⟩ := hf ((Array.range (n * (T e).size)).map (fun x => (#[] : Array Value)[x % (#[] : Array Value).size]!)) (by simp)
      refine ⟨cs, arr', f1, ?_, f3, f4⟩
      simp only [h0, if_true, Sem.run_bind, Sem.run_pure, Result.andThen_ok]
      rw [h0] at f2
      simp only [f2]
      simp [newRow]
    · obtain ⟨cs, arr', f1, f2, f3, f4⟩ := hf ((Array.range (n * (T e).size)).map (fun x => z.cells[x % z.cells.size]!)) (by simp)
      refine ⟨cs, arr', f1, ?_, f3, f4⟩
      simp only [h0, if_false, Sem.run_bind, zeroValue, typeInfo, Sem.run_pure, run_program, Result.andThen_ok, hi, hz]
      simp only [f2]
      simp [newRow]
  obtain ⟨cs, arr', f1, f2, f3, f4⟩ := key
  have hcl : cs.length = arr'.size := by have := f3.1; simpa using this.symm
  refine ⟨_, upd β i₀ (some ⟨w.heap.size, 0, none⟩), _, _, f1, f2, ?_⟩
  exact newSlice hr i₀ d hd (arr := arr') (el := e) rfl (by exact ⟨rfl, rfl⟩) f3 (fun j v hv => by simpa using hv) (by omega) _ _ _ (Nat.le_refl _) (by omega)

/-- A new object of a value's cells. -/
theorem newPtr {N : Nat} {s : St} {a : Act} (hr : Rel b₀ N s β a w) (i d : Nat) (hd : d < N) {el : TypeId} {cs : List C} {arr : Array Value} (hc : CellsAre b₀ β s w cs arr.toList) :
    Rel b₀ N ((s.new i cs).put (some d) (.one (.ptr i (s.gen i + 1) 0))) (upd β i (some ⟨w.heap.size, 0, none⟩)) (a.put (some d) (.pointer (some ⟨w.heap.size, 0, none⟩))) (w.alloc (.cells arr el)) ∧
      Tr b₀ β s w (upd β i (some ⟨w.heap.size, 0, none⟩)) ((s.new i cs).put (some d) (.one (.ptr i (s.gen i + 1) 0))) (w.alloc (.cells arr el)) := by
  have hcl : cs.length = arr.size := by have := hc.1; simpa using this.symm
  obtain ⟨h1, h2⟩ := Rel.new (w' := w.alloc (.cells arr el)) hr i rfl ⟨rfl, rfl⟩ (cs := cs) (by omega) (fun j c hj => by simpa using hc.2 j c hj)
  refine ⟨h1.put (fun d' hd' => by cases hd'; exact hd) ?_, h2.trans (Tr.same (St.put_gen _ _ _) (St.put_obj _ _ _) rfl)⟩
  simp only [RepV, RepC]
  refine ⟨rfl, by simp [St.new, upd], fun _ _ => ⟨⟨w.heap.size, 0, none⟩, by simp [upd], rfl, by simp⟩⟩

end
end Go.Am

/- The operations that write: stores, appends, new memory. -/
import Derived.Test.YthengcpckdlpgaaAm4
set_option linter.unusedSimpArgs false
set_option linter.unusedVariables false
namespace Go.Am

theorem setCells_size (b : Nat) : ∀ (vs : List Value) (o : Nat) (w : World), (w.setCells b o vs).heap.size = w.heap.size
  | [], _, _ => rfl
  | v :: r, o, w => by rw [World.setCells, setCells_size b r]; simp

theorem setCells_os (b : Nat) : ∀ (vs : List Value) (o : Nat) (w : World), (w.setCells b o vs).os = w.os ∧ (w.setCells b o vs).output = w.output
  | [], _, _ => ⟨rfl, rfl⟩
  | v :: r, o, w => by rw [World.setCells]; exact setCells_os b r _ _

theorem heap_setCell (w : World) (b o : Nat) (v : Value) (c : Nat) : (w.setCell ⟨b, o, none⟩ v).heap[c]? =
    if c = b then (match w.heap[c]? with | some (.cells arr el fr) => some (.cells (arr.setIfInBounds o v) el fr) | x => x) else w.heap[c]? := by
  simp only [World.setCell]
  by_cases h : c = b
  · subst h
    simp only [if_true]
    rw [Array.getElem?_modify]
    simp only [if_true]
    cases hw : w.heap[c]? with
    | none => rfl
    | some o' => cases o' <;> simp
  · simp only [h, if_false]
    rw [Array.getElem?_modify]
    simp [Ne.symm h]

theorem heap_setCells_other (b : Nat) : ∀ (vs : List Value) (o : Nat) (w : World) (c : Nat), c ≠ b → (w.setCells b o vs).heap[c]? = w.heap[c]?
  | [], _, _, _, _ => rfl
  | v :: r, o, w, c, h => by rw [World.setCells, heap_setCells_other b r _ _ c h, heap_setCell]; simp [h]

theorem heap_setCells_same (b : Nat) : ∀ (vs : List Value) (o : Nat) (w : World) (arr : Array Value) (el : TypeId) (fr : Nat × Nat), w.heap[b]? = some (.cells arr el fr) →
    ∃ arr', (w.setCells b o vs).heap[b]? = some (.cells arr' el fr) ∧ arr'.size = arr.size ∧ ∀ j, arr'[j]? = if o ≤ j ∧ j < o + vs.length ∧ j < arr.size then vs[j - o]? else arr[j]?
  | [], o, w, arr, el, fr, h => ⟨arr, h, rfl, fun j => by rw [if_neg (by simp; omega)]⟩
  | v :: r, o, w, arr, el, fr, h => by
    have h1 : (w.setCell ⟨b, o, none⟩ v).heap[b]? = some (.cells (arr.setIfInBounds o v) el fr) := by rw [heap_setCell]; simp [h]
    obtain ⟨arr', e1, e2, e3⟩ := heap_setCells_same b r (o + 1) _ _ el fr h1
    refine ⟨arr', e1, by simpa using e2, fun j => ?_⟩
    rw [e3 j]
    simp only [Array.size_setIfInBounds, List.length_cons]
    by_cases hj : j = o
    · subst hj
      rw [if_neg (by omega)]
      by_cases hs : j < arr.size
      · rw [if_pos (by omega), Array.getElem?_setIfInBounds_self_of_lt hs]; simp
      · rw [if_neg (by omega)]; simp [hs]
    · by_cases hc : o + 1 ≤ j ∧ j < o + 1 + r.length ∧ j < arr.size
      · rw [if_pos hc, if_pos (by omega)]
        have : j - o = (j - (o + 1)) + 1 := by omega
        rw [this, List.getElem?_cons_succ]
      · rw [if_neg hc, if_neg (by omega), Array.getElem?_setIfInBounds_ne (Ne.symm hj)]

theorem setAt_length : ∀ (cs : List C) (off : Nat) (cells : List C), (setAt cells off cs).length = cells.length
  | [], _, _ => rfl
  | c :: cs, off, cells => by rw [setAt, setAt_length cs]; simp

theorem setAt_get : ∀ (cs : List C) (off : Nat) (cells : List C) (j : Nat), (setAt cells off cs)[j]? = if off ≤ j ∧ j < off + cs.length ∧ j < cells.length then cs[j - off]? else cells[j]?
  | [], off, cells, j => by rw [setAt, if_neg (by simp; omega)]
  | c :: cs, off, cells, j => by
    rw [setAt, setAt_get cs]
    simp only [List.length_set, List.length_cons]
    by_cases hj : j = off
    · subst hj
      rw [if_neg (by omega)]
      by_cases hs : j < cells.length
      · rw [if_pos (by omega)]; simp [hs]
      · rw [if_neg (by omega)]; simp [hs]
    · by_cases hc : off + 1 ≤ j ∧ j < off + 1 + cs.length ∧ j < cells.length
      · rw [if_pos hc, if_pos (by omega)]
        have : j - off = (j - (off + 1)) + 1 := by omega
        rw [this, List.getElem?_cons_succ]
      · rw [if_neg hc, if_neg (by omega), List.getElem?_set_ne (Ne.symm hj)]

section
variable {P : Program} {T : Nat → TI} {b₀ : Bs} {β : Loc} {w : World}

/-- What is stored: cells of one value each. -/
theorem RepV.cells {g : Nat → Nat} {ob : Obs} {x : AV} {v : Value} {cs : List C} (hx : cellsOf x = some cs) (hv : RepV b₀ β g ob w x v) :
    ∃ vs : List Value, v.cells = vs.toArray ∧ vs.length = cs.length ∧ (∀ (j : Nat) (c : C), cs[j]? = some c → ∃ u, vs[j]? = some u ∧ RepC b₀ β g ob w c u) ∧ ∀ u ∈ vs, u.oneCell' = true := by
  cases x with
  | one c =>
    simp only [cellsOf, Option.some.injEq] at hx
    subst hx
    simp only [RepV] at hv
    have h1 := hv.one
    refine ⟨[v], by cases v <;> first | rfl | (simp [Value.oneCell'] at h1), rfl, fun j c' hc => ?_, fun u hu => by simpa using (List.mem_singleton.1 hu ▸ h1)⟩
    cases j with
    | zero => simp at hc; subst hc; exact ⟨v, rfl, hv⟩
    | succ j => simp at hc
  | agg cs' =>
    simp only [cellsOf, Option.some.injEq] at hx
    subst hx
    simp only [RepV] at hv
    obtain ⟨vs, rfl, h1, h2⟩ := hv
    refine ⟨vs.toList, by simp [Value.cells], by simpa using h1, fun j c hc => by simpa using h2 j c hc, fun u hu => ?_⟩
    obtain ⟨i, hi⟩ := List.getElem?_of_mem hu
    have hlt : i < cs'.length := by
      have := (List.getElem?_eq_some_iff.1 hi).1
      simp at this; omega
    obtain ⟨u', hu', hr⟩ := h2 i _ (List.getElem?_eq_getElem hlt)
    have : u' = u := by simpa [hu'] using hi
    subst this
    exact hr.one
  | tup => simp [cellsOf] at hx
  | junk => simp [cellsOf] at hx

theorem frozen_of {arr : Array Value} {el : TypeId} {lo hi b j : Nat} (h : w.heap[b]? = some (.cells arr el (lo, hi))) (hf : hi ≤ lo ∨ arr.size ≤ lo) (hj : j < arr.size) :
    w.frozen? ⟨b, j, none⟩ = false := by
  simp only [World.frozen?, h, Bool.and_eq_false_iff, decide_eq_false_iff_not]
  omega

/-- Where cells go into an object's block. -/
theorem run_storeVar_at {t : Nat} {ti : TI} (ht : TyOk P t ti) {b o : Nat} {v : Value} {vs : List Value} (hv : v.cells = vs.toArray) (hl : vs.length = ti.size) (h1 : ∀ u ∈ vs, u.oneCell' = true)
    {arr : Array Value} {el : TypeId} {lo hi : Nat} (hb : w.heap[b]? = some (.cells arr el (lo, hi))) (hf : hi ≤ lo ∨ arr.size ≤ lo) (hfit : o + vs.length ≤ arr.size) :
    (Instr.storeAt t (.pointer (some ⟨b, o, none⟩)) v).run P w = .ok () (w.setCells b o vs) := by
  have := run_storeCells_cells (P := P) b o vs 0 w (fun j hj => by
      rw [cell?_of_arr hb, Array.getElem?_eq_getElem (by omega)]; rfl) (fun j hj => frozen_of hb hf (by omega)) h1
  simp only [Nat.add_zero] at this
  simp [Instr.storeAt, Instr.sureAddr, storeVar, run_sizeOf' ht, hv, hl, this]

/-- A store into an object. -/
theorem storeA_sound (hT : TabOk P T) {N : Nat} {s : St} {a : Act} (hr : Rel b₀ N s β a w) {t : Nat} {x y : AV} {v u : Value} {K : St → Prop} {k : Box K} (h : storeA (T t) s x y k)
    (hv : RepV b₀ β s.gen s.obj w x v) (hu : RepV b₀ β s.gen s.obj w y u) :
    ∃ s' w', K s' ∧ (Instr.storeAt t v u).run P w = .ok () w' ∧ Rel b₀ N s' β a w' ∧ Tr b₀ β s w β s' w' := by
  unfold storeA at h
  split at h
  · rename_i id g off
    obtain ⟨hok, hg, h⟩ := h
    obtain ⟨cs, hcs, hsz, h⟩ := onSome_inv h
    obtain ⟨cells, ho, hfit, hK⟩ := onSome_inv h
    have ht := hT t hok
    simp only [RepV, RepC] at hv
    obtain ⟨ad, hβ, hsp, rfl⟩ := hv.2.2 hg (by simp [ho])
    have hob := hr.obj id cells ho
    rw [hβ] at hob
    obtain ⟨hB, arr, el, lo, hi, hblk, hfr, hlen, hcells⟩ := hob.cells hsp
    obtain ⟨vs, e1, e2, e3, e4⟩ := RepV.cells hcs hu
    have hw := run_storeVar_at (w := w) ht (b := ad.block) (o := ad.off + off) e1 (by rw [e2, hsz]) e4 hblk hfr (by omega)
    obtain ⟨arr', f1, f2, f3⟩ := heap_setCells_same ad.block vs (ad.off + off) w arr el (lo, hi) hblk
    have hsome : ∀ i, (upd s.obj id (some (setAt cells off cs)) i).isSome = (s.obj i).isSome := fun i => by
      simp only [upd]
      split
      · rename_i he; rw [he, ho]; rfl
      · rfl
    have hkeep : Keep b₀ β s.gen s.obj w β s.gen (upd s.obj id (some (setAt cells off cs))) (w.setCells ad.block (ad.off + off) vs) := by
      refine ⟨fun b hb => ?_, fun _ => Nat.le_refl _, fun i _ hi' => ?_⟩
      · have hne : b ≠ ad.block := fun he => hb.2.2 id ad (by simp [ho]) hβ he.symm
        refine ⟨⟨by rw [setCells_size]; exact hb.1, hb.2.1, fun i a' hi' => hb.2.2 i a' (by rw [← hsome i]; exact hi')⟩, heap_setCells_other _ _ _ _ _ hne⟩
      · rw [hsome i] at hi'
        refine ⟨hi', rfl, fun a' ha' arr1 el1 fr1 h1 => ?_⟩
        by_cases hb : a'.block = ad.block
        · rw [hb] at h1 ⊢
          rw [f1] at h1
          cases h1
          exact ⟨arr, el, (lo, hi), hblk, by omega⟩
        · rw [heap_setCells_other _ _ _ _ _ hb] at h1
          exact ⟨arr1, el1, fr1, h1, Nat.le_refl _⟩
    refine ⟨_, _, hK, hw, ⟨hr.defers, hr.size, fun i => RepV.keep hkeep _ (hr.f i), fun i cells' hc' => ?_, fun i i' a1 a2 h1 h2 => hr.inj i i' a1 a2 (by rw [← hsome i]; exact h1) (by rw [← hsome i']; exact h2), by rw [setCells_size]; exact hr.base⟩,
      by rw [setCells_size]; exact Nat.le_refl _, fun b hb => heap_setCells_other _ _ _ _ _ (by omega), hkeep, setCells_os _ _ _ _⟩
    by_cases hid : i = id
    · subst hid
      simp only [upd, if_true, Option.some.injEq] at hc'
      subst hc'
      rw [hβ]
      refine .ofCells hsp ⟨hB, arr', el, lo, hi, f1, by rw [f2]; exact hfr, by rw [setAt_length, f2]; exact hlen, fun j c hc => ?_⟩
      rw [setAt_get] at hc
      rw [f3]
      split at hc
      · rename_i hin
        obtain ⟨u', hu', hr'⟩ := e3 _ c hc
        refine ⟨u', ?_, hr'.keep hkeep⟩
        rw [if_pos (by omega), show ad.off + j - (ad.off + off) = j - off by omega]
        exact hu'
      · rename_i hin
        obtain ⟨u', hu', hr'⟩ := hcells j c hc
        have hjl : j < cells.length := (List.getElem?_eq_some_iff.1 hc).1
        refine ⟨u', ?_, hr'.keep hkeep⟩
        rw [if_neg (by omega)]
        exact hu'
    · have hc'' : s.obj i = some cells' := by simpa [upd, hid] using hc'
      refine (hr.obj i cells' hc'').keep hkeep (fun a' ha' => heap_setCells_other _ _ _ _ _ (fun hb => hid (hr.inj i id a' ad (by simp [hc'']) (by simp [ho]) ha' hβ hb)))
  · exact h.elim

/-- New memory becomes an object. -/
theorem Rel.newAny {N : Nat} {s : St} {a : Act} (hr : Rel b₀ N s β a w) (d : Nat) {w' : World} {o : Obj} {ad : Addr} (had : ad.block = w.heap.size) (hw : w'.heap = w.heap.push o) (hos : w'.os = w.os ∧ w'.output = w.output) {cs : List C}
    (hobj : Keep b₀ β s.gen s.obj w (upd β d (some ad)) (s.new d cs).gen (s.new d cs).obj w' → ObjAt b₀ (upd β d (some ad)) (s.new d cs).gen (s.new d cs).obj w' cs (some ad)) :
    Rel b₀ N (s.new d cs) (upd β d (some ad)) a w' ∧ Tr b₀ β s w (upd β d (some ad)) (s.new d cs) w' := by
  have hold : ∀ b, b < w.heap.size → w'.heap[b]? = w.heap[b]? := fun b hb => by rw [hw, Array.getElem?_push, if_neg (by omega)]
  have hkeep : Keep b₀ β s.gen s.obj w (upd β d (some ad)) (s.new d cs).gen (s.new d cs).obj w' := by
    refine ⟨fun b hb => ⟨⟨by rw [hw]; simp; have := hb.1; omega, hb.2.1, fun i a' hi hβ' => ?_⟩, hold b hb.1⟩, fun i => ?_, fun i hg hi => ?_⟩
    · simp only [St.new, upd] at hi hβ'
      split at hβ'
      · cases hβ'; have := hb.1; omega
      · rename_i hne
        simp only [hne, if_false] at hi
        exact hb.2.2 i a' hi hβ'
    · simp only [St.new, upd]; split <;> simp_all
    · simp only [St.new, upd] at hg hi ⊢
      by_cases hne : i = d
      · subst hne; simp at hg
      · simp only [hne, if_false] at hi ⊢
        refine ⟨hi, trivial, fun a' ha' arr1 el1 fr1 h1 => ?_⟩
        have hlt : a'.block < w.heap.size := by
          obtain ⟨cells, hc⟩ := Option.isSome_iff_exists.1 hi
          have := hr.obj i cells hc
          rw [ha'] at this
          exact this.block.2
        rw [hold _ hlt] at h1
        exact ⟨arr1, el1, fr1, h1, Nat.le_refl _⟩
  refine ⟨⟨hr.defers, hr.size, fun i => RepV.keep hkeep _ (hr.f i), fun i cells' hc' => ?_, fun i i' a1 a2 h1 h2 hb1 hb2 hb => ?_, ?_⟩, ?_, ?_, hkeep, hos⟩
  · simp only [St.new, upd] at hc' ⊢
    by_cases hid : i = d
    · subst hid
      simp only [if_true, Option.some.injEq] at hc' ⊢
      subst hc'
      exact hobj hkeep
    · simp only [hid, if_false] at hc' ⊢
      refine (hr.obj i cells' hc').keep hkeep (fun a' ha' => hold _ ?_)
      have := hr.obj i cells' hc'
      rw [ha'] at this
      exact this.block.2
  · have hlt : ∀ (i : Nat) (a' : Addr), (s.obj i).isSome = true → β i = some a' → a'.block < w.heap.size := fun i a' hi ha' => by
      obtain ⟨cells, hc⟩ := Option.isSome_iff_exists.1 hi
      have := hr.obj i cells hc
      rw [ha'] at this
      exact this.block.2
    simp only [St.new, upd] at h1 h2 hb1 hb2
    by_cases hi : i = d <;> by_cases hi' : i' = d
    · rw [hi, hi']
    · simp only [hi, hi', if_true, if_false] at h1 h2 hb1 hb2
      cases hb1
      have := hlt i' a2 h2 hb2
      omega
    · simp only [hi, hi', if_true, if_false] at h1 h2 hb1 hb2
      cases hb2
      have := hlt i a1 h1 hb1
      omega
    · simp only [hi, hi', if_false] at h1 h2 hb1 hb2
      exact hr.inj i i' a1 a2 h1 h2 hb1 hb2 hb
  · rw [hw]; simp; have := hr.base; omega
  · rw [hw]; simp
  · intro b hb; exact hold b (by have := hr.base; omega)

theorem Rel.new {N : Nat} {s : St} {a : Act} (hr : Rel b₀ N s β a w) (d : Nat) {w' : World} {arr : Array Value} {el : TypeId} (hw : w'.heap = w.heap.push (.cells arr el (0, 0))) (hos : w'.os = w.os ∧ w'.output = w.output) {cs : List C} (hlen : cs.length ≤ arr.size)
    (hcells : ∀ (j : Nat) c, cs[j]? = some c → ∃ v, arr[j]? = some v ∧ RepC b₀ β s.gen s.obj w c v) :
    Rel b₀ N (s.new d cs) (upd β d (some ⟨w.heap.size, 0, none⟩)) a w' ∧ Tr b₀ β s w (upd β d (some ⟨w.heap.size, 0, none⟩)) (s.new d cs) w' :=
  hr.newAny d rfl hw hos fun hkeep => .ofCells rfl ⟨hr.base, arr, el, 0, 0, by rw [hw]; simp, .inl (Nat.le_refl _), by simpa using hlen, fun j c hc =>
    let ⟨v, hv, hrc⟩ := hcells j c hc
    ⟨v, by simpa using hv, hrc.keep hkeep⟩⟩

/-- A new map. -/
theorem makeMapA_sound {N : Nat} {s : St} {a : Act} (hr : Rel b₀ N s β a w) {t i d : Nat} (hd : d < N) {K : St → Prop} {k : Box K} (h : makeMapA T t i d s k) :
    ∃ s' β' w' cv, K s' ∧ (Instr.makeMap t none).run P w = .ok cv w' ∧ Rel b₀ N s' β' (a.put (some d) cv) w' ∧ Tr b₀ β s w β' s' w' := by
  unfold makeMapA at h
  split at h
  · rename_i kt et hdsc
    obtain ⟨hkd, hK⟩ := h
    obtain ⟨r1, r2⟩ := hr.newAny i (w' := w.alloc (.map #[] 0)) (o := .map #[] 0) (ad := ⟨w.heap.size, 0, some (keyCode (T kt).desc)⟩) (cs := []) rfl rfl ⟨rfl, rfl⟩
      (fun hkeep => .ofMap rfl ⟨hr.base, #[], 0, (MapKept.heap_alloc w _).1, .nil⟩)
    refine ⟨_, _, _, .map (some w.heap.size), hK, by simp [Instr.makeMap], r1.put (fun d' hd' => by cases hd'; exact hd) ?_, r2.trans (Tr.same (St.put_gen _ _ _) (St.put_obj _ _ _) rfl)⟩
    simp only [RepV, RepC]
    exact ⟨rfl, by simp [St.new, upd], fun _ _ => ⟨_, by simp [upd]; rfl, rfl, rfl⟩⟩
  · exact h.elim

/-- A map's entry is written. -/
theorem mapUpdateA_sound (hT : TabOk P T) {N : Nat} {s : St} {a : Act} (hr : Rel b₀ N s β a w) {t : Nat} {m ix x : AV} {v vi u : Value} {K : St → Prop} {k : Box K} (h : mapUpdateA T t s m ix x k)
    (hv : RepV b₀ β s.gen s.obj w m v) (hi : RepV b₀ β s.gen s.obj w ix vi) (hu : RepV b₀ β s.gen s.obj w x u) :
    ∃ s' w', K s' ∧ (Instr.mapUpdate t v vi u).run P w = .ok () w' ∧ Rel b₀ N s' β a w' ∧ Tr b₀ β s w β s' w' := by
  unfold mapUpdateA at h
  split at h
  · rename_i kt et k0 id g kd c hd
    obtain ⟨⟨hok, hkey⟩, hg, hkd, h⟩ := h
    obtain ⟨cells, ho, hK⟩ := onSome_inv h
    have hty := (hT t (by rw [hd]; rfl)).desc
    rw [hd] at hty
    have hk := (hT kt hok).desc
    simp only [RepV, RepC] at hi hv
    simp only [RepV] at hu
    obtain rfl := hi.key hkey
    have hck : ∀ e, (Instr.checkKey e 10000 kt (dV k0)).run P w = .ok () w := fun e => MapKept.run_checkKey hk (isKey_of hkey) e 9999
    obtain ⟨ad, hβ, hsp, rfl⟩ := hv.2.2 hg (by simp [ho])
    have hob := hr.obj id cells ho
    rw [hβ] at hob
    obtain ⟨hB, es, clock, hblk, hm⟩ := hob.map hsp
    rw [hkd] at hm
    have hlt := (Array.getElem?_eq_some_iff.1 hblk).1
    obtain ⟨es', clock', hrun, hm'⟩ : ∃ es' clock', (Instr.mapUpdate t (.map (some ad.block)) (dV k0) u).run P w = .ok () { w with heap := w.heap.setIfInBounds ad.block (.map es' clock') } ∧
        ∀ R : C → Value → Prop, (∀ c v, RepC b₀ β s.gen s.obj w c v → R c v) → MapRep R (T kt).desc (mset cells k0 c) es'.toList := by
      rcases hm.find hkey 0 with ⟨g1, g2, g3⟩ | ⟨j, e, c', g1, g2, g3, _, _, g6⟩
      · refine ⟨es.push { key := dV k0, val := u, born := clock }, clock + 1, ?_, fun R hR => ?_⟩
        · simp [Instr.mapUpdate, run_underlying hty, MapKept.run_getObj_map hblk, hck, MapKept.run_findKey hk g1, MapKept.run_setObj_map _ hblk]
        · have := (g3 c u hu clock).mono hR
          simpa using this
      · refine ⟨es.modify j fun e => { e with key := dV k0, val := u }, clock, ?_, fun R hR => ?_⟩
        · have hj : es[j]? = some e := by simpa using g2
          simp [Instr.mapUpdate, run_underlying hty, MapKept.run_getObj_map hblk, hck, MapKept.run_findKey hk g1, hj, g3, MapKept.run_keyThatStays (isKey_of hkey), MapKept.run_setObj_map _ hblk]
        · have := (g6 c u hu).mono hR
          simpa using this
    have hother : ∀ b, b ≠ ad.block → (w.heap.setIfInBounds ad.block (.map es' clock'))[b]? = w.heap[b]? := fun b hb => by simp [Ne.symm hb]
    have hsome : ∀ i, (upd s.obj id (some (mset cells k0 c)) i).isSome = (s.obj i).isSome := fun i => by
      simp only [upd]
      split
      · rename_i he; rw [he, ho]; rfl
      · rfl
    have hkeep : Keep b₀ β s.gen s.obj w β s.gen (upd s.obj id (some (mset cells k0 c))) { w with heap := w.heap.setIfInBounds ad.block (.map es' clock') } := by
      refine ⟨fun b hb => ?_, fun _ => Nat.le_refl _, fun i _ hi' => ?_⟩
      · have hne : b ≠ ad.block := fun he => hb.2.2 id ad (by simp [ho]) hβ he.symm
        exact ⟨⟨by simpa using hb.1, hb.2.1, fun i a' hi' => hb.2.2 i a' (by rw [← hsome i]; exact hi')⟩, hother b hne⟩
      · rw [hsome i] at hi'
        refine ⟨hi', rfl, fun a' ha' arr1 el1 fr1 h1 => ?_⟩
        by_cases hb : a'.block = ad.block
        · rw [hb] at h1
          simp [hlt] at h1
        · simp only [hother _ hb] at h1
          exact ⟨arr1, el1, fr1, h1, Nat.le_refl _⟩
    refine ⟨_, _, hK, hrun, ⟨hr.defers, hr.size, fun i => RepV.keep hkeep _ (hr.f i), fun i cells' hc' => ?_, fun i i' a1 a2 h1 h2 => hr.inj i i' a1 a2 (by rw [← hsome i]; exact h1) (by rw [← hsome i']; exact h2), by simpa using hr.base⟩,
      by simp, fun b hb => hother b (by omega), hkeep, rfl, rfl⟩
    by_cases hid : i = id
    · subst hid
      simp only [upd, if_true, Option.some.injEq] at hc'
      subst hc'
      rw [hβ]
      refine .ofMap hsp ⟨hB, es', clock', by simp [hlt], ?_⟩
      rw [hkd]
      exact hm' _ (fun _ _ => RepC.keep hkeep)
    · have hc'' : s.obj i = some cells' := by simpa [upd, hid] using hc'
      exact (hr.obj i cells' hc'').keep hkeep (fun a' ha' => hother _ (fun hb => hid (hr.inj i id a' ad (by simp [hc'']) (by simp [ho]) ha' hβ hb)))
  · exact h.elim

end
end Go.Am

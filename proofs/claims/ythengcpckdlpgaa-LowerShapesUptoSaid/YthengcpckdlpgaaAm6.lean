/- append; make; literals of slices. -/
import Derived.Test.YthengcpckdlpgaaAm5
import Derived.Laws.BytesString
set_option linter.unusedSimpArgs false
set_option linter.unusedVariables false
namespace Go.Am

theorem growBy_le (n : Nat) : ∀ k c, Builtin.growBy n k c ≤ max c (n + (n + 768) / 4)
  | 0, c => by simp [Builtin.growBy]; omega
  | k + 1, c => by
    simp only [Builtin.growBy]
    split
    · omega
    · have := growBy_le n k (c + (c + 768) / 4)
      omega

theorem nextslicecap_le (n c : Nat) (h : c < n) : Builtin.nextslicecap n c ≤ 2 * n + 1024 := by
  unfold Builtin.nextslicecap
  split
  · omega
  · split
    · omega
    · have := growBy_le n 4 c
      omega

theorem flatten_get {α : Type} {sz : Nat} : ∀ (es : List (List α)) (_ : ∀ e ∈ es, e.length = sz) (m : Nat) (c : α), es.flatten[m]? = some c → ∃ i e j, es[i]? = some e ∧ e[j]? = some c ∧ m = i * sz + j
  | [], _, m, c, h => by simp at h
  | e :: es, hs, m, c, h => by
    rw [List.flatten_cons, List.getElem?_append] at h
    have he := hs e (by simp)
    split at h
    · exact ⟨0, e, m, rfl, h, by simp⟩
    · rename_i hm
      obtain ⟨i, e', j, h1, h2, h3⟩ := flatten_get es (fun e' h' => hs e' (by simp [h'])) _ c h
      exact ⟨i + 1, e', j, by simpa using h1, h2, by rw [Nat.add_mul]; omega⟩

theorem flatten_len {α : Type} {sz : Nat} : ∀ (es : List (List α)) (_ : ∀ e ∈ es, e.length = sz), es.flatten.length = es.length * sz
  | [], _ => by simp
  | e :: es, hs => by
    rw [List.flatten_cons, List.length_append, flatten_len es (fun e' h' => hs e' (by simp [h'])), hs e (by simp), List.length_cons, Nat.add_mul]; omega

section
variable {P : Program} {T : Nat → TI} {b₀ : Bs} {β : Loc} {w : World}

/-- Cells, and their values. -/
def CellsAre (b₀ : Bs) (β : Loc) (s : St) (w : World) (cs : List C) (vs : List Value) : Prop :=
  vs.length = cs.length ∧ ∀ (j : Nat) (c : C), cs[j]? = some c → ∃ u, vs[j]? = some u ∧ RepC b₀ β s.gen s.obj w c u

theorem CellsAre.one {s : St} {cs : List C} {vs : List Value} (h : CellsAre b₀ β s w cs vs) : ∀ u ∈ vs, u.oneCell' = true := fun u hu => by
  obtain ⟨i, hi⟩ := List.getElem?_of_mem hu
  have hlt : i < cs.length := by rw [← h.1]; exact (List.getElem?_eq_some_iff.1 hi).1
  obtain ⟨u', hu', hr⟩ := h.2 i _ (List.getElem?_eq_getElem hlt)
  have : u' = u := by simpa [hu'] using hi
  exact this ▸ hr.one

theorem CellsAre.append {s : St} {cs cs' : List C} {vs vs' : List Value} (h : CellsAre b₀ β s w cs vs) (h' : CellsAre b₀ β s w cs' vs') : CellsAre b₀ β s w (cs ++ cs') (vs ++ vs') := by
  refine ⟨by simp [h.1, h'.1], fun j c hc => ?_⟩
  rw [List.getElem?_append] at hc ⊢
  rw [h.1]
  split at hc
  · rename_i hj; rw [if_pos hj]; exact h.2 j c hc
  · rename_i hj; rw [if_neg hj]; exact h'.2 _ c hc

theorem OslAt.spot {sz off len : Nat} {v : Value} {x : Option Addr} (h : OslAt w sz off len v x) : ∀ ad, x = some ad → ad.spot = none := fun ad hx => by subst hx; exact h.1

/-- The cells behind a live handle. -/
theorem osl_cells {N : Nat} {s : St} {a : Act} (hr : Rel b₀ N s β a w) {id off n : Nat} {cells : List C} (hspot : ∀ ad, β id = some ad → ad.spot = none) (ho : s.obj id = some cells) (hfit : off + n ≤ cells.length) :
    (∃ ad, β id = some ad ∧ ∃ vs, CellsAre b₀ β s w ((cells.drop off).take n) vs ∧ vs.length = n ∧ ∀ (j : Nat) (u : Value), vs[j]? = some u → w.cell? ⟨ad.block, ad.off + off + j, none⟩ = some u) ∨ (β id = none ∧ cells = []) := by
  have hob := hr.obj id cells ho
  cases hβ : β id with
  | none => rw [hβ] at hob; exact .inr ⟨rfl, hob⟩
  | some ad =>
    rw [hβ] at hob
    obtain ⟨_, arr, el, lo, hi, hblk, _, hlen, hcells⟩ := hob.cells (hspot ad hβ)
    obtain ⟨vs, e1, e2, e3⟩ := values_of (RepC b₀ β s.gen s.obj w) (fun j => arr[ad.off + (off + j)]?) ((cells.drop off).take n) (fun j c hc => by
        rw [List.getElem?_take] at hc
        split at hc
        · rw [List.getElem?_drop] at hc; exact hcells (off + j) c hc
        · cases hc)
    refine .inl ⟨ad, rfl, vs, ⟨e1, e3⟩, by rw [e1]; simp; omega, fun j u hu => ?_⟩
    rw [cell?_of_arr hblk, Nat.add_assoc]; exact e2 j u hu

/-- What an append's second argument yields. -/
theorem contents_sound (hT : TabOk P T) {N : Nat} {s : St} {a : Act} (hr : Rel b₀ N s β a w) {tx sz : Nat} {y : AV} {u : Value} {K : Nat → List C → Prop} {k : Box K}
    (h : contents s (isStr (T tx).desc) (okSl T tx) sz y k) (hu : RepV b₀ β s.gen s.obj w y u) :
    ∃ n cs news, K n cs ∧ Src P sz tx u n news w ∧ CellsAre b₀ β s w cs news := by
  unfold contents at h
  split at h
  · obtain ⟨hsl, h⟩ := h
    obtain ⟨e, _, _, hty, _⟩ := okSl_inv hT hsl
    simp only [RepV, RepC] at hu
    obtain rfl := hu.inv_nsl
    exact ⟨0, [], [], h, Src.ofNil w hty 0, rfl, fun _ _ hc => by simp at hc⟩
  · rename_i es
    obtain ⟨hsl, hsz, h⟩ := h
    obtain ⟨e, _, _, hty, _⟩ := okSl_inv hT hsl
    simp only [RepV, RepC] at hu
    cases hu with
    | sl0 =>
      rename_i a cap
      refine ⟨0, [], [], by simpa using h, ?_, rfl, fun _ _ hc => by simp at hc⟩
      cases a with
      | none => exact Src.ofNil w hty cap
      | some a => exact Src.ofSlice w hty a 0 cap [] (by simp) (fun _ _ h => by simp at h) (fun _ h => by cases h)
    | sl vals hcap hJ hs hcl hrd =>
      rename_i b off cap sz'
      obtain ⟨vs, e1, e2, e3⟩ := values_of (fun (c : D) v => RepC b₀ β s.gen s.obj w (.d c) v) (fun j => w.cell? ⟨b, off + j, none⟩) es.flatten (fun m c hc => by
        obtain ⟨i, e', j, h1, h2, rfl⟩ := flatten_get es hs m c hc
        refine ⟨vals i j, ?_, hrd i e' h1 j c h2⟩
        rw [← Nat.add_assoc]; exact hcl i e' h1 j c h2)
      have hl : vs.length = es.length * sz := by rw [e1, flatten_len es hsz]
      have hca : CellsAre b₀ β s w (es.flatten.map .d) vs := by
        refine ⟨by rw [List.length_map, e1], fun j c hc => ?_⟩
        rw [List.getElem?_map] at hc
        cases hq : es.flatten[j]? with
        | none => rw [hq] at hc; cases hc
        | some x =>
          rw [hq] at hc
          simp only [Option.map_some, Option.some.injEq] at hc
          subst hc
          exact e3 j x hq
      exact ⟨_, _, vs, h, Src.ofSlice w hty ⟨b, off, none⟩ es.length cap vs hl (fun j v hv => by rw [addr_add]; exact e2 j v hv) hca.one, hca⟩
  · rename_i bs
    obtain ⟨hst, rfl, h⟩ := h
    have hty := (hT tx (by rw [isStr_of hst]; rfl)).desc
    rw [isStr_of hst] at hty
    simp only [RepV, RepC] at hu
    obtain rfl := hu.inv_str
    have := Src.ofString (P := P) w hty ⟨bs.toArray⟩
    rw [size_mk] at this
    refine ⟨_, _, _, h, this, by simp [byteCells], fun j c hc => ?_⟩
    rw [List.getElem?_map] at hc
    cases hq : bs[j]? with
    | none => rw [hq] at hc; cases hc
    | some x =>
      rw [hq] at hc
      simp only [Option.map_some, Option.some.injEq] at hc
      subst hc
      refine ⟨.int .u8 x.toNat, by simp [byteCells, hq], ?_⟩
      simp only [RepC, byteD]; exact .int _ _
  · rename_i id g' sz' off len
    obtain ⟨hsl, hg, rfl, h⟩ := h
    obtain ⟨e, _, _, hty, _⟩ := okSl_inv hT hsl
    obtain ⟨cells, ho, hfit, hK⟩ := onSome_inv h
    simp only [RepV] at hu
    have hat := osl_live hu hg (by simp [ho])
    rcases osl_cells hr (hat.spot) ho hfit with ⟨ad, hβ, vs, hca, hl, hcell⟩ | ⟨hβ, rfl⟩
    · rw [hβ] at hat
      rcases hat.2 with ⟨cap, rfl, _, _⟩ | ⟨rfl, o, rfl⟩
      · exact ⟨_, _, vs, hK, Src.ofSlice w hty _ len cap vs hl (fun j v hv => by rw [addr_add]; exact hcell j v hv) hca.one, hca⟩
      · refine ⟨_, _, vs, hK, ?_, hca⟩
        have : vs = [] := List.eq_nil_of_length_eq_zero (by simpa using hl)
        subst this
        exact Src.ofSlice w hty _ 0 0 [] (by simp) (fun j v hv => by simp at hv) (fun _ h => by cases h)
    · rw [hβ] at hat
      obtain ⟨rfl, rfl⟩ := hat
      exact ⟨_, _, [], hK, Src.ofNil w hty 0, by simp, fun j c hc => by simp at hc⟩
  · exact h.elim

/-- The cells behind a slice of one-cell elements. -/
theorem slice_cells (hT : TabOk P T) {N : Nat} {s : St} {a : Act} (hr : Rel b₀ N s β a w) {y : AV} {u : Value} {K : Nat → List C → Prop} {k : Box K} (h : contents s false true 1 y k) (hu : RepV b₀ β s.gen s.obj w y u) :
    ∃ n cs news, K n cs ∧ CellsAre b₀ β s w cs news ∧ news.length = n ∧ ((∃ l c, u = .slice none l c ∧ n = 0) ∨ ∃ ad cap, u = .slice (some ad) n cap ∧ ∀ (j : Nat) v, news[j]? = some v → w.cell? (ad.add j) = some v) := by
  unfold contents at h
  split at h
  · obtain ⟨_, h⟩ := h
    simp only [RepV, RepC] at hu
    obtain rfl := hu.inv_nsl
    exact ⟨0, [], [], h, ⟨rfl, fun _ _ hc => by simp at hc⟩, rfl, .inl ⟨_, _, rfl, rfl⟩⟩
  · rename_i es
    obtain ⟨_, hsz, h⟩ := h
    simp only [RepV, RepC] at hu
    cases hu with
    | sl0 =>
      rename_i a cap
      refine ⟨0, [], [], by simpa using h, ⟨rfl, fun _ _ hc => by simp at hc⟩, rfl, ?_⟩
      cases a with
      | none => exact .inl ⟨_, _, rfl, rfl⟩
      | some a => exact .inr ⟨_, _, rfl, fun _ _ h => by simp at h⟩
    | sl vals hcap hJ hs hcl hrd =>
      rename_i b off cap sz'
      obtain ⟨vs, e1, e2, e3⟩ := values_of (fun (c : D) v => RepC b₀ β s.gen s.obj w (.d c) v) (fun j => w.cell? ⟨b, off + j, none⟩) es.flatten (fun m c hc => by
        obtain ⟨i, e', j, h1, h2, rfl⟩ := flatten_get es hs m c hc
        refine ⟨vals i j, ?_, hrd i e' h1 j c h2⟩
        rw [← Nat.add_assoc]; exact hcl i e' h1 j c h2)
      have hl : vs.length = es.length := by rw [e1, flatten_len es hsz, Nat.mul_one]
      have hca : CellsAre b₀ β s w (es.flatten.map .d) vs := by
        refine ⟨by rw [List.length_map, e1], fun j c hc => ?_⟩
        rw [List.getElem?_map] at hc
        cases hq : es.flatten[j]? with
        | none => rw [hq] at hc; cases hc
        | some x =>
          rw [hq] at hc
          simp only [Option.map_some, Option.some.injEq] at hc
          subst hc
          exact e3 j x hq
      exact ⟨_, _, vs, h, hca, hl, .inr ⟨⟨b, off, none⟩, cap, rfl, fun j v hv => by rw [addr_add]; exact e2 j v hv⟩⟩
  · exact absurd h.1 (by simp)
  · rename_i id g' sz' off len
    obtain ⟨_, hg, rfl, h⟩ := h
    obtain ⟨cells, ho, hfit, hK⟩ := onSome_inv h
    simp only [RepV] at hu
    have hat := osl_live hu hg (by simp [ho])
    rcases osl_cells hr (hat.spot) ho hfit with ⟨ad, hβ, vs, hca, hl, hcell⟩ | ⟨hβ, rfl⟩
    · rw [hβ] at hat
      rw [Nat.mul_one] at hl
      rcases hat.2 with ⟨cap, rfl, _, _⟩ | ⟨rfl, o, rfl⟩
      · exact ⟨_, _, vs, hK, hca, hl, .inr ⟨_, cap, rfl, fun j v hv => by rw [addr_add]; exact hcell j v hv⟩⟩
      · have : vs = [] := List.eq_nil_of_length_eq_zero (by simpa using hl)
        subst this
        exact ⟨_, _, [], hK, hca, rfl, .inr ⟨_, _, rfl, fun j v hv => by simp at hv⟩⟩
    · rw [hβ] at hat
      obtain ⟨rfl, rfl⟩ := hat
      exact ⟨_, _, [], hK, ⟨by simp, fun j c hc => by simp at hc⟩, rfl, .inl ⟨_, _, rfl, rfl⟩⟩
  · exact h.elim

theorem u8s_vals {s : St} : ∀ {cs : List C} {ns : List Int} {vs : List Value}, u8s cs = some ns → CellsAre b₀ β s w cs vs → vs = ns.map (.int .u8)
  | [], ns, vs, h, hc => by
    simp only [u8s] at h; cases h
    exact List.eq_nil_of_length_eq_zero hc.1
  | c :: cs, ns, vs, h, hc => by
    match vs, hc with
    | [], hc => exact absurd hc.1 (by simp)
    | v :: vs, hc =>
      cases c with
      | d x =>
        cases x with
        | int k n =>
          cases k with
          | u8 =>
            simp only [u8s] at h
            obtain ⟨ns', h1, rfl⟩ := Option.map_eq_some_iff.1 h
            have h0 := hc.2 0 _ rfl
            obtain ⟨u, hu, hru⟩ : ∃ u, (v :: vs)[0]? = some u ∧ _ := h0
            cases hu
            simp only [RepC] at hru
            obtain rfl := hru.inv_int
            have ht : CellsAre b₀ β s w cs vs := ⟨by simpa using hc.1, fun j c' hc' => by simpa using hc.2 (j + 1) c' (by simpa using hc')⟩
            rw [List.map_cons, u8s_vals h1 ht]
          | _ => simp [u8s] at h
        | _ => simp [u8s] at h
      | _ => simp [u8s] at h

theorem convA_sound (hT : TabOk P T) {N : Nat} {s : St} {a : Act} (hr : Rel b₀ N s β a w) {src dst : Nat} {x : AV} {v : Value} {K : AV → Prop} {k : Box K} (h : convA s (elemTI T src).desc (T src).desc (T dst).desc x k) (hv : RepV b₀ β s.gen s.obj w x v) :
    ∃ z cv, K z ∧ (∀ w', Ext w w' → (convert src dst v).run P w' = .ok cv w') ∧ RepV b₀ β s.gen s.obj w z cv := by
  unfold convA at h
  split at h
  · rename_i hd
    simp only [RepV, RepC] at hv
    obtain rfl := hv.inv_int
    have h1 := (hT src h.1).desc
    have h2 := (hT dst (by rw [hd]; rfl)).desc
    rw [hd] at h2
    refine intRes h.2 fun w => ?_
    simp [convert, run_underlying h1, run_underlying h2, Conv.intToInt]
  · rename_i hs hd
    simp only [RepV, RepC] at hv
    obtain rfl := hv.inv_str
    have h1 := (hT src (by rw [hs]; rfl)).desc
    rw [hs] at h1
    have h2 := (hT dst (by rw [hd]; rfl)).desc
    rw [hd] at h2
    refine strRes h fun w => ?_
    simp [convert, run_underlying h1, run_underlying h2]
  · rename_i y e hs hd
    obtain ⟨hu8, h⟩ := h
    have h1 := (hT src (by rw [hs]; rfl)).desc
    rw [hs] at h1
    have h2 := (hT dst (by rw [hd]; rfl)).desc
    rw [hd] at h2
    have hel : elemTI T src = T e := by simp [elemTI, hs]
    rw [hel] at hu8
    have hed : (T e).desc = .int .u8 := by cases hq : (T e).desc <;> rw [hq] at hu8 <;> simp [isU8] at hu8; rename_i kk; cases kk <;> simp [isU8] at hu8; rfl
    have he := (hT e (by rw [hed]; rfl)).desc
    rw [hed] at he
    obtain ⟨n, cs, news, hK, hca, hl, hcase⟩ := slice_cells hT hr h hv
    obtain ⟨ns, hns, hK⟩ := onSome_inv hK
    obtain rfl := u8s_vals hns hca
    refine ⟨_, .string ⟨(ns.map fun n => UInt8.ofNat n.toNat).toArray⟩, hK, fun w' hw' => ?_, by simp only [RepV, RepC]; exact .str _⟩
    rcases hcase with ⟨l, c, rfl, hn⟩ | ⟨ad, cap, rfl, hcell⟩
    · have : ns = [] := List.eq_nil_of_length_eq_zero (by rw [← hn, ← hl]; simp)
      subst this
      simp [convert, run_underlying h1, run_underlying h2, run_underlying he, Conv.bytesToString]
      rfl
    · rw [run_convert_bytes_string w' src dst e (some ad) n cap h1 he h2]
      have hlc := run_loadCells_list (P := P) w' ad (ns.map (Value.int .u8)) (fun j v hj => hw'.cell (hcell j v hj))
      rw [List.length_map] at hl
      simp only [List.length_map, hl] at hlc
      rw [run_bytesToString w' ad n cap _ hlc]
      have hf : ∀ (l : List Int) (r : ByteArray), l.foldl (fun r n => r.push (UInt8.ofNat n.toNat)) r = ⟨r.data ++ (l.map fun n => UInt8.ofNat n.toNat).toArray⟩ := by
        intro l
        induction l with
        | nil => intro r; simp
        | cons n l ih => intro r; rw [List.foldl_cons, ih]; simp [ByteArray.push]
      rw [hf]
      have he0 : ByteArray.empty.data = #[] := rfl
      rw [he0]
      simp
  · exact h.elim

/-- A new row becomes the object 'i', and its slice goes into slot 'd'. -/
theorem newSlice {N : Nat} {s : St} {a : Act} (hr : Rel b₀ N s β a w) (i d : Nat) (hd : d < N) {w' : World} {arr : Array Value} {el : TypeId} (hw : w'.heap = w.heap.push (.cells arr el (0, 0))) (hos : w'.os = w.os ∧ w'.output = w.output) {cs : List C} {vs : List Value}
    (hc : CellsAre b₀ β s w cs vs) (harr : ∀ (j : Nat) v, vs[j]? = some v → arr[j]? = some v) (hlen : cs.length ≤ arr.size) (sz len cap : Nat) (hcap : len ≤ cap) (hfit : cap * sz ≤ arr.size) :
    Rel b₀ N ((s.new i cs).put (some d) (.one (.osl i (s.gen i + 1) sz 0 len))) (upd β i (some ⟨w.heap.size, 0, none⟩)) (a.put (some d) (.slice (some ⟨w.heap.size, 0, none⟩) len cap)) w' ∧
      Tr b₀ β s w (upd β i (some ⟨w.heap.size, 0, none⟩)) ((s.new i cs).put (some d) (.one (.osl i (s.gen i + 1) sz 0 len))) w' := by
  obtain ⟨h1, h2⟩ := Rel.new hr i hw hos hlen (fun j c hj => let ⟨u, hu, hr'⟩ := hc.2 j c hj; ⟨u, harr j u hu, hr'⟩)
  refine ⟨h1.put (fun d' hd' => by cases hd'; exact hd) ?_, h2.trans (Tr.same (St.put_gen _ _ _) (St.put_obj _ _ _) rfl)⟩
  simp only [RepV, RepC]
  refine ⟨rfl, by simp [St.new, upd], fun _ _ => ?_⟩
  simp only [upd, if_true]
  refine ⟨rfl, .inl ⟨cap, by simp, hcap, fun arr' el' fr' h => ?_⟩⟩
  rw [hw] at h
  simp at h
  obtain ⟨rfl, _⟩ := h
  simpa using hfit

theorem grownCap_ge (w : World) (need old : Nat) (e : TypeId) : need ≤ grownCap w need old e := by simp [grownCap, Question.cut]

theorem TyOk.zsize {t : Nat} {ti : TI} (h : TyOk P t ti) {i : TypeInfo} {z : Value} (hi : P.info? t = some i) (hz : i.zero = some z) : z.cells.size = ti.size := by
  obtain ⟨i', hi', _, _, z', hz', hc⟩ := h.info
  rw [hi] at hi'; cases hi'
  rw [hz] at hz'; cases hz'
  rw [← Array.length_toList, hc, List.length_map, h.zlen]

/-- An append that grows. -/
theorem append_grow {N : Nat} {s : St} {a : Act} (hr : Rel b₀ N s β a w) {t tx e : Nat} (hu : P.underlying t = some (.slice e)) {ti : TI} (hte : TyOk P e ti) (i d : Nat) (hd : d < N) {base : Option Addr} {sLen sCap n : Nat} {x : Value} {cs cs' : List C} {olds news : List Value}
    (hold : (Builtin.firstCells ti.size sLen (.slice base sLen sCap)).run P w.drew = .ok olds.toArray w.drew) (hlo : olds.length = sLen * ti.size) (hs : Src P ti.size tx x n news w)
    (hc : CellsAre b₀ β s w cs olds) (hc' : CellsAre b₀ β s w cs' news) (hg : sCap < sLen + n) (hroom : roomOk (sLen + n) ti.bytes) (ty : TypeId) :
    ∃ β' w' cv, (Builtin.append_ #[t, tx] ty #[.slice base sLen sCap, x]).run P w = .ok cv w' ∧
      Rel b₀ N ((s.new i (cs ++ cs')).put (some d) (.one (.osl i (s.gen i + 1) ti.size 0 (sLen + n)))) β' (a.put (some d) cv) w' ∧
      Tr b₀ β s w β' ((s.new i (cs ++ cs')).put (some d) (.one (.osl i (s.gen i + 1) ti.size 0 (sLen + n)))) w' := by
  obtain ⟨inf, hi, hsz, hby, z, hz, hzc⟩ := hte.info
  have hzs := hte.zsize hi hz
  have hnext := nextslicecap_le (sLen + n) sCap hg
  obtain ⟨hb1, hroom⟩ := hroom
  have h63 : ((sLen + n : Nat) : Int) ≤ 9223372036854775807 := by
    have : (2 * (sLen + n) + 1024) * 1 ≤ (2 * (sLen + n) + 1024) * ti.bytes := Nat.mul_le_mul_left _ hb1
    omega
  have hfit : Builtin.nextslicecap (sLen + n) sCap * inf.bytes ≤ 281474976710656 := by
    rw [hby]
    exact Nat.le_trans (Nat.mul_le_mul_right _ hnext) hroom
  rw [← hsz] at hold hs
  have hrun := run_append_grow_src (P := P) w t tx ty e inf z hu hi hz base sLen sCap olds hold x n news hs hg h63 hfit
  have hge := grownCap_ge w (sLen + n) sCap e
  have hnl : news.length = n * ti.size := by rw [← hsz]; exact hs.newsLen
  have hlen : (olds ++ news).length = (sLen + n) * ti.size := by rw [List.length_append, hlo, hnl, Nat.add_mul]
  refine ⟨upd β i (some ⟨w.heap.size, 0, none⟩), _, _, hrun, ?_⟩
  refine newSlice hr i d hd rfl (by exact ⟨rfl, rfl⟩) (hc.append hc') (fun j v hv => ?_) ?_ _ _ _ hge ?_
  · rw [Array.getElem?_append_left]
    · simpa using hv
    · simpa using (List.getElem?_eq_some_iff.1 hv).1
  · have := (hc.append hc').1
    simp at this ⊢
    omega
  · have hzl : (Builtin.zeroCells z.cells (grownCap w (sLen + n) sCap e - (sLen + n))).size = (grownCap w (sLen + n) sCap e - (sLen + n)) * ti.size := by
      simp [Builtin.zeroCells, hzs]
    rw [Array.size_append, hzl]
    have h1 : (olds ++ news).toArray.size = (sLen + n) * ti.size := by simpa using hlen
    rw [h1, ← Nat.add_mul]
    exact Nat.le_of_eq (by congr 1; omega)

/-- Nothing is appended to a handle without cells, or there is no block: the object is empty. -/
theorem append_nothing {N : Nat} {s : St} {a : Act} (hr : Rel b₀ N s β a w) (i d : Nat) (hd : d < N) (sz : Nat) {x : Option Addr} {v : Value} (hx : OslAt w sz 0 0 v x) (h1 : v.oneCell' = true)
    (hob : ObjAt b₀ β s.gen s.obj w [] x) (hinj : ∀ i' a' a'', i' ≠ i → (s.obj i').isSome = true → β i' = some a' → x = some a'' → a'.block ≠ a''.block) (himm : ∀ b a'', x = some a'' → Imm b₀ β s.obj w b → a''.block ≠ b) :
    Rel b₀ N ((s.new i []).put (some d) (.one (.osl i (s.gen i + 1) sz 0 0))) (upd β i x) (a.put (some d) v) w ∧ Tr b₀ β s w (upd β i x) ((s.new i []).put (some d) (.one (.osl i (s.gen i + 1) sz 0 0))) w := by
  have hkeep : Keep b₀ β s.gen s.obj w (upd β i x) (s.new i []).gen (s.new i []).obj w := by
    refine ⟨fun b hb => ⟨⟨hb.1, hb.2.1, fun i' a' hi' hβ' => ?_⟩, rfl⟩, fun i' => ?_, fun i' hg hi' => ?_⟩
    · simp only [St.new, upd] at hi' hβ'
      split at hβ'
      · exact himm b a' hβ' hb
      · rename_i hne
        simp only [hne, if_false] at hi'
        exact hb.2.2 i' a' hi' hβ'
    · simp only [St.new, upd]; split <;> simp_all
    · simp only [St.new, upd] at hg hi' ⊢
      by_cases hne : i' = i
      · subst hne; simp at hg
      · simp only [hne, if_false] at hi' ⊢
        exact ⟨hi', trivial, fun a' ha' arr1 el1 fr1 h1 => ⟨arr1, el1, fr1, h1, Nat.le_refl _⟩⟩
  have hrel : Rel b₀ N (s.new i []) (upd β i x) a w := by
    refine ⟨hr.defers, hr.size, fun i => RepV.keep hkeep _ (hr.f i), fun i' cells' hc' => ?_, fun i1 i2 a1 a2 h1 h2 hb1 hb2 hb => ?_, hr.base⟩
    · simp only [St.new, upd] at hc' ⊢
      by_cases hid : i' = i
      · subst hid
        simp only [if_true, Option.some.injEq] at hc' ⊢
        subst hc'
        exact hob.keep hkeep (fun _ _ => rfl)
      · simp only [hid, if_false] at hc' ⊢
        exact (hr.obj i' cells' hc').keep hkeep (fun _ _ => rfl)
    · simp only [St.new, upd] at h1 h2 hb1 hb2
      by_cases hi1 : i1 = i <;> by_cases hi2 : i2 = i
      · rw [hi1, hi2]
      · simp only [hi1, hi2, if_true, if_false] at h1 h2 hb1 hb2
        exact absurd hb.symm (hinj i2 a2 a1 hi2 h2 hb2 hb1)
      · simp only [hi1, hi2, if_true, if_false] at h1 h2 hb1 hb2
        exact absurd hb (hinj i1 a1 a2 hi1 h1 hb1 hb2)
      · simp only [hi1, hi2, if_false] at h1 h2 hb1 hb2
        exact hr.inj i1 i2 a1 a2 h1 h2 hb1 hb2 hb
  refine ⟨hrel.put (fun d' hd' => by cases hd'; exact hd) ?_, ⟨Nat.le_refl _, fun _ _ => rfl, ?_, rfl, rfl⟩⟩
  · simp only [RepV, RepC]
    refine ⟨h1, by simp [St.new, upd], fun _ _ => ?_⟩
    simp only [upd, if_true]
    exact hx
  · rw [St.put_obj, St.put_gen]; exact hkeep

/-- An append into room. -/
theorem append_room {N : Nat} {s : St} {a : Act} (hr : Rel b₀ N s β a w) {t tx e : Nat} (hu : P.underlying t = some (.slice e)) {ti : TI} (hte : TyOk P e ti) (i d : Nat) (hd : d < N) {ad : Addr} {off sLen sCap n : Nat} {x : Value} {cells cs' : List C} {news : List Value}
    (hβ : β i = some ad) (hsp : ad.spot = none) (ho : s.obj i = some cells) (hfit : off + sLen * ti.size ≤ cells.length) (hcap : ∀ arr el fr, w.heap[ad.block]? = some (.cells arr el fr) → ad.off + off + sCap * ti.size ≤ arr.size)
    (hs : Src P ti.size tx x n news w) (hc' : CellsAre b₀ β s w cs' news) (hg : sLen + n ≤ sCap) (ty : TypeId) :
    ∃ β' w' cv, (Builtin.append_ #[t, tx] ty #[.slice (some ⟨ad.block, ad.off + off, none⟩) sLen sCap, x]).run P w = .ok cv w' ∧
      Rel b₀ N ((s.new i ((cells.drop off).take (sLen * ti.size) ++ cs')).put (some d) (.one (.osl i (s.gen i + 1) ti.size 0 (sLen + n)))) β' (a.put (some d) cv) w' ∧
      Tr b₀ β s w β' ((s.new i ((cells.drop off).take (sLen * ti.size) ++ cs')).put (some d) (.one (.osl i (s.gen i + 1) ti.size 0 (sLen + n)))) w' := by
  obtain ⟨inf, hi, hsz, hby, z, hz, hzc⟩ := hte.info
  have hob := hr.obj i cells ho
  rw [hβ] at hob
  obtain ⟨hB, arr, el, lo, hi', hblk, hfr, hlen, hcells⟩ := hob.cells hsp
  have hcap' := hcap _ _ _ hblk
  have hnl : news.length = n * ti.size := hs.newsLen
  have hmul : sLen * ti.size + n * ti.size ≤ sCap * ti.size := by rw [← Nat.add_mul]; exact Nat.mul_le_mul_right _ hg
  rw [← hsz] at hs
  have hrun := run_append_room_src (P := P) w t tx ty e inf hu hi ad.block (ad.off + off) sLen sCap x n news hs hg (fun j hj => by
      rw [hsz, cell?_of_arr hblk, Array.getElem?_eq_getElem (by omega)]; rfl) (fun j hj => by rw [hsz]; exact frozen_of hblk hfr (by omega))
  rw [hsz] at hrun
  obtain ⟨arr', f1, f2, f3⟩ := heap_setCells_same ad.block news (ad.off + off + sLen * ti.size) w arr el (lo, hi') hblk
  have hother : ∀ b, b ≠ ad.block → (w.setCells ad.block (ad.off + off + sLen * ti.size) news).heap[b]? = w.heap[b]? := fun b hb => heap_setCells_other _ _ _ _ _ hb
  generalize hw' : w.setCells ad.block (ad.off + off + sLen * ti.size) news = w' at *
  have hwsize : w'.heap.size = w.heap.size := by rw [← hw']; exact setCells_size _ _ _ _
  have hwos : w'.os = w.os ∧ w'.output = w.output := by rw [← hw']; exact setCells_os _ _ _ _
  generalize hcs : (cells.drop off).take (sLen * ti.size) = front at *
  have hfl : front.length = sLen * ti.size := by rw [← hcs]; simp; omega
  have hkeep : Keep b₀ β s.gen s.obj w (upd β i (some ⟨ad.block, ad.off + off, none⟩)) (s.new i (front ++ cs')).gen (s.new i (front ++ cs')).obj w' := by
    refine ⟨fun b hb => ?_, fun i' => ?_, fun i' hg hi' => ?_⟩
    · have hne : b ≠ ad.block := fun he => hb.2.2 i ad (by simp [ho]) hβ he.symm
      refine ⟨⟨by rw [hwsize]; exact hb.1, hb.2.1, fun i' a' hi' hβ' => ?_⟩, hother b hne⟩
      simp only [St.new, upd] at hi' hβ'
      split at hβ'
      · cases hβ'; exact Ne.symm hne
      · rename_i hne'
        simp only [hne', if_false] at hi'
        exact hb.2.2 i' a' hi' hβ'
    · simp only [St.new, upd]; split <;> simp_all
    · simp only [St.new, upd] at hg hi' ⊢
      by_cases hne : i' = i
      · subst hne; simp at hg
      · simp only [hne, if_false] at hi' ⊢
        refine ⟨hi', trivial, fun a' ha' arr1 el1 fr1 h1 => ?_⟩
        rw [hother _ (fun hb => hne (hr.inj i' i a' ad hi' (by simp [ho]) ha' hβ hb))] at h1
        exact ⟨arr1, el1, fr1, h1, Nat.le_refl _⟩
  have hrel : Rel b₀ N (s.new i (front ++ cs')) (upd β i (some ⟨ad.block, ad.off + off, none⟩)) a w' := by
    refine ⟨hr.defers, hr.size, fun i => RepV.keep hkeep _ (hr.f i), fun i' cells' hc' => ?_, fun i1 i2 a1 a2 h1 h2 hb1 hb2 hb => ?_, by rw [hwsize]; exact hr.base⟩
    · simp only [St.new, upd] at hc' ⊢
      by_cases hid : i' = i
      · subst hid
        simp only [if_true, Option.some.injEq] at hc' ⊢
        subst hc'
        have hnl' : cs'.length = news.length := hc'.1.symm
        refine .ofCells rfl ⟨hB, arr', el, lo, hi', f1, by rw [f2]; exact hfr, by rw [List.length_append, hfl, f2, hnl']; simp only; omega, fun j c hc => ?_⟩
        rw [f3]
        simp only at *
        rw [List.getElem?_append] at hc
        split at hc
        · rename_i hj
          rw [hfl] at hj
          rw [← hcs, List.getElem?_take, if_pos hj, List.getElem?_drop] at hc
          obtain ⟨u', hu', hr'⟩ := hcells _ c hc
          refine ⟨u', ?_, hr'.keep hkeep⟩
          rw [if_neg (by omega), Nat.add_assoc]; exact hu'
        · rename_i hj
          rw [hfl] at hj hc
          obtain ⟨u', hu', hr'⟩ := hc'.2 _ c hc
          have hlt : j - sLen * ti.size < news.length := by rw [← hnl']; exact (List.getElem?_eq_some_iff.1 hc).1
          refine ⟨u', ?_, hr'.keep hkeep⟩
          rw [if_pos (by omega), show ad.off + off + j - (ad.off + off + sLen * ti.size) = j - sLen * ti.size by omega]
          exact hu'
      · simp only [hid, if_false] at hc' ⊢
        exact (hr.obj i' cells' hc').keep hkeep (fun a' ha' => hother _ (fun hb => hid (hr.inj i' i a' ad (by simp [hc']) (by simp [ho]) ha' hβ hb)))
    · simp only [St.new, upd] at h1 h2 hb1 hb2
      by_cases hi1 : i1 = i <;> by_cases hi2 : i2 = i
      · rw [hi1, hi2]
      · simp only [hi1, hi2, if_true, if_false] at h1 h2 hb1 hb2
        cases hb1
        exact absurd (hr.inj i2 i a2 ad h2 (by simp [ho]) hb2 hβ hb.symm) hi2
      · simp only [hi1, hi2, if_true, if_false] at h1 h2 hb1 hb2
        cases hb2
        exact absurd (hr.inj i1 i a1 ad h1 (by simp [ho]) hb1 hβ hb) hi1
      · simp only [hi1, hi2, if_false] at h1 h2 hb1 hb2
        exact hr.inj i1 i2 a1 a2 h1 h2 hb1 hb2 hb
  refine ⟨_, _, _, hrun, hrel.put (fun d' hd' => by cases hd'; exact hd) ?_, ⟨by rw [hwsize]; exact Nat.le_refl _, fun b hb => hother b (by omega), ?_, hwos⟩⟩
  · simp only [RepV, RepC]
    refine ⟨rfl, by simp [St.new, upd], fun _ _ => ?_⟩
    simp only [upd, if_true]
    refine ⟨rfl, .inl ⟨sCap, by simp, hg, fun arr1 el1 fr1 h1 => ?_⟩⟩
    rw [f1] at h1
    cases h1
    rw [f2]; simpa using hcap'
  · rw [St.put_obj, St.put_gen]; exact hkeep

end
end Go.Am

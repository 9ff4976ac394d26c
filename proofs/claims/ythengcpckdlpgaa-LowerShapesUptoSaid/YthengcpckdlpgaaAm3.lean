/- What each quiet operation does on the machine, as the abstract rules say. -/
import Derived.Test.YthengcpckdlpgaaAm2
import Derived.Laws.Strings
set_option linter.unusedSimpArgs false
set_option linter.unusedVariables false
namespace Go.Am

def plainD : D → Bool
  | .sl _ | .fn _ | .iptr _ => false
  | _ => true

theorem RepD.of_plain {J : Nat → Prop} {w : World} {x : D} (h : plainD x = true) : RepD J w x (dV x) := by
  cases x <;> first | (simp [plainD] at h; done) | constructor

structure TyOk (P : Program) (t : Nat) (ti : TI) : Prop where
  desc : P.underlying t = some ti.desc
  info : ∃ i, P.info? t = some i ∧ i.size = ti.size ∧ i.bytes = ti.bytes ∧ ∃ z, i.zero = some z ∧ z.cells.toList = ti.zero.map dV
  plain : ti.zero.all plainD = true
  zlen : ti.zero.length = ti.size
  zone : isAggD ti.desc = false → ∀ i zv, P.info? t = some i → i.zero = some zv → zv = dV (ti.zero.headD .nsl)

def TabOk (P : Program) (T : Nat → TI) : Prop := ∀ t, okD (T t).desc = true → TyOk P t (T t)

def tabOf (l : List (Nat × TI)) (t : Nat) : TI := ((l.find? fun p => p.1 == t).map (·.2)).getD ⟨.invalid, 0, 0, []⟩

theorem tabOk_of_list {P : Program} {l : List (Nat × TI)} (h : ∀ p ∈ l, TyOk P p.1 p.2) : TabOk P (tabOf l) := by
  intro t ht
  unfold tabOf at *
  cases hf : l.find? fun p => p.1 == t with
  | none => simp [hf, okD] at ht
  | some p =>
    have h1 := List.find?_some hf
    have h2 := List.mem_of_find?_eq_some hf
    simp only [beq_iff_eq] at h1
    simpa [h1] using h p h2

theorem okD_of_slice {d : TypeDesc} (h : isSlice d = true) : okD d = true := by cases d <;> simp_all [isSlice, okD]
theorem slice_of {d : TypeDesc} (h : isSlice d = true) : ∃ e, d = .slice e := by cases d <;> simp_all [isSlice]

section
variable {P : Program} {T : Nat → TI} {b₀ : Bs} {β : Loc} {g : Nat → Nat} {ob : Obs} {w : World}

theorem run_sizeOf' {t : Nat} {ti : TI} (h : TyOk P t ti) : (sizeOf t).run P w = .ok ti.size w := by
  obtain ⟨i, hi, hs, _⟩ := h.info
  simp [sizeOf, typeInfo, hi, hs]

theorem isRow_of {d : TypeDesc} (h : isAggD d = true) : d.isRow = true := by cases d <;> simp_all [isAggD]

theorem run_isAgg {t : Nat} {ti : TI} (h : TyOk P t ti) : (isAgg t).run P w = .ok (isAggD ti.desc) w := by
  unfold isAgg
  rw [Sem.run_bind, run_underlying h.desc w]
  simp only [Result.andThen_ok]
  cases ti.desc <;> rfl

theorem rangeAt_of {b o : Nat} {vs : List Value} (h : ∀ j v, vs[j]? = some v → w.cell? ⟨b, o + j, none⟩ = some v) : w.rangeAt b o vs := h

/-- Cells that are read one by one: a list of their values. -/
theorem values_of {α : Type} (R : α → Value → Prop) (cell : Nat → Option Value) : ∀ (cs : List α) (_ : ∀ (j : Nat) (c : α), cs[j]? = some c → ∃ v, cell j = some v ∧ R c v),
    ∃ vs : List Value, vs.length = cs.length ∧ (∀ (j : Nat) (v : Value), vs[j]? = some v → cell j = some v) ∧ ∀ (j : Nat) (c : α), cs[j]? = some c → ∃ v, vs[j]? = some v ∧ R c v
  | [], _ => ⟨[], rfl, ⟨fun _ _ h => by simp at h, fun _ _ h => by simp at h⟩⟩
  | c :: cs, h => by
    obtain ⟨v, hv, hr⟩ := h 0 c rfl
    obtain ⟨vs, h1, h2, h3⟩ := values_of R (fun j => cell (j + 1)) cs (fun j c' hc => h (j + 1) c' (by simpa using hc))
    refine ⟨v :: vs, by simp [h1], fun j u hu => ?_, fun j c' hc => ?_⟩
    · cases j with
      | zero => simp at hu; subst hu; exact hv
      | succ j => exact h2 j u (by simpa using hu)
    · cases j with
      | zero => simp at hc; subst hc; exact ⟨v, rfl, hr⟩
      | succ j => simpa using h3 j c' (by simpa using hc)

theorem cell?_of_arr {b : Nat} {arr : Array Value} {el : TypeId} {fr : Nat × Nat} (h : w.heap[b]? = some (.cells arr el fr)) (j : Nat) : w.cell? ⟨b, j, none⟩ = arr[j]? := by
  simp [World.cell?, h]

theorem addr_add (b o j : Nat) : (⟨b, o, none⟩ : Addr).add j = ⟨b, o + j, none⟩ := Addr.add_mid b o j

theorem onSome_inv {α : Type} {x : Option α} {K : α → Prop} {k : Box K} (h : onSome x k) : ∃ a, x = some a ∧ K a := by
  cases x with
  | none => exact h.elim
  | some a => exact ⟨a, rfl, h⟩

theorem BSplit_inv {b : Bool} {K : Bool → Prop} {k : Box K} (h : BSplit b k) : K b := by
  cases b
  · exact h.2 rfl
  · exact h.1 rfl

theorem RepD.inv_bool {J : Nat → Prop} {b : Bool} {v : Value} (h : RepD J w (.bool b) v) : v = .bool b := by cases h; rfl
theorem RepD.inv_int {J : Nat → Prop} {k : IntKind} {n : Int} {v : Value} (h : RepD J w (.int k n) v) : v = .int k n := by cases h; rfl
theorem RepD.inv_str {J : Nat → Prop} {s : List UInt8} {v : Value} (h : RepD J w (.str s) v) : v = .string ⟨s.toArray⟩ := by cases h; rfl
theorem RepD.inv_nsl {J : Nat → Prop} {v : Value} (h : RepD J w .nsl v) : v = .slice none 0 0 := by cases h; rfl

theorem onBool_inv {x : AV} {v : Value} {K : Bool → Prop} {k : Box K} (h : onBool x k) (hv : RepV b₀ β g ob w x v) : ∃ b, v = .bool b ∧ K b := by
  unfold onBool at h
  split at h
  · rename_i b
    simp only [RepV, RepC] at hv
    exact ⟨b, hv.inv_bool, BSplit_inv h⟩
  · exact h.elim

/-- A load. -/
theorem loadA_sound (hT : TabOk P T) {N : Nat} {s : St} {a : Act} (hr : Rel b₀ N s β a w) {t : Nat} {x : AV} {v : Value} {K : AV → Prop} {k : Box K} (h : loadA (T t) s x k)
    (hv : RepV b₀ β s.gen s.obj w x v) : ∃ y cv, K y ∧ (∀ w', Ext w w' → (Instr.loadAt t v).run P w' = .ok cv w') ∧ RepV b₀ β s.gen s.obj w y cv := by
  unfold loadA at h
  split at h
  · rename_i id g off
    obtain ⟨hok, hg, h⟩ := h
    obtain ⟨cells, ho, h⟩ := onSome_inv h
    have ht := hT t hok
    simp only [RepV, RepC] at hv
    obtain ⟨_, _, hv⟩ := hv
    obtain ⟨ad, hβ, hsp, rfl⟩ := hv hg (by simp [ho])
    have hob := hr.obj id cells ho
    rw [hβ] at hob
    obtain ⟨_, arr, el, lo, hi, hblk, _, hlen, hcells⟩ := hob.cells hsp
    unfold readC at h
    split at h
    · rename_i hagg
      obtain ⟨hsz, hK⟩ := h
      obtain ⟨vs, e1, e2, e3⟩ := values_of (RepC b₀ β s.gen s.obj w) (fun j => arr[ad.off + (off + j)]?) ((cells.drop off).take (T t).size) (fun j c hc => by
        rw [List.getElem?_take] at hc
        split at hc
        · rw [List.getElem?_drop] at hc; exact hcells (off + j) c hc
        · cases hc)
      have hl : vs.length = (T t).size := by rw [e1]; simp; omega
      refine ⟨_, .agg vs.toArray, hK, fun w' hw' => ?_, ?_⟩
      · refine run_loadAt_mid w' ad.block (ad.off + off) t vs (T t).desc (fun j u hu => ?_) ht.desc (isRow_of hagg) ?_
        · rw [cell?_of_arr (hw'.cells hblk)]; have := e2 j u hu; rwa [← Nat.add_assoc] at this
        · obtain ⟨i, hi, hs, _⟩ := ht.info; simp [hi, hs, hl]
      · simp only [RepV]
        exact ⟨_, rfl, by simp [e1], fun i c hc => by simpa using e3 i c hc⟩
    · rename_i hagg
      obtain ⟨c, hc, hK⟩ := onSome_inv h
      obtain ⟨u, hu, hru⟩ := hcells off c hc
      refine ⟨_, u, hK, fun w' hw' => ?_, by simpa only [RepV] using hru⟩
      have : w'.cell? ⟨ad.block, ad.off + off, none⟩ = some u := by rw [cell?_of_arr (hw'.cells hblk)]; exact hu
      simp [Instr.loadAt, Instr.sureAddr, loadVar, run_isAgg ht, hagg, this]
  · rename_i cs
    obtain ⟨hok, h⟩ := h
    have ht := hT t hok
    simp only [RepV, RepC] at hv
    cases hv with
    | iptr vals hJ hcl hrd =>
    rename_i b off
    unfold readD at h
    split at h
    · rename_i hagg
      obtain ⟨hsz, hK⟩ := h
      obtain ⟨vs, e1, e2, e3⟩ := values_of (fun (c : D) v => RepC b₀ β s.gen s.obj w (.d c) v) (fun j => w.cell? ⟨b, off + j, none⟩) (cs.take (T t).size) (fun j c hc => by
        rw [List.getElem?_take] at hc
        split at hc
        · exact ⟨_, hcl j c hc, hrd j c hc⟩
        · cases hc)
      have hl : vs.length = (T t).size := by rw [e1]; simp; omega
      refine ⟨_, .agg vs.toArray, hK, fun w' hw' => ?_, ?_⟩
      · refine run_loadAt_mid w' b off t vs (T t).desc (fun j u hu => hw'.cell (e2 j u hu)) ht.desc (isRow_of hagg) ?_
        obtain ⟨i, hi, hs, _⟩ := ht.info; simp [hi, hs, hl]
      · simp only [RepV]
        refine ⟨_, rfl, by simp [e1], fun i c hc => ?_⟩
        rw [List.getElem?_map] at hc
        cases hq : (cs.take (T t).size)[i]? with
        | none => rw [hq] at hc; cases hc
        | some y =>
          rw [hq] at hc
          simp only [Option.map_some, Option.some.injEq] at hc
          subst hc
          simpa using e3 i y hq
    · rename_i hagg
      obtain ⟨c, hc, hK⟩ := onSome_inv h
      refine ⟨_, vals 0, hK, fun w' hw' => ?_, by simp only [RepV, RepC]; exact hrd 0 c hc⟩
      have : w'.cell? ⟨b, off, none⟩ = some (vals 0) := hw'.cell (hcl 0 c hc)
      simp [Instr.loadAt, Instr.sureAddr, loadVar, run_isAgg ht, hagg, this]
  · exact h.elim

theorem okSl_inv (hT : TabOk P T) {t : Nat} (h : okSl T t = true) : ∃ e, (T t).desc = .slice e ∧ elemTI T t = T e ∧ P.underlying t = some (.slice e) ∧ TyOk P e (T e) := by
  simp only [okSl, Bool.and_eq_true] at h
  obtain ⟨e, he⟩ := slice_of h.1
  have h2 : elemTI T t = T e := by simp [elemTI, he]
  exact ⟨e, he, h2, by rw [(hT t (okD_of_slice h.1)).desc, he], hT e (by rw [← h2]; exact h.2)⟩

/-- A live handle to a slice of the call's own. -/
theorem osl_live {s : St} {id g' sz off len : Nat} {v : Value} (h : RepC b₀ β s.gen s.obj w (.osl id g' sz off len) v) (hg : s.gen id = g') (ho : (s.obj id).isSome = true) : OslAt w sz off len v (β id) := h.2.2 hg ho

/-- .. is a slice of so many elements. -/
theorem OslAt.slice {sz off len : Nat} {v : Value} {x : Option Addr} (h : OslAt w sz off len v x) : ∃ a cap, v = .slice a len cap ∧ len ≤ cap := by
  cases x with
  | none => exact ⟨none, 0, by rw [h.2, h.1], by rw [h.1]; exact Nat.le_refl _⟩
  | some a =>
    rcases h.2 with ⟨cap, hv, hl, _⟩ | ⟨rfl, o, hv⟩
    · exact ⟨_, cap, hv, hl⟩
    · exact ⟨_, 0, hv, Nat.le_refl _⟩

/-- An element's address. -/
theorem indexAddrA_sound (hT : TabOk P T) {s : St} {t : Nat} (hsl : okSl T t = true) {x ix : AV} {v vi : Value} {K : AV → Prop} {k : Box K}
    (h : indexAddrA s (elemTI T t).size x ix k) (hv : RepV b₀ β s.gen s.obj w x v) (hi : RepV b₀ β s.gen s.obj w ix vi) :
    ∃ y cv, K y ∧ (∀ w', Ext w w' → (Instr.indexAt t v vi).run P w' = .ok cv w') ∧ RepV b₀ β s.gen s.obj w y cv := by
  obtain ⟨e, he1, he2, hu, hte⟩ := okSl_inv hT hsl
  rw [he2] at h
  unfold indexAddrA at h
  split at h
  · rename_i kd i
    simp only [RepV, RepC] at hi
    obtain rfl := hi.inv_int
    split at h
    · rename_i es
      obtain ⟨h0, h⟩ := h
      obtain ⟨c, hc, hsz, hK⟩ := onSome_inv h
      have hlt : i.toNat < es.length := (List.getElem?_eq_some_iff.1 hc).1
      simp only [RepV, RepC] at hv
      cases hv with
      | sl0 => simp at hc
      | sl vals hcap hJ hs hcl hrd =>
      rename_i b off cap sz
      have hsz' : sz = (T e).size := by rw [← hsz]; exact (hs c (List.mem_of_getElem? hc)).symm
      refine ⟨_, .pointer (some ⟨b, off + i.toNat * (T e).size, none⟩), hK, fun w' _ => ?_, ?_⟩
      · have : i < es.length := by omega
        simp [Instr.indexAt, asIntOf, run_underlying hu, h0, this, run_sizeOf' hte, addr_add]
      · simp only [RepV, RepC]
        refine .iptr (vals i.toNat) (fun _ => hJ (by rintro rfl; cases hc)) (fun j x hx => ?_) (fun j x hx => hrd _ _ hc j x hx)
        rw [← hsz']; exact hcl _ _ hc j x hx
    · rename_i id g sz' off len
      obtain ⟨hg, ho, h0, hlt, rfl, hK⟩ := h
      simp only [RepV] at hv
      have h3' := osl_live hv hg ho
      cases hβ : β id with
      | none =>
        rw [hβ] at h3'
        obtain ⟨rfl, _⟩ := h3'
        omega
      | some ad =>
        rw [hβ] at h3'
        obtain ⟨hsp, h3'⟩ := h3'
        rcases h3' with ⟨cap, rfl, hcap, _⟩ | ⟨rfl, _⟩
        · refine ⟨_, .pointer (some ⟨ad.block, ad.off + off + i.toNat * (T e).size, none⟩), hK, fun w' _ => ?_, ?_⟩
          · simp [Instr.indexAt, asIntOf, run_underlying hu, h0, hlt, run_sizeOf' hte, addr_add]
          · simp only [RepV, RepC]
            exact ⟨rfl, hv.2.1, fun _ _ => ⟨ad, hβ, hsp, by simp [Nat.add_assoc]⟩⟩
        · omega
    · exact h.elim
  · exact h.elim

theorem size_mk (s : List UInt8) : (⟨s.toArray⟩ : ByteArray).size = s.length := by show s.toArray.size = s.length; simp

theorem getElem?_mk (s : List UInt8) (i : Nat) : (⟨s.toArray⟩ : ByteArray)[i]? = s[i]? := by
  by_cases h : i < s.length
  · have this : i < (⟨s.toArray⟩ : ByteArray).size := by simpa [ByteArray.size] using h
    rw [getElem?_pos (⟨s.toArray⟩ : ByteArray) i this, List.getElem?_eq_getElem h]
    rfl
  · have this : ¬ i < (⟨s.toArray⟩ : ByteArray).size := by simpa [ByteArray.size] using h
    rw [getElem?_neg (⟨s.toArray⟩ : ByteArray) i this, List.getElem?_eq_none (by omega)]

theorem indexA_sound {s : St} {t : Nat} (hu : P.underlying t = some .string) {x ix : AV} {v vi : Value} {K : AV → Prop} {k : Box K}
    (h : indexA x ix k) (hv : RepV b₀ β s.gen s.obj w x v) (hi : RepV b₀ β s.gen s.obj w ix vi) :
    ∃ y cv, K y ∧ (∀ w', Ext w w' → (Instr.index t v vi).run P w' = .ok cv w') ∧ RepV b₀ β s.gen s.obj w y cv := by
  unfold indexA at h
  split at h
  · rename_i kd i
    simp only [RepV, RepC] at hi
    obtain rfl := hi.inv_int
    split at h
    · rename_i bs
      obtain ⟨h0, h⟩ := h
      obtain ⟨c, hc, hK⟩ := onSome_inv h
      simp only [RepV, RepC] at hv
      obtain rfl := hv.inv_str
      refine ⟨_, .int .u8 c.toNat, hK, fun w' _ => ?_, by simp only [RepV, RepC]; exact .int _ _⟩
      have : (⟨bs.toArray⟩ : ByteArray)[i.toNat]? = some c := by rw [getElem?_mk]; exact hc
      simp [Instr.index, asIntOf, run_underlying hu, h0, this]
    · exact h.elim
  · exact h.elim

theorem intRes {K : AV → Prop} {kd : IntKind} {n : Int} {x : Sem Value} (h : K (iv kd n)) (hr : ∀ w, x.run P w = .ok (.int kd n) w) : ∃ z cv, K z ∧ (∀ w', Ext w w' → x.run P w' = .ok cv w') ∧ RepV b₀ β g ob w z cv :=
  ⟨_, _, h, fun w' _ => hr w', by simp only [RepV, RepC]; exact .int _ _⟩
theorem boolRes {K : AV → Prop} {b : Bool} {x : Sem Value} (h : K (bv b)) (hr : ∀ w, x.run P w = .ok (.bool b) w) : ∃ z cv, K z ∧ (∀ w', Ext w w' → x.run P w' = .ok cv w') ∧ RepV b₀ β g ob w z cv :=
  ⟨_, _, h, fun w' _ => hr w', by simp only [RepV, RepC]; exact .bool _⟩
theorem strRes {K : AV → Prop} {s : List UInt8} {x : Sem Value} (h : K (sv s)) (hr : ∀ w, x.run P w = .ok (.string ⟨s.toArray⟩) w) : ∃ z cv, K z ∧ (∀ w', Ext w w' → x.run P w' = .ok cv w') ∧ RepV b₀ β g ob w z cv :=
  ⟨_, _, h, fun w' _ => hr w', by simp only [RepV, RepC]; exact .str _⟩

theorem run_binI {op : BinOp} {kd k2 : IntKind} {x y : Int} {t : TypeId} {K : AV → Prop} {k : Box K} (hk : sameKind op kd k2) (h : binI op kd x y k) :
    ∃ z cv, K z ∧ (∀ w', Ext w w' → (binOp op t (.int kd x) (.int k2 y)).run P w' = .ok cv w') ∧ RepV b₀ β g ob w z cv := by
  cases op <;> simp only [binI, sameKind] at h hk <;> (try subst hk)
  case quo => exact intRes h.2 (fun w => by simp [binOp, Op.intDiv, h.1])
  case rem => exact intRes h.2 (fun w => by simp [binOp, Op.intDiv, h.1])
  case shl => have := Int.not_lt.2 h.1; exact intRes h.2 (fun w => by simp [binOp, Op.shift, this])
  case shr => have := Int.not_lt.2 h.1; exact intRes h.2 (fun w => by simp [binOp, Op.shift, this])
  case add => exact intRes h (fun w => by simp [binOp, Op.intArith])
  case sub => exact intRes h (fun w => by simp [binOp, Op.intArith])
  case mul => exact intRes h (fun w => by simp [binOp, Op.intArith])
  case and => exact intRes h (fun w => by simp [binOp, Op.intBits])
  case or => exact intRes h (fun w => by simp [binOp, Op.intBits])
  case xor => exact intRes h (fun w => by simp [binOp, Op.intBits])
  case andNot => exact intRes h (fun w => by simp [binOp, Op.intBits])
  case eql => exact boolRes h (fun w => by simp [binOp, Op.intCmp]; rfl)
  case neq => exact boolRes h (fun w => by simp [binOp, Op.intCmp]; rfl)
  all_goals exact boolRes h (fun w => by simp [binOp, Op.intCmp])

theorem toList_mk (s : List UInt8) : (⟨s.toArray⟩ : ByteArray).toList = s := by rw [ByteArray.toList_eq]
theorem beq_dec (x y : List UInt8) : (x == y) = decide (x = y) := by rw [Bool.eq_iff_iff]; simp
theorem append_mk (x y : List UInt8) : (⟨x.toArray⟩ : ByteArray) ++ (⟨y.toArray⟩ : ByteArray) = ⟨(x ++ y).toArray⟩ := by
  apply ByteArray.ext; simp

theorem run_binS {op : BinOp} {x y : List UInt8} {t : TypeId} {K : AV → Prop} {k : Box K} (h : binS op x y k) :
    ∃ z cv, K z ∧ (∀ w', Ext w w' → (binOp op t (.string ⟨x.toArray⟩) (.string ⟨y.toArray⟩)).run P w' = .ok cv w') ∧ RepV b₀ β g ob w z cv := by
  cases op <;> simp only [binS] at h
  case add =>
    refine strRes h.2 fun w => ?_
    have h1 := h.1
    have h2 : ¬ (((⟨x.toArray⟩ : ByteArray).size + (⟨y.toArray⟩ : ByteArray).size : Nat) : Int) > IntKind.i64.max := by
      have e1 := size_mk x
      have e2 := size_mk y
      have e3 : IntKind.i64.max = 9223372036854775807 := by decide
      omega
    simp only [binOp, Op.stringOp, if_neg h2, append_mk]
    rfl
  case eql => exact boolRes h (fun w => by simp [binOp, Op.stringOp, beq_dec])
  case neq => exact boolRes h (fun w => by simp [binOp, Op.stringOp, beq_dec])
  case lss => exact boolRes h (fun w => by simp [binOp, Op.stringOp])
  case leq => exact boolRes h (fun w => by simp [binOp, Op.stringOp, beq_dec])
  case gtr => exact boolRes h (fun w => by simp [binOp, Op.stringOp, beq_dec])
  case geq => exact boolRes h (fun w => by simp [binOp, Op.stringOp])

theorem run_eqGuard_int (op : BinOp) (t : TypeId) (x y : Operand) (a b : Value) (h : ∀ cs, a ≠ .agg cs) (h2 : a ≠ .nilIface) : (eqGuard op t x y a b).run P w = .ok () w := by
  unfold eqGuard
  cases op <;> (try rfl) <;> (cases a <;> first | (exfalso; exact h _ rfl) | (exfalso; exact h2 rfl) | rfl)

theorem run_equal_bool {t : TypeId} (hu : P.underlying t = some .bool) (a b : Bool) : (Op.equal t (.bool a) (.bool b)).run P w = .ok (a == b) w := by
  obtain ⟨d, hd⟩ : ∃ d, Op.maxDepth = d + 1 := ⟨9999, rfl⟩
  unfold Op.equal
  rw [hd]
  simp [Op.equalIn, run_underlying hu]

theorem binA_sound (hT : TabOk P T) {s : St} {op : BinOp} {t : Nat} {x y : AV} {v u : Value} {K : AV → Prop} {k : Box K} (h : binA (T t).desc op x y k)
    (hv : RepV b₀ β s.gen s.obj w x v) (hu : RepV b₀ β s.gen s.obj w y u) (ox oy : Operand) :
    ∃ z cv, K z ∧ (∀ w', Ext w w' → (do eqGuard op t ox oy v u; binOp op t v u : Sem Value).run P w' = .ok cv w') ∧ RepV b₀ β s.gen s.obj w z cv := by
  unfold binA at h
  split at h
  · simp only [RepV, RepC] at hv hu
    obtain rfl := hv.inv_int
    obtain rfl := hu.inv_int
    obtain ⟨z, cv, h1, h2, h3⟩ := run_binI (b₀ := b₀) (β := β) (g := s.gen) (ob := s.obj) (w := w) (P := P) (t := t) h.1 h.2
    exact ⟨z, cv, h1, fun w' hw' => by rw [Sem.run_bind, run_eqGuard_int _ _ _ _ _ _ (by simp) (by simp)]; simpa using h2 w' hw', h3⟩
  · simp only [RepV, RepC] at hv hu
    obtain rfl := hv.inv_str
    obtain rfl := hu.inv_str
    obtain ⟨z, cv, h1, h2, h3⟩ := run_binS (b₀ := b₀) (β := β) (g := s.gen) (ob := s.obj) (w := w) (P := P) (t := t) h
    exact ⟨z, cv, h1, fun w' hw' => by rw [Sem.run_bind, run_eqGuard_int _ _ _ _ _ _ (by simp) (by simp)]; simpa using h2 w' hw', h3⟩
  · rename_i a b
    simp only [RepV, RepC] at hv hu
    obtain rfl := hv.inv_bool
    obtain rfl := hu.inv_bool
    unfold binB at h
    split at h
    · rename_i hd
      have hty := (hT t (by rw [hd]; rfl)).desc
      rw [hd] at hty
      refine boolRes h fun w => ?_
      rw [Sem.run_bind, run_eqGuard_int _ _ _ _ _ _ (by simp) (by simp)]
      simp only [binOp, Sem.run_bind, Result.andThen_ok, run_equal_bool hty, Sem.run_pure]
      cases a <;> cases b <;> rfl
    · rename_i hd
      have hty := (hT t (by rw [hd]; rfl)).desc
      rw [hd] at hty
      refine boolRes h fun w => ?_
      rw [Sem.run_bind, run_eqGuard_int _ _ _ _ _ _ (by simp) (by simp)]
      simp only [binOp, Sem.run_bind, Result.andThen_ok, run_equal_bool hty, Sem.run_pure]
      cases a <;> cases b <;> rfl
    · exact h.elim
  · exact h.elim

theorem unA_sound {s : St} {op : UnOp} {x : AV} {v : Value} {K : AV → Prop} {k : Box K} (h : unA op x k) (hv : RepV b₀ β s.gen s.obj w x v) :
    ∃ z cv, K z ∧ (∀ w', Ext w w' → (Op.unary op v).run P w' = .ok cv w') ∧ RepV b₀ β s.gen s.obj w z cv := by
  unfold unA at h
  split at h
  · simp only [RepV, RepC] at hv
    obtain rfl := hv.inv_bool
    exact boolRes h (fun w => by simp [Op.unary])
  · simp only [RepV, RepC] at hv
    obtain rfl := hv.inv_int
    exact intRes h (fun w => by simp [Op.unary, Op.intArith])
  · exact h.elim

/-! Maps. -/
theorem keyEq_iff {a b : D} {kd : TypeDesc} (ha : okKey kd a = true) (hb : okKey kd b = true) : keyEq a b = true ↔ dV a = dV b := by
  cases kd <;> cases a <;> cases b <;> simp_all [okKey, keyEq, dV]

theorem isKey_of {kd : TypeDesc} {a : D} (h : okKey kd a = true) : MapKept.IsKey kd (dV a) := by
  cases kd <;> cases a <;> simp_all [okKey, MapKept.IsKey, dV]

theorem RepD.key {J : Nat → Prop} {kd : TypeDesc} {a : D} {v : Value} (hk : okKey kd a = true) (h : RepD J w a v) : v = dV a := by
  cases h <;> first | rfl | (cases kd <;> simp [okKey] at hk; done)

theorem MapRep.keys {R : C → Value → Prop} {kd : TypeDesc} {cs : List C} {es : List MapEntry} (h : MapRep R kd cs es) : ∀ x ∈ es, MapKept.IsKey kd x.key := by
  induction h with
  | nil => intro x hx; cases hx
  | cons hk h1 h2 _ ih =>
    intro x hx
    rcases List.mem_cons.1 hx with rfl | hx
    · rw [h1]; exact isKey_of hk
    · exact ih x hx

/-- Where a key is found. -/
theorem MapRep.find {R : C → Value → Prop} {kd : TypeDesc} {cs : List C} {es : List MapEntry} (h : MapRep R kd cs es) {k : D} (hk : okKey kd k = true) (i : Nat) :
    (Instr.findNow kd (dV k) es i = some none ∧ mget cs k = none ∧ ∀ c v, R c v → ∀ b, MapRep R kd (mset cs k c) (es ++ [{ key := dV k, val := v, born := b }])) ∨
    ∃ j e c, Instr.findNow kd (dV k) es i = some (some (i + j, e.val)) ∧ es[j]? = some e ∧ e.key = dV k ∧ mget cs k = some c ∧ R c e.val ∧ ∀ c' v, R c' v → MapRep R kd (mset cs k c') (es.modify j fun e => { e with key := dV k, val := v }) := by
  induction h generalizing i with
  | nil => exact .inl ⟨rfl, rfl, fun c v hr b => .cons hk rfl hr .nil⟩
  | cons hk' h1 h2 hr ih =>
    rename_i k' c e cs es
    obtain ⟨r, hs, hiff⟩ := MapKept.sameNow_of_keys (isKey_of hk) (isKey_of hk')
    cases r with
    | true =>
      have heq := hiff.1 rfl
      have hke : keyEq k' k = true := (keyEq_iff hk' hk).2 heq.symm
      refine .inr ⟨0, e, c, by simp [Instr.findNow, h1, hs], rfl, by rw [h1, heq], by simp [mget, hke], h2, fun c' v hr' => ?_⟩
      simp only [mset, hke, if_true, List.modify_cons, ite_true]
      exact .cons hk' (by simpa using heq) hr' hr
    | false =>
      have hne : keyEq k' k = false := by
        cases hq : keyEq k' k with
        | false => rfl
        | true => have := hiff.2 ((keyEq_iff hk' hk).1 hq).symm; cases this
      rcases ih (i + 1) with ⟨g1, g2, g3⟩ | ⟨j, e', c', g1, g2, g3, g4, g5, g6⟩
      · exact .inl ⟨by simp [Instr.findNow, h1, hs, g1], by simp [mget, hne, g2], fun c v hr' b => by
          simp only [mset, hne, List.cons_append]
          exact .cons hk' h1 h2 (g3 c v hr' b)⟩
      · refine .inr ⟨j + 1, e', c', by simp [Instr.findNow, h1, hs, g1]; omega, by simpa using g2, g3, by simp [mget, hne, g4], g5, fun c2 v hr' => ?_⟩
        simp only [mset, hne, List.modify_succ_cons]
        exact .cons hk' h1 h2 (g6 c2 v hr')

theorem zeroD_inv (hT : TabOk P T) {t : Nat} {K : D → Prop} {k : Box K} (h : zeroD (T t) k) : ∃ z, K z ∧ plainD z = true ∧ (∀ w, (zeroValue t).run P w = .ok (dV z) w) ∧ okD (T t).desc = true := by
  unfold zeroD at h
  split at h
  · rename_i z hz
    have ht := hT t h.1.1
    obtain ⟨i, hi, hs, hb, zv, hzv, hc⟩ := ht.info
    have hp : plainD z = true := by have := ht.plain; rw [hz] at this; simpa using this
    refine ⟨z, h.2, hp, fun w => ?_, h.1.1⟩
    rw [hz] at hc
    have hzv' : zv = dV z := by have := ht.zone h.1.2 i zv hi hzv; rwa [hz] at this
    simp [zeroValue, typeInfo, hi, hzv, hzv']
  · exact h.elim

theorem lkRes_rep {g : Nat → Nat} {ob : Obs} {K : AV → Prop} {ok : Bool} {z : D} {c : Option C} {v : Value} (hK : K (lkRes ok z c)) (hv : RepC b₀ β g ob w (c.getD (.d z)) v) :
    ∃ y cv, K y ∧ (∀ w', Ext w w' → (pure (if ok then .tuple #[v, .bool c.isSome] else v) : Sem Value).run P w' = .ok cv w') ∧ RepV b₀ β g ob w y cv := by
  refine ⟨_, _, hK, fun w' _ => by rw [Sem.run_pure], ?_⟩
  cases ok
  · simp only [lkRes, RepV]; exact hv
  · simp only [lkRes, if_true, RepV, RepVs]
    exact ⟨[v, .bool c.isSome], rfl, _, _, rfl, hv, _, _, rfl, by simp only [RepC]; exact .bool _, rfl⟩

/-- A look into a map. -/
theorem lookupA_sound (hT : TabOk P T) {N : Nat} {s : St} {a : Act} (hr : Rel b₀ N s β a w) {t : Nat} {x ix : AV} {v vi : Value} {ok : Bool} {K : AV → Prop} {k : Box K} (h : lookupA T t s x ix ok k)
    (hv : RepV b₀ β s.gen s.obj w x v) (hi : RepV b₀ β s.gen s.obj w ix vi) : ∃ y cv, K y ∧ (∀ w', Ext w w' → (Instr.lookup t v vi ok).run P w' = .ok cv w') ∧ RepV b₀ β s.gen s.obj w y cv := by
  unfold lookupA at h
  split at h
  · rename_i kt et k0 hd
    obtain ⟨⟨hok, hkey⟩, h⟩ := h
    obtain ⟨z, h, hpz, hzr, _⟩ := zeroD_inv hT h
    have hu := (hT t (by rw [hd]; rfl)).desc
    rw [hd] at hu
    have hk := (hT kt hok).desc
    simp only [RepV, RepC] at hi
    obtain rfl := hi.key hkey
    have hck : ∀ e w, (Instr.checkKey e 10000 kt (dV k0)).run P w = .ok () w := fun e w => MapKept.run_checkKey hk (isKey_of hkey) e 9999
    split at h
    · rename_i id g kd _
      obtain ⟨hg, hkd, h⟩ := h
      obtain ⟨cells, ho, hK⟩ := onSome_inv h
      simp only [RepV, RepC] at hv
      obtain ⟨ad, hβ, hsp, rfl⟩ := hv.2.2 hg (by simp [ho])
      have hob := hr.obj id cells ho
      rw [hβ] at hob
      obtain ⟨_, es, clock, hblk, hm⟩ := hob.map hsp
      rw [hkd] at hm
      rcases hm.find hkey 0 with ⟨g1, g2, _⟩ | ⟨j, e, c, g1, _, _, g4, g5, _⟩
      · obtain ⟨y, cv, q1, q2, q3⟩ := lkRes_rep (P := P) (w := w) (b₀ := b₀) (β := β) (g := s.gen) (ob := s.obj) hK (v := dV z) (by rw [g2]; simp only [Option.getD_none, RepC]; exact .of_plain hpz)
        refine ⟨y, cv, q1, fun w' hw' => ?_, q3⟩
        have q2 := q2 w' hw'
        rw [g2] at q2
        simp only [Sem.run_pure, Result.ok.injEq, and_true] at q2
        subst q2
        simp [Instr.lookup, run_underlying hu, MapKept.run_getObj_map (hw'.cells hblk), hck, MapKept.run_findKey hk g1, hzr]
      · obtain ⟨y, cv, q1, q2, q3⟩ := lkRes_rep (P := P) (w := w) (b₀ := b₀) (β := β) (g := s.gen) (ob := s.obj) hK (v := e.val) (by rw [g4]; simpa using g5)
        refine ⟨y, cv, q1, fun w' hw' => ?_, q3⟩
        have q2 := q2 w' hw'
        rw [g4] at q2
        simp only [Sem.run_pure, Result.ok.injEq, and_true] at q2
        subst q2
        simp [Instr.lookup, run_underlying hu, MapKept.run_getObj_map (hw'.cells hblk), hck, MapKept.run_findKey hk g1]
    · simp only [RepV, RepC] at hv
      cases hv
      obtain ⟨y, cv, q1, q2, q3⟩ := lkRes_rep (P := P) (w := w) (b₀ := b₀) (β := β) (g := s.gen) (ob := s.obj) h (v := dV z) (by simp only [Option.getD_none, RepC]; exact .of_plain hpz)
      refine ⟨y, cv, q1, fun w' hw' => ?_, q3⟩
      have q2 := q2 w' hw'
      simp only [Sem.run_pure, Result.ok.injEq, and_true] at q2
      subst q2
      have hf : (Instr.findKey kt (dV k0) []).run P w' = .ok none w' := MapKept.run_findKey hk rfl
      simp [Instr.lookup, run_underlying hu, hck, hf, hzr]
    · exact h.elim
  · exact h.elim

theorem pcOf_rep {g : Nat → Nat} {ob : Obs} {x : AV} {p : PC} {v : Value} (hp : pcOf x = some p) (hv : RepV b₀ β g ob w x v) : RepPC b₀ β g ob w p v := by
  unfold pcOf at hp
  split at hp
  · cases hp; simpa only [RepV, RepC, RepPC] using hv
  · cases hp; simpa only [RepV, RepC, RepPC] using hv
  · cases hp

theorem pcsOf_rep {N : Nat} {s : St} {a : Act} (hr : Rel b₀ N s β a w) : ∀ (xs : List Operand) {ps : List PC}, pcsOf (xs.map s.ev) = some ps → ps.length = xs.length ∧ ∀ (i : Nat) (pc : PC), ps[i]? = some pc → ∃ x, xs[i]? = some x ∧ RepPC b₀ β s.gen s.obj w pc (a.eval x)
  | [], ps, h => by simp [pcsOf] at h; subst h; exact ⟨rfl, fun i pc h => by simp at h⟩
  | x :: xs, ps, h => by
    simp only [List.map_cons, pcsOf] at h
    cases h1 : pcOf (s.ev x) with
    | none => rw [h1] at h; cases h
    | some p =>
      rw [h1] at h
      cases h2 : pcsOf (xs.map s.ev) with
      | none => rw [h2] at h; cases h
      | some ps' =>
        rw [h2] at h
        simp only [Option.bind_some, Option.some.injEq] at h
        subst h
        obtain ⟨e1, e2⟩ := pcsOf_rep hr xs h2
        refine ⟨by simp [e1], fun i pc hi => ?_⟩
        cases i with
        | zero => simp at hi; subst hi; exact ⟨x, rfl, pcOf_rep h1 (hr.ev x)⟩
        | succ i => simpa using e2 i pc (by simpa using hi)

/-- A closure is made. -/
theorem makeFuncA_sound {N : Nat} {s : St} {a : Act} (hr : Rel b₀ N s β a w) {f : FuncId} {first caps : Array Operand} {K : AV → Prop} {k : Box K} (h : makeFuncA f first.size (caps.toList.map s.ev) k) :
    ∃ y cv, K y ∧ (∀ w', Ext w w' → (Instr.makeFunc (.func f) (first.map a.eval) (caps.map a.eval)).run P w' = .ok cv w') ∧ RepV b₀ β s.gen s.obj w y cv := by
  obtain ⟨hn, h⟩ := h
  obtain ⟨l, hl, hK⟩ := onSome_inv h
  obtain ⟨e1, e2⟩ := pcsOf_rep hr caps.toList hl
  have hf : first = #[] := Array.eq_empty_of_size_eq_zero hn
  subst hf
  refine ⟨_, .func (.func f) #[] (caps.map a.eval), hK, fun w' _ => by simp [Instr.makeFunc], ?_⟩
  simp only [RepV, RepC]
  refine ⟨_, rfl, by simp [e1], fun i pc hi => ?_⟩
  obtain ⟨x, hx, hr'⟩ := e2 i pc hi
  have hx : caps[i]? = some x := by simpa using hx
  exact ⟨a.eval x, by simp [hx], hr'⟩

theorem isStr_of {d : TypeDesc} (h : isStr d = true) : d = .string := by cases d <;> simp_all [isStr]

theorem lenA_sound (hT : TabOk P T) {s : St} {t : Nat} {x : AV} {v : Value} {ty : TypeId} {K : AV → Prop} {k : Box K} (h : lenA s (isStr (T t).desc) (okSl T t) x k) (hv : RepV b₀ β s.gen s.obj w x v) :
    ∃ z cv, K z ∧ (∀ w', Ext w w' → (Builtin.len_ #[t] ty #[v]).run P w' = .ok cv w') ∧ RepV b₀ β s.gen s.obj w z cv := by
  unfold lenA at h
  split at h
  · obtain ⟨hsl, h⟩ := h
    obtain ⟨e, _, _, hu, _⟩ := okSl_inv hT hsl
    simp only [RepV, RepC] at hv
    obtain rfl := hv.inv_nsl
    exact intRes h (fun w => by simp [Builtin.len_, run_underlying hu, goInt])
  · obtain ⟨hsl, h⟩ := h
    obtain ⟨e, _, _, hu, _⟩ := okSl_inv hT hsl
    simp only [RepV, RepC] at hv
    refine intRes h fun w => ?_
    cases hv <;> simp [Builtin.len_, run_underlying hu, goInt]
  · obtain ⟨hsl, h⟩ := h
    have hu := (hT t (by rw [isStr_of hsl]; rfl)).desc
    rw [isStr_of hsl] at hu
    simp only [RepV, RepC] at hv
    obtain rfl := hv.inv_str
    exact intRes h (fun w => by simp [Builtin.len_, run_underlying hu, goInt, size_mk])
  · obtain ⟨hsl, hg, ho, h⟩ := h
    obtain ⟨e, _, _, hu, _⟩ := okSl_inv hT hsl
    simp only [RepV] at hv
    obtain ⟨a, cap, rfl, _⟩ := (osl_live hv hg ho).slice
    exact intRes h (fun w => by simp [Builtin.len_, run_underlying hu, goInt])
  · obtain ⟨hsl, h⟩ := h
    obtain ⟨e, _, _, hu, _⟩ := okSl_inv hT hsl
    simp only [RepV, RepC] at hv
    obtain ⟨a, cap, rfl⟩ := hv
    exact intRes h (fun w => by simp [Builtin.len_, run_underlying hu, goInt])
  · exact h.elim

end
end Go.Am

/- Arguments with structs and recursive types: from a statement's reading to data. -/
import Derived.Test.YthengcpckdlpgaaAm11
set_option linter.unusedSimpArgs false
set_option linter.unusedVariables false
namespace Go.Am

/-- The fields lie one behind the other from a place on: where they end. -/
def fieldsEnd (P : Program) : Nat → List Field → Option Nat
  | off, [] => some off
  | off, f :: l => if f.offset = off then fieldsEnd P (off + P.cellsOf f.type) l else none

/-- Types that the reading below knows, closed under their parts. -/
def closedT (P : Program) (ts : List TypeId) : Bool := ts.all fun t =>
  match P.underlying t with
  | some .bool | some (.int _) | some .string => P.cellsOf t == 1
  | some (.slice e) => P.cellsOf t == 1 && ts.contains e && decide (0 < P.cellsOf e)
  | some (.struct fs) => (fieldsEnd P 0 fs.toList == some (P.cellsOf t)) && fs.toList.all (fun f => ts.contains f.type)
  | _ => false

/-- Data of a type: its cells. -/
inductive HasS (P : Program) : TypeId → List D → Prop where
  | bool {t : TypeId} (hu : P.underlying t = some .bool) (b : Bool) : HasS P t [.bool b]
  | int {t : TypeId} {k : IntKind} (hu : P.underlying t = some (.int k)) (m : Int) (hw : (Lit.int k m).wf = true) : HasS P t [.int k m]
  | str {t : TypeId} (hu : P.underlying t = some .string) (s : List UInt8) (hl : s.length ≤ reachBytes) : HasS P t [.str s]
  | sl {t e : TypeId} (hu : P.underlying t = some (.slice e)) (es : List (List D)) (hl : es.length * P.bytesOf e ≤ reachBytes) (h : ∀ x ∈ es, HasS P e x) : HasS P t [.sl es]
  | struct {t : TypeId} {fs : Array Field} (hu : P.underlying t = some (.struct fs)) (parts : List (List D)) (hl : parts.length = fs.toList.length)
      (h : ∀ (i : Nat) (f : Field) (x : List D), fs.toList[i]? = some f → parts[i]? = some x → HasS P f.type x) : HasS P t parts.flatten

/-! How much there is, each time that it is met. -/
mutual
def bulkD : D → Nat
  | .sl es => bulkDss es + 1
  | .str bs => bs.length + 1
  | _ => 1
def bulkDs : List D → Nat
  | [] => 0
  | d :: r => bulkD d + bulkDs r
def bulkDss : List (List D) → Nat
  | [] => 0
  | e :: r => bulkDs e + bulkDss r
end

mutual
def bulkW {H : Type} : DataW H → Nat
  | .lit (.string bytes) => bytes.length + 1
  | .lit _ => 1
  | .nil => 1
  | .ptr d => bulkW d + 1
  | .slice elems spare => bulkWs elems + bulkWs spare + 1
  | .agg parts => bulkWs parts + 1
  | .iface _ d => bulkW d + 1
  | .map entries => bulkWe entries + 1
  | .held _ => 1
def bulkWs {H : Type} : List (DataW H) → Nat
  | [] => 0
  | d :: r => bulkW d + bulkWs r
def bulkWe {H : Type} : List (Lit × DataW H) → Nat
  | [] => 0
  | x :: r => bulkW1 x + bulkWe r
def bulkW1 {H : Type} : Lit × DataW H → Nat
  | (.string bytes, d) => bytes.length + bulkW d + 1
  | (_, d) => bulkW d + 1
end

theorem bulkDs_app (a b : List D) : bulkDs (a ++ b) = bulkDs a + bulkDs b := by
  induction a with
  | nil => simp [bulkDs]
  | cons x a ih => simp only [List.cons_append, bulkDs, ih]; omega
theorem bulkDs_flatten (l : List (List D)) : bulkDs l.flatten = bulkDss l := by
  induction l with
  | nil => simp [bulkDs, bulkDss]
  | cons x l ih => simp only [List.flatten_cons, bulkDs_app, ih, bulkDss]
theorem bulk_lists {H : Type} : ∀ {es : List (List D)} {l : List (DataW H)}, es.length ≤ l.length → (∀ (i : Nat) (x : List D) (d : DataW H), es[i]? = some x → l[i]? = some d → bulkDs x ≤ bulkW d) → bulkDss es ≤ bulkWs l
  | [], l, _, _ => by simp [bulkDss]
  | x :: es, [], h, _ => by simp at h
  | x :: es, d :: l, h, hp => by
    have h0 := hp 0 x d rfl rfl
    have := bulk_lists (es := es) (l := l) (by simpa using h) (fun i y e h1 h2 => hp (i + 1) y e (by simpa using h1) (by simpa using h2))
    simp only [bulkDss, bulkWs]; omega

section
variable {H : Type} {enc : TypeId × Value → H} {P : Program} {w : World}

theorem add_add (a : Addr) (m j : Nat) : (a.add m).add j = a.add (m + j) := by
  unfold Addr.add
  by_cases hm : m = 0
  · subst hm; simp
  · by_cases hj : j = 0
    · subst hj; simp
    · have : ¬ m + j = 0 := by omega
      simp [hm, hj, Nat.add_assoc]

theorem weightsEach_all {p : Nat → Bool} : ∀ {ts : List TypeId} {l : List (DataW H)}, (DataW.weightsEach P ts l).all p = true → ∀ (i : Nat) (t : TypeId) (d : DataW H), ts[i]? = some t → l[i]? = some d → (d.weights P t).all p = true
  | [], _, _, i, t, d, h1, _ => by simp at h1
  | _ :: _, [], _, i, t, d, _, h2 => by simp at h2
  | t :: ts, d :: l, h, i, t', d', h1, h2 => by
    simp only [DataW.weightsEach, List.all_append, Bool.and_eq_true] at h
    cases i with
    | zero => simp at h1 h2; subst h1 h2; exact h.1
    | succ i => exact weightsEach_all h.2 i t' d' (by simpa using h1) (by simpa using h2)

theorem CellsD.app {c1 c2 : List Value} {d1 d2 : List D} (h1 : CellsD w c1 d1) (h2 : CellsD w c2 d2) : CellsD w (c1 ++ c2) (d1 ++ d2) := by
  refine ⟨by simp [h1.1, h2.1], fun j x hx => ?_⟩
  rw [List.getElem?_append] at hx
  split at hx
  · rename_i hj
    obtain ⟨v, hv, hr⟩ := h1.2 j x hx
    exact ⟨v, by rw [List.getElem?_append_left (by rw [← h1.1]; exact hj)]; exact hv, hr⟩
  · rename_i hj
    obtain ⟨v, hv, hr⟩ := h2.2 _ x hx
    refine ⟨v, ?_, hr⟩
    rw [List.getElem?_append_right (by rw [← h1.1]; omega), ← h1.1]; exact hv

theorem fields_cells {cs : List Value} : ∀ (fl : List Field) {off tot : Nat} (Q : Nat → List D → Prop), fieldsEnd P off fl = some tot → tot ≤ cs.length →
    (∀ (i : Nat) (f : Field), fl[i]? = some f → ∃ ds, CellsD w ((cs.drop f.offset).take (P.cellsOf f.type)) ds ∧ HasS P f.type ds ∧ ds.length = P.cellsOf f.type ∧ Q i ds) →
    ∃ parts : List (List D), parts.length = fl.length ∧ (∀ (i : Nat) (f : Field) (x : List D), fl[i]? = some f → parts[i]? = some x → HasS P f.type x) ∧ off ≤ tot ∧ CellsD w ((cs.drop off).take (tot - off)) parts.flatten ∧ ∀ (i : Nat) (x : List D), parts[i]? = some x → Q i x
  | [], off, tot, Q, h, _, _ => by
    simp only [fieldsEnd, Option.some.injEq] at h
    subst h
    refine ⟨[], rfl, fun i f x h => by simp at h, Nat.le_refl _, ?_, fun i x h => by simp at h⟩
    rw [Nat.sub_self, List.take_zero]
    exact ⟨rfl, fun j x h => by simp at h⟩
  | f :: fl, off, tot, Q, h, ht, hf => by
    simp only [fieldsEnd] at h
    split at h
    · rename_i ho
      obtain ⟨ds, d1, d2, d3, d4⟩ := hf 0 f rfl
      obtain ⟨parts, p1, p2, p3, p4, p5⟩ := fields_cells fl (fun i => Q (i + 1)) h ht (fun i g hg => hf (i + 1) g (by simpa using hg))
      refine ⟨ds :: parts, by simp [p1], fun i g x hg hx => ?_, by omega, ?_, fun i x hx => ?_⟩
      rotate_left 2
      · cases i with
        | zero => simp at hx; subst hx; exact d4
        | succ i => exact p5 i x (by simpa using hx)
      · cases i with
        | zero => simp at hg hx; subst hg hx; exact d2
        | succ i => exact p2 i g x (by simpa using hg) (by simpa using hx)
      · rw [List.flatten_cons]
        have : (cs.drop off).take (tot - off) = (cs.drop f.offset).take (P.cellsOf f.type) ++ (cs.drop (off + P.cellsOf f.type)).take (tot - (off + P.cellsOf f.type)) := by
          rw [ho, show tot - off = P.cellsOf f.type + (tot - (off + P.cellsOf f.type)) by omega, List.take_add, List.drop_drop]
        rw [this]
        exact d1.app p4
    · cases h

theorem trod_has {held : Bool} {base : Nat} {sp : Nat → Bool} {ts : List TypeId} (hp : closedT P ts = true) : ∀ (fuel : Nat) {t : TypeId} {cs : List Value} {d : DataW H} {ps : List MemPlace}, t ∈ ts → DataW.trod enc P w base sp held fuel t cs = some (d, ps) → (d.weights P t).all (· ≤ reachBytes) = true →
    ∃ ds, CellsD w cs ds ∧ HasS P t ds ∧ ds.length = P.cellsOf t ∧ bulkDs ds ≤ bulkW d
  | 0, _, _, _, _, _, h, _ => by simp [DataW.trod] at h
  | fuel + 1, t, cs, d, ps, ht, h, hz => by
    have hpt := List.all_eq_true.1 hp t ht
    unfold DataW.trod at h
    split at hpt
    · rename_i hu
      rw [hu] at h
      simp only [beq_iff_eq] at hpt
      rcases cs with _ | ⟨v, _ | ⟨v', r⟩⟩
      · simp at h
      · cases v <;> simp at h
        obtain ⟨rfl, _⟩ := h
        exact ⟨_, .one (.bool _), .bool hu _, hpt.symm, by simp [bulkDs, bulkD, bulkW]⟩
      · simp at h
    · rename_i k hu
      rw [hu] at h
      simp only [beq_iff_eq] at hpt
      rcases cs with _ | ⟨v, _ | ⟨v', r⟩⟩
      · simp at h
      · cases v <;> simp at h
        obtain ⟨⟨rfl, hwf⟩, rfl, _⟩ := h
        exact ⟨_, .one (.int _ _), .int hu _ hwf, hpt.symm, by simp [bulkDs, bulkD, bulkW]⟩
      · simp at h
    · rename_i hu
      rw [hu] at h
      simp only [beq_iff_eq] at hpt
      rcases cs with _ | ⟨v, _ | ⟨v', r⟩⟩
      · simp at h
      · cases v <;> simp at h
        rename_i s
        obtain ⟨hs, rfl, _⟩ := h
        refine ⟨[.str s.data.toList], .one ?_, .str hu _ (by simpa [DataW.weights] using hz), hpt.symm, by simp [bulkDs, bulkD, bulkW]⟩
        have : (Value.string s) = .string ⟨s.data.toList.toArray⟩ := by simp
        rw [this]; exact .str _
      · simp at h
    · rename_i e hu
      rw [hu] at h
      simp only [Bool.and_eq_true, beq_iff_eq, decide_eq_true_eq, List.contains_iff_mem] at hpt
      obtain ⟨⟨hc1, he'⟩, hsz⟩ := hpt
      rcases cs with _ | ⟨v, _ | ⟨v', r⟩⟩
      · simp at h
      · cases v with
        | slice a len cap =>
          cases a with
          | none =>
            have : len = 0 ∧ cap = 0 := by
              cases len <;> cases cap <;> simp at h ⊢
            obtain ⟨rfl, rfl⟩ := this
            have hd : 1 ≤ bulkW d := by cases d with | lit l => cases l <;> simp [bulkW] | _ => simp [bulkW]
            exact ⟨[.sl []], .one .sl0, .sl hu [] (by simp) (fun _ h => by cases h), hc1.symm, by simpa [bulkDs, bulkD, bulkDss] using hd⟩
          | some a =>
            simp only at h
            split at h
            · rename_i hc
              cases he : (List.range len).mapM (fun i => (w.cells? base (a.add (i * P.cellsOf e)) (P.cellsOf e)).bind (DataW.trod enc P w base sp held fuel e)) with
              | none => rw [he] at h; simp at h
              | some els =>
                obtain ⟨h1, h2⟩ := mapM_some he
                rw [he] at h
                simp only [Option.bind_some, Option.map_eq_some_iff, Prod.mk.injEq] at h
                obtain ⟨rest, _, rfl, _⟩ := h
                simp only [DataW.weights, hu, List.all_cons, List.all_append, Bool.and_eq_true, decide_eq_true_eq, List.length_map] at hz
                have hlz : els.length * P.bytesOf e ≤ reachBytes := Nat.le_trans (Nat.mul_le_mul_right _ (Nat.le_add_right _ _)) hz.1
                have hel := weightsAll_all hz.2.1
                have each : ∀ i, i < len → ∃ cs ds, w.cells? base (a.add (i * P.cellsOf e)) (P.cellsOf e) = some cs ∧ CellsD w cs ds ∧ HasS P e ds ∧ ds.length = P.cellsOf e ∧ ∃ b, els[i]? = some b ∧ bulkDs ds ≤ bulkW b.1 := by
                  intro i hi
                  obtain ⟨b, hbm, hb⟩ := h2 i i (by simp [hi])
                  cases hcs : w.cells? base (a.add (i * P.cellsOf e)) (P.cellsOf e) with
                  | none => rw [hcs] at hb; cases hb
                  | some cs' =>
                    rw [hcs] at hb
                    obtain ⟨ds, g1, g2, g3, g4⟩ := trod_has hp fuel he' (d := b.1) (ps := b.2) hb (hel b.1 (List.mem_map.2 ⟨b, List.mem_of_getElem? hbm, rfl⟩))
                    exact ⟨cs', ds, rfl, g1, g2, g3, b, hbm, g4⟩
                generalize P.cellsOf e = sz at *
                obtain ⟨es, hl, hes⟩ := exists_list (p := fun i ds => ∃ cs, w.cells? base (a.add (i * sz)) sz = some cs ∧ CellsD w cs ds ∧ HasS P e ds ∧ ds.length = sz ∧ ∃ b, els[i]? = some b ∧ bulkDs ds ≤ bulkW b.1) len (fun i hi => let ⟨cs, ds, g⟩ := each i hi; ⟨ds, cs, g⟩)
                have hbulk : bulkDss es ≤ bulkWs (els.map (·.1)) := bulk_lists (by rw [List.length_map, hl, h1]; simp) (fun i x d hx hd => by
                  obtain ⟨_, _, _, _, _, b, hb, hle⟩ := hes i x hx
                  rw [List.getElem?_map, hb] at hd
                  cases hd
                  exact hle)
                refine ⟨[.sl es], .one ?_, .sl hu es (by rw [hl]; simpa [h1] using hlz) (fun x hx => ?_), hc1.symm, by simp only [bulkDs, bulkD, bulkW]; omega⟩
                · by_cases hl0 : len = 0
                  · subst hl0
                    have : es = [] := List.eq_nil_of_length_eq_zero hl
                    subst this
                    exact .sl0
                  · have hget : ∀ i (x : List D), es[i]? = some x → ∀ j (y : D), x[j]? = some y → ∃ v, w.cell? (a.add (i * sz + j)) = some v ∧ RepD (fun b => b < w.heap.size) w y v := fun i x hx j y hy => by
                      obtain ⟨cs', g1, g2, g3, g4, _⟩ := hes i x hx
                      obtain ⟨v, hv1, hv2⟩ := g2.2 j y hy
                      have := (cells?_get g1).2 j v hv1
                      refine ⟨v, ?_, hv2⟩
                      rw [← this, add_add]
                    obtain ⟨x0, hx0⟩ : ∃ x, es[0]? = some x := ⟨_, List.getElem?_eq_getElem (by omega)⟩
                    obtain ⟨cs0, q1, q2, q3, q4, _⟩ := hes 0 x0 hx0
                    obtain ⟨y0, hy0⟩ : ∃ y, x0[0]? = some y := ⟨_, List.getElem?_eq_getElem (by omega)⟩
                    obtain ⟨v0, hv0, _⟩ := hget 0 x0 hx0 0 y0 hy0
                    obtain ⟨b, off, spot⟩ := a
                    have hsp : spot = none := by
                      have : (⟨b, off, spot⟩ : Addr).add (0 * sz + 0) = ⟨b, off, spot⟩ := by simp [Addr.add]
                      rw [this] at hv0
                      cases spot with
                      | none => rfl
                      | some k =>
                        unfold World.cell? at hv0
                        simp at hv0
                        split at hv0 <;> simp at hv0
                    subst hsp
                    rw [← hl]
                    refine .sl (b := b) (off := off) (sz := sz) (fun i j => (w.cell? ⟨b, off + (i * sz + j), none⟩).getD undef) (by omega) (fun _ => by have := World.block_lt_of_cell? w _ hv0; simpa [Addr.add] using this) (fun x hx => ?_) (fun i x hx j y hy => ?_) (fun i x hx j y hy => ?_)
                    · obtain ⟨i, hi⟩ := List.getElem?_of_mem hx
                      obtain ⟨_, _, _, _, g4, _⟩ := hes i x hi
                      exact g4
                    · obtain ⟨v, hv, _⟩ := hget i x hx j y hy
                      rw [addr_add] at hv
                      rw [Nat.add_assoc, hv]; rfl
                    · obtain ⟨v, hv, hr⟩ := hget i x hx j y hy
                      rw [addr_add] at hv
                      rw [hv]; exact hr
                · obtain ⟨i, hi⟩ := List.getElem?_of_mem hx
                  obtain ⟨_, _, _, g3, _⟩ := hes i x hi
                  exact g3
            · cases h
        | _ => simp at h
      · simp at h
    · rename_i fs hu
      simp only [Bool.and_eq_true, beq_iff_eq] at hpt
      obtain ⟨hend, hall⟩ := hpt
      rw [hu] at h
      simp only at h
      split at h
      · rename_i hlen
        cases hm : fs.toList.mapM (fun f => DataW.trod enc P w base sp held fuel f.type ((cs.drop f.offset).take (P.cellsOf f.type))) with
        | none => rw [hm] at h; simp at h
        | some xs =>
          rw [hm] at h
          simp only [Option.map_some, Option.some.injEq, Prod.mk.injEq] at h
          obtain ⟨rfl, _⟩ := h
          obtain ⟨h1, h2⟩ := mapM_some hm
          simp only [DataW.weights, hu] at hz
          obtain ⟨parts, p1, p2, _, p4, p5⟩ := fields_cells (w := w) (cs := cs) fs.toList (fun i ds => ∃ b, xs[i]? = some b ∧ bulkDs ds ≤ bulkW b.1) hend (by omega) (fun i f hf => by
            obtain ⟨b, hb, hbt⟩ := h2 i f hf
            have hft : f.type ∈ ts := by
              have := List.all_eq_true.1 hall f (List.mem_of_getElem? hf)
              simpa using this
            obtain ⟨ds, g1, g2, g3, g4⟩ := trod_has hp fuel hft (d := b.1) (ps := b.2) hbt (weightsEach_all hz i f.type b.1 (by rw [List.getElem?_map, hf]; rfl) (by rw [List.getElem?_map, hb]; rfl))
            exact ⟨ds, g1, g2, g3, b, hb, g4⟩)
          have hbulk : bulkDss parts ≤ bulkWs (xs.map (·.1)) := bulk_lists (by rw [List.length_map, p1, h1]; exact Nat.le_refl _) (fun i x d hx hd => by
            obtain ⟨b, hb, hle⟩ := p5 i x hx
            rw [List.getElem?_map, hb] at hd
            cases hd
            exact hle)
          have hcs : (cs.drop 0).take (P.cellsOf t - 0) = cs := by rw [List.drop_zero, Nat.sub_zero, ← hlen, List.take_length]
          rw [hcs] at p4
          exact ⟨parts.flatten, p4, .struct hu parts p1 p2, by rw [p4.1, hlen], by rw [bulkDs_flatten]; simp only [bulkW]; omega⟩
      · cases h
    · cases hpt

/-- An argument of one cell. -/
theorem arg_one {held : Bool} {base fuel : Nat} {sp : Nat → Bool} {ts : List TypeId} (hp : closedT P ts = true) {t : TypeId} (ht : t ∈ ts) (hc : P.cellsOf t = 1) {v : Value} {d : DataW H} {ps : List MemPlace} (h1 : v.oneCell' = true)
    (h : DataW.trod enc P w base sp held fuel t v.cells.toList = some (d, ps)) (hz : (d.weights P t).all (· ≤ reachBytes) = true) : ∃ x, RepD (fun b => b < w.heap.size) w x v ∧ HasS P t [x] ∧ bulkD x ≤ bulkW d := by
  obtain ⟨ds, hcd, hh, hl, hbk⟩ := trod_has hp fuel ht h hz
  rw [hc] at hl
  match ds, hl with
  | [x], _ =>
    obtain ⟨u, hu, hr⟩ := hcd.2 0 x rfl
    have : v.cells.toList = [v] := by cases v <;> first | rfl | (simp [Value.oneCell'] at h1)
    rw [this] at hu
    simp at hu
    subst hu
    exact ⟨x, hr, hh, by simpa [bulkDs] using hbk⟩

/-- An argument that is a struct. -/
theorem arg_agg {held : Bool} {base fuel : Nat} {sp : Nat → Bool} {ts : List TypeId} (hp : closedT P ts = true) {t : TypeId} (ht : t ∈ ts) {vs : Array Value} {d : DataW H} {ps : List MemPlace}
    (h : DataW.trod enc P w base sp held fuel t (Value.agg vs).cells.toList = some (d, ps)) (hz : (d.weights P t).all (· ≤ reachBytes) = true) :
    ∃ ds, RV (fun b => b < w.heap.size) w (.agg (ds.map .d)) (.agg vs) ∧ HasS P t ds ∧ bulkDs ds ≤ bulkW d := by
  obtain ⟨ds, hcd, hh, hl, hbk⟩ := trod_has hp fuel ht h hz
  refine ⟨ds, ?_, hh, hbk⟩
  simp only [RV]
  refine ⟨vs, rfl, by have := hcd.1; simpa [Value.cells] using this.symm, fun i c hc => ?_⟩
  rw [List.getElem?_map] at hc
  cases hx : ds[i]? with
  | none => rw [hx] at hc; cases hc
  | some x =>
    rw [hx] at hc
    cases hc
    obtain ⟨u, hu, hr⟩ := hcd.2 i x hx
    exact ⟨u, by simpa [Value.cells] using hu, ⟨x, rfl, hr⟩⟩

end
end Go.Am

/- Slicing; the operations that write. -/
import Derived.Test.YthengcpckdlpgaaAm3
set_option linter.unusedSimpArgs false
set_option linter.unusedVariables false
namespace Go.Am
section
variable {P : Program} {T : Nat → TI} {b₀ : Bs} {β : Loc} {g : Nat → Nat} {ob : Obs} {w : World}

inductive RepO (b₀ : Bs) (β : Loc) (g : Nat → Nat) (ob : Obs) (w : World) : Option AV → Option Value → Prop where
  | none : RepO b₀ β g ob w none none
  | some {x : AV} {v : Value} (h : RepV b₀ β g ob w x v) : RepO b₀ β g ob w (some x) (some v)

theorem run_sliceBound {kd : IntKind} {i : Int} {y : Nat} {c : BoundsCode} (h0 : 0 ≤ i) (h1 : i.toNat ≤ y) : (Instr.sliceBound (.int kd i) y c).run P w = .ok i.toNat w := by
  have : i ≤ y := by omega
  simp [Instr.sliceBound, asIntOf, h0, this]

theorem boundA_inv {o : Option AV} {ov : Option Value} {els : Nat} {K : Nat → Prop} {k : Box K} (h : boundA o els k) (ho : RepO b₀ β g ob w o ov) :
    ∃ n, K n ∧ ((ov = none ∧ n = els) ∨ ∃ kd i, ov = some (.int kd i) ∧ 0 ≤ i ∧ n = i.toNat) := by
  unfold boundA at h
  split at h
  · cases ho
    exact ⟨_, h, .inl ⟨rfl, rfl⟩⟩
  · cases ho with
    | some hv =>
      simp only [RepV, RepC] at hv
      obtain rfl := hv.inv_int
      exact ⟨_, h.2, .inr ⟨_, _, rfl, h.1, rfl⟩⟩
  · exact h.elim

theorem run_sliceBounds {b : Bool} {len cap h l : Nat} {ho lo : Option Value}
    (hh : (ho = none ∧ h = len) ∨ ∃ kd i, ho = some (.int kd i) ∧ 0 ≤ i ∧ h = i.toNat) (hl : (lo = none ∧ l = 0) ∨ ∃ kd i, lo = some (.int kd i) ∧ 0 ≤ i ∧ l = i.toNat)
    (h1 : l ≤ h) (h2 : h ≤ cap) : (Instr.sliceBounds b len cap lo ho none).run P w = .ok (l, h, cap) w := by
  rcases hh with ⟨rfl, rfl⟩ | ⟨kd, i, rfl, hi, rfl⟩ <;> rcases hl with ⟨rfl, rfl⟩ | ⟨kd', i', rfl, hi', rfl⟩ <;>
    simp [Instr.sliceBounds, run_sliceBound, *]

theorem extract_mk (s : List UInt8) (l h : Nat) : (⟨s.toArray⟩ : ByteArray).extract l h = ⟨((s.take h).drop l).toArray⟩ := by
  apply ByteArray.ext
  apply Array.ext'
  rw [ByteArray.data_extract]
  simp [List.drop_take]

theorem sliceA_sound (hT : TabOk P T) {s : St} {t : Nat} {x : AV} {v : Value} {lo hi : Option AV} {lv hv' : Option Value} {K : AV → Prop} {k : Box K}
    (h : sliceA s (isStr (T t).desc) (okSl T t) (elemTI T t).size x lo hi k) (hv : RepV b₀ β s.gen s.obj w x v)
    (hlo : RepO b₀ β s.gen s.obj w lo lv) (hhi : RepO b₀ β s.gen s.obj w hi hv') :
    ∃ y cv, K y ∧ (∀ w', Ext w w' → (Instr.sliceAt t v lv hv' none).run P w' = .ok cv w') ∧ RepV b₀ β s.gen s.obj w y cv := by
  unfold sliceA at h
  split at h
  · rename_i bs
    obtain ⟨hs, h⟩ := h
    obtain ⟨hn, h, hh⟩ := boundA_inv h hhi
    obtain ⟨ln, ⟨h1, h2, hK⟩, hl⟩ := boundA_inv h hlo
    have hu := (hT t (by rw [isStr_of hs]; rfl)).desc
    rw [isStr_of hs] at hu
    simp only [RepV, RepC] at hv
    obtain rfl := hv.inv_str
    refine strRes hK fun w => ?_
    have this := fun w => run_sliceBounds (P := P) (w := w) (b := false) (len := bs.length) (cap := bs.length) hh hl h1 h2
    simp [Instr.sliceAt, run_underlying hu, Instr.slice, size_mk, this, extract_mk]
  · rename_i es
    obtain ⟨hs, h⟩ := h
    obtain ⟨hn, h, hh⟩ := boundA_inv h hhi
    obtain ⟨ln, ⟨h1, h2, hsz, hK⟩, hl⟩ := boundA_inv h hlo
    obtain ⟨e, he1, he2, hu, hte⟩ := okSl_inv hT hs
    rw [he2] at hsz
    simp only [RepV, RepC] at hv
    have hlen : ((es.take hn).drop ln).length = hn - ln := by simp; omega
    cases hv with
    | @sl0 a cap =>
      have h0 : hn = 0 := by simpa using h2
      subst h0
      have h0' : ln = 0 := by omega
      subst h0'
      have this := fun w => run_sliceBounds (P := P) (w := w) (b := true) (len := 0) (cap := cap) hh hl h1 (Nat.zero_le _)
      refine ⟨_, .slice a 0 cap, hK, fun w' _ => ?_, ?_⟩
      · have ha : a.map (fun x => x.add 0) = a := by cases a <;> simp [Addr.add]
        simp [Instr.sliceAt, run_underlying hu, Instr.slice, this, run_sizeOf' hte, ha]
      · simp only [RepV, RepC]; exact .sl0
    | sl vals hcap hJ hs' hcl hrd =>
      rename_i b off cap sz
      have hb := fun w => run_sliceBounds (P := P) (w := w) (b := true) (len := es.length) (cap := cap) hh hl h1 (by omega)
      by_cases hc : cap = ln
      · subst hc
        refine ⟨_, .slice (some ⟨b, off, none⟩) (hn - cap) (cap - cap), hK, fun w' _ => by simp [Instr.sliceAt, run_underlying hu, Instr.slice, hb, run_sizeOf' hte], ?_⟩
        simp only [RepV, RepC]
        have hnil : (es.take hn).drop cap = [] := List.eq_nil_of_length_eq_zero (by rw [hlen]; omega)
        rw [hnil, ← hlen, hnil]
        exact .sl (sz := sz) (fun _ _ => undef) (by simp) (fun h => absurd rfl h) (fun _ h => by cases h) (fun _ _ h => by cases h) (fun _ _ h => by cases h)
      · refine ⟨_, .slice (some ⟨b, off + ln * (T e).size, none⟩) (hn - ln) (cap - ln), hK, fun w' _ => by simp [Instr.sliceAt, run_underlying hu, Instr.slice, hb, run_sizeOf' hte, hc, addr_add], ?_⟩
        simp only [RepV, RepC]
        rw [← hlen]
        have hget : ∀ (i : Nat) (y : List D), ((es.take hn).drop ln)[i]? = some y → es[ln + i]? = some y := fun i y hy => by
          rw [List.getElem?_drop, List.getElem?_take] at hy
          split at hy
          · exact hy
          · cases hy
        by_cases hne : es = []
        · subst hne
          simp only [List.take_nil, List.drop_nil]
          exact .sl (sz := sz) (fun _ _ => undef) (by simp) (fun h => absurd rfl h) (fun _ h => by cases h) (fun _ _ h => by cases h) (fun _ _ h => by cases h)
        · have hsz2 : (T e).size = sz := by
            obtain ⟨y, hy⟩ := List.exists_mem_of_ne_nil es hne
            rw [← hsz y hy, hs' y hy]
          rw [hsz2]
          refine .sl (fun i j => vals (ln + i) j) (by rw [hlen]; omega) (fun _ => hJ hne) (fun y hy => hs' y (List.mem_of_mem_take (List.mem_of_mem_drop hy))) (fun i y hy j z hz => ?_) (fun i y hy j z hz => hrd _ _ (hget i y hy) j z hz)
          have := hcl _ _ (hget i y hy) j z hz
          rw [Nat.add_mul] at this
          rwa [← Nat.add_assoc] at this
  · obtain ⟨hs, h⟩ := h
    obtain ⟨hn, h, hh⟩ := boundA_inv h hhi
    obtain ⟨ln, ⟨rfl, rfl, hK⟩, hl⟩ := boundA_inv h hlo
    obtain ⟨e, he1, he2, hu, hte⟩ := okSl_inv hT hs
    simp only [RepV, RepC] at hv
    obtain rfl := hv.inv_nsl
    have this := fun w => run_sliceBounds (P := P) (w := w) (b := true) (len := 0) (cap := 0) hh hl (Nat.le_refl _) (Nat.le_refl _)
    refine ⟨_, .slice none 0 0, hK, fun w' _ => by simp [Instr.sliceAt, run_underlying hu, Instr.slice, this, run_sizeOf' hte], ?_⟩
    simp only [RepV, RepC]; exact .nsl
  · rename_i id g' sz' off len
    obtain ⟨hs, hg, ho, h⟩ := h
    obtain ⟨hn, h, hh⟩ := boundA_inv h hhi
    obtain ⟨ln, ⟨h1, h2, heq, hK⟩, hl⟩ := boundA_inv h hlo
    obtain ⟨e, he1, he2, hu, hte⟩ := okSl_inv hT hs
    rw [he2] at heq hK
    subst heq
    clear h
    simp only [RepV] at hv
    have hat := osl_live hv hg ho
    cases hβ : β id with
    | none =>
      rw [hβ] at hat
      obtain ⟨rfl, rfl⟩ := hat
      have e1 : hn = 0 := by omega
      have e2 : ln = 0 := by omega
      subst e1; subst e2
      have this := fun w => run_sliceBounds (P := P) (w := w) (b := true) (len := 0) (cap := 0) hh hl (Nat.le_refl _) (Nat.le_refl _)
      refine ⟨_, .slice none 0 0, hK, fun w' _ => by simp [Instr.sliceAt, run_underlying hu, Instr.slice, this, run_sizeOf' hte], ?_⟩
      simp only [RepV, RepC]
      exact ⟨rfl, hv.2.1, fun _ _ => by rw [hβ]; exact ⟨by simp, rfl⟩⟩
    | some ad =>
      rw [hβ] at hat
      obtain ⟨hsp, hat⟩ := hat
      rcases hat with ⟨cap, rfl, hcap, hfit⟩ | ⟨rfl, o, rfl⟩
      · have hb := fun w => run_sliceBounds (P := P) (w := w) (b := true) (len := len) (cap := cap) hh hl h1 (by omega)
        by_cases hc : cap = ln
        · subst hc
          refine ⟨_, .slice (some ⟨ad.block, ad.off + off, none⟩) (hn - cap) (cap - cap), hK, fun w' _ => by simp [Instr.sliceAt, run_underlying hu, Instr.slice, hb, run_sizeOf' hte], ?_⟩
          simp only [RepV, RepC]
          have e1 : hn - cap = 0 := by omega
          refine ⟨rfl, hv.2.1, fun _ _ => ?_⟩
          rw [hβ, e1, Nat.sub_self]
          exact ⟨hsp, .inr ⟨rfl, ad.off + off, rfl⟩⟩
        · refine ⟨_, .slice (some ⟨ad.block, ad.off + off + ln * (T e).size, none⟩) (hn - ln) (cap - ln), hK, fun w' _ => by simp [Instr.sliceAt, run_underlying hu, Instr.slice, hb, run_sizeOf' hte, hc, addr_add], ?_⟩
          simp only [RepV, RepC]
          refine ⟨rfl, hv.2.1, fun _ _ => ?_⟩
          rw [hβ]
          refine ⟨hsp, .inl ⟨cap - ln, by simp [Nat.add_assoc], by omega, fun arr el fr hh' => ?_⟩⟩
          have := hfit arr el fr hh'
          have e3 : cap = ln + (cap - ln) := by omega
          rw [e3, Nat.add_mul] at this
          omega
      · have e1 : hn = 0 := by omega
        have e2 : ln = 0 := by omega
        subst e1; subst e2
        have this := fun w => run_sliceBounds (P := P) (w := w) (b := true) (len := 0) (cap := 0) hh hl (Nat.le_refl _) (Nat.le_refl _)
        refine ⟨_, .slice (some ⟨ad.block, o, none⟩) 0 0, hK, fun w' _ => by simp [Instr.sliceAt, run_underlying hu, Instr.slice, this, run_sizeOf' hte], ?_⟩
        simp only [RepV, RepC]
        exact ⟨rfl, hv.2.1, fun _ _ => by rw [hβ]; exact ⟨hsp, .inr ⟨by simp, o, rfl⟩⟩⟩
  · exact h.elim

end
end Go.Am

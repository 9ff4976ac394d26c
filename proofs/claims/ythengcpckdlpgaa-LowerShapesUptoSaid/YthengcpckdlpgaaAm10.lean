/- Small laws for the walks over abstract code. -/
import Derived.Test.YthengcpckdlpgaaAm9
set_option linter.unusedSimpArgs false
set_option linter.unusedVariables false
namespace Go.Am

theorem tyOk_of {P : Program} {t : Nat} {ti : TI} {z : Value} (hd : P.underlying t = some ti.desc) (hi : (P.info? t).map (fun i => (i.size, i.bytes, i.zero)) = some (ti.size, ti.bytes, some z))
    (hz : z.cells.toList = ti.zero.map dV) (hp : ti.zero.all plainD = true) (hl : ti.zero.length = ti.size) (ha : isAggD ti.desc = true ∨ z = dV (ti.zero.headD .nsl)) : TyOk P t ti := by
  refine ⟨hd, ?_, hp, hl, fun hag i zv h1 h2 => ?_⟩
  rotate_left
  · rw [h1] at hi
    simp only [Option.map_some, Option.some.injEq, Prod.mk.injEq] at hi
    have : zv = z := by simpa [h2] using hi.2.2
    rcases ha with ha | ha
    · rw [hag] at ha; cases ha
    · rw [this, ha]
  cases h : P.info? t with
  | none => rw [h] at hi; cases hi
  | some i =>
    rw [h] at hi
    simp only [Option.map_some, Option.some.injEq, Prod.mk.injEq] at hi
    exact ⟨i, rfl, hi.1, hi.2.1, z, hi.2.2, hz⟩

/-- A loop. -/
theorem loop_intro {P : Program} {B : (Exit → St → Prop) → St → Prop} {b : Box B} {Q : Exit → St → Prop} {q : Box Q} {s : St} (I : Nat → St → Prop) (n : Nat) (h0 : I n s)
    (hr : ∀ n f g ob, I n ⟨f, g, ob⟩ → B (thenA (bx fun s' => ∃ n' s₁, n' < n ∧ (sp P).vs s' s₁ ∧ I n' s₁) q) ⟨f, g, ob⟩) : LoopA (sp P) b q s :=
  ⟨I, ⟨n, s, SemVs.refl s, h0⟩, fun n s hs => hr n s.f s.gen s.obj hs⟩

theorem round_end {P : Program} {I : Nat → St → Prop} {n : Nat} {s : St} (n' : Nat) (h : n' < n) (hI : I n' s) : ∃ n' s₁, n' < n ∧ (sp P).vs s s₁ ∧ I n' s₁ := ⟨n', s, h, SemVs.refl s, hI⟩

theorem draw_intro {P : Program} {T : Nat → TI} {id : Nat} {ops : Array Oper} {s : St} {Q : Exit → St → Prop} {q : Box Q} (hok : drawOk ops = true) (h : wpO (sp P) T ops ops.toList s (bx fun s' => Q .normal s')) : DrawA (sp P) T id ops s q := .inl ⟨hok, h⟩

/-- A call, by its contract, as the walk meets it. -/
theorem hook_call {P : Program} {o : Oper} {s : St} {K : St → Prop} {k : Box K} {f : FuncId} {args : Array Operand} {tys : Array TypeId} (ho : o.op = .call ⟨.value (.func f), args, tys⟩) {R : AV → Prop}
    (hp : PureR P f (args.toList.map s.ev) R) (hd : (args.toList.map s.ev).all dataAV = true) (hk : ∀ r, R r → K (s.put o.dst r)) : hookA (sp P) o s k :=
  ⟨_, call_pure ho hp hd, fun _ ⟨r, hr, e⟩ => e ▸ hk r hr⟩

theorem ret_one {s : St} {R : AV → Prop} {t : Nat} {x : D} (h : s.f t = .one (.d x)) (hR : R (.one (.d (normD x)))) : RetQ [t] R .ret s := ⟨_, by rw [h]; exact ⟨_, Frz.d x, rfl⟩, hR⟩

theorem wrap_i64 (n : Int) (h0 : -9223372036854775808 ≤ n) (h1 : n ≤ 9223372036854775807) : IntKind.i64.wrap n = n := by rw [IntKind.wrap_i64]; omega
/-! Results. -/
theorem frz_d {s : St} {x y : D} : Frz s (.d x) y ↔ y = normD x := ⟨fun h => by cases h; rfl, fun h => h ▸ .d x⟩
@[go_sem] theorem ret_d {s : St} {x : D} {R : AV → Prop} : (∃ r, FrzV s (.one (.d x)) r ∧ R r) = R (.one (.d (normD x))) := by
  apply propext
  constructor
  · rintro ⟨r, ⟨y, hy, rfl⟩, hR⟩; rw [frz_d] at hy; subst hy; exact hR
  · intro h; exact ⟨_, ⟨_, .d x, rfl⟩, h⟩
@[go_sem] theorem rets_nil {s : St} {R : List AV → Prop} : (∃ rs, FrzVs s [] rs ∧ R rs) = R [] := by simp [FrzVs]
@[go_sem] theorem rets_cons {s : St} {t : AV} {ts : List AV} {R : List AV → Prop} : (∃ rs, FrzVs s (t :: ts) rs ∧ R rs) = ∃ r, FrzV s t r ∧ ∃ rs, FrzVs s ts rs ∧ R (r :: rs) := by
  apply propext
  simp only [FrzVs]
  constructor
  · rintro ⟨_, ⟨r, rs', rfl, h1, h2⟩, hR⟩; exact ⟨r, h1, rs', h2, hR⟩
  · rintro ⟨r, h1, rs', h2, hR⟩; exact ⟨_, ⟨r, rs', rfl, h1, h2⟩, hR⟩
@[go_sem] theorem RetQ_one {s : St} {t : Nat} {R : AV → Prop} : RetQ [t] R .ret s = ∃ r, FrzV s (s.f t) r ∧ R r := Eq.trans rfl rfl
@[go_sem] theorem RetQ_two {s : St} {t u : Nat} {R : AV → Prop} : RetQ [t, u] R .ret s = ∃ rs, FrzVs s [s.f t, s.f u] rs ∧ R (.tup rs) := Eq.trans rfl rfl
@[go_sem] theorem RetQ_three {s : St} {t u v : Nat} {R : AV → Prop} : RetQ [t, u, v] R .ret s = ∃ rs, FrzVs s [s.f t, s.f u, s.f v] rs ∧ R (.tup rs) := Eq.trans rfl rfl
@[go_sem] theorem RetQ_norm {s : St} {ts : List Nat} {R : AV → Prop} : RetQ ts R .normal s = RetQ ts R .ret s := Eq.trans rfl rfl
@[go_sem] theorem normD_bool (b : Bool) : normD (.bool b) = .bool b := Eq.trans rfl rfl
@[go_sem] theorem normD_int (k : IntKind) (n : Int) : normD (.int k n) = .int k n := Eq.trans rfl rfl
@[go_sem] theorem normD_str (s : List UInt8) : normD (.str s) = .str s := Eq.trans rfl rfl
@[go_sem] theorem normD_nsl : normD .nsl = .sl [] := Eq.trans rfl rfl
@[go_sem] theorem normD_sl (es : List (List D)) : normD (.sl es) = .sl es := Eq.trans rfl rfl
attribute [go_sem] AV.one.injEq AV.tup.injEq AV.agg.injEq C.d.injEq D.bool.injEq D.int.injEq D.str.injEq D.sl.injEq List.cons.injEq true_implies false_implies forall_const and_self
attribute [go_sem] Int.ofNat_lt Int.ofNat_le Int.natCast_nonneg initF

theorem wrap_succ {k : Nat} (h : k ≤ 4000000000000000000) : IntKind.i64.wrap ((k : Int) + 1) = ((k + 1 : Nat) : Int) := by rw [IntKind.wrap_i64] <;> omega

end Go.Am

/- Stack code of programs without names, in plain Lean: what is written may be (depths). -/
set_option linter.unusedSimpArgs false
set_option linter.unusedVariables false
namespace Go.Lower

structure Ins where
  op : Int
  a : Int
  b : Int
  n : Int
inductive Ex where
  | mk (kind op num slot size : Int) (kids : List Ex)
inductive Stm where
  | mk (kind slot size : Int) (e : List Ex) (th el : List Stm)

/-- What is known of the functions: parameters, and whether there is a value. -/
abbrev Sig := List (Int × Bool)

def within (w a n : Int) : Prop := 0 ≤ a ∧ 0 ≤ n ∧ a ≤ w ∧ n ≤ w - a
def callee (ps : Sig) (f : Nat) (g : Int) (args : Nat) (word : Bool) : Prop := ∃ k : Nat, g = (k : Int) ∧ k < f ∧ ps[k]? = some ((args : Int), word)

/-- What an expression must be, apart from its kids. -/
def okE (w : Int) (ps : Sig) (f : Nat) (lv : Int) (kind op num slot size : Int) (n : Nat) : Prop :=
  lv ≤ 24 ∧ (kind = 1 ∨ num = 0) ∧ (kind = 6 ∨ op = 0) ∧ (kind = 3 ∨ size = 0) ∧ (kind = 2 ∨ kind = 3 ∨ kind = 4 ∨ slot = 0) ∧
  (((kind = 1 ∨ kind = 5) ∧ n = 0) ∨ (kind = 2 ∧ within w slot 1 ∧ n = 0) ∨ (kind = 3 ∧ 1 ≤ size ∧ size ≤ 4096 ∧ within w slot size ∧ n = 1) ∨
   (kind = 4 ∧ callee ps f slot n true) ∨ (kind = 6 ∧ 4 ≤ op ∧ op ≤ 15 ∧ n = 2) ∨ (kind = 7 ∧ n = 1) ∨ ((kind = 8 ∨ kind = 9) ∧ n = 2))

mutual
def rE (w : Int) (ps : Sig) (f : Nat) (lv : Int) : Ex → Prop
  | .mk kind op num slot size kids => okE w ps f lv kind op num slot size kids.length ∧ rEs w ps f (lv + 1) kids
def rEs (w : Int) (ps : Sig) (f : Nat) (lv : Int) : List Ex → Prop
  | [] => True
  | e :: l => rE w ps f lv e ∧ rEs w ps f lv l
end

def okS (w : Int) (ps : Sig) (f : Nat) (word : Bool) (lv : Int) (kind slot size : Int) (n nt ne : Nat) : Prop :=
  lv ≤ 24 ∧ (kind = 2 ∨ size = 0) ∧ (kind = 1 ∨ kind = 2 ∨ kind = 6 ∨ slot = 0) ∧ (kind = 4 ∨ ne = 0) ∧ (kind = 4 ∨ kind = 5 ∨ nt = 0) ∧
  ((kind = 1 ∧ within w slot 1 ∧ n = 1) ∨ (kind = 2 ∧ 1 ≤ size ∧ size ≤ 4096 ∧ within w slot size ∧ n = 2) ∨ ((kind = 3 ∨ kind = 4 ∨ kind = 5) ∧ n = 1) ∨
   (kind = 6 ∧ callee ps f slot n false) ∨ (kind = 7 ∧ (n = 0 ∨ (word = true ∧ n = 1))))

mutual
def rS (w : Int) (ps : Sig) (f : Nat) (word : Bool) (lv : Int) : Stm → Prop
  | .mk kind slot size e th el => okS w ps f word lv kind slot size e.length th.length el.length ∧ rEs w ps f (lv + 1) e ∧ rSs w ps f word (lv + 1) th ∧ rSs w ps f word (lv + 1) el
def rSs (w : Int) (ps : Sig) (f : Nat) (word : Bool) (lv : Int) : List Stm → Prop
  | [] => True
  | e :: l => rS w ps f word lv e ∧ rSs w ps f word lv l
end

/-- Code, each instruction with the depth ahead of it. -/
abbrev Code := List (Ins × Int)

def one (kind op num slot size : Int) (d : Int) : Code :=
  if kind = 1 then [(⟨1, 0, 0, num⟩, d)] else if kind = 2 then [(⟨2, slot, 0, 0⟩, d)] else if kind = 3 then [(⟨4, slot, size, 0⟩, d)] else if kind = 4 then [(⟨10, slot, 0, 0⟩, d)]
  else if kind = 5 then [(⟨12, 0, 0, 0⟩, d)] else if kind = 6 then [(⟨6, op, 0, 0⟩, d)] else if kind = 7 then [(⟨7, 0, 0, 0⟩, d)] else []

/-- An && or an ||, of its sides' codes. -/
def notIf (kind d : Int) : Code := if kind = 8 then [(⟨7, 0, 0, 0⟩, d + 1)] else []
def joinE (at' : Nat) (d kind : Int) (c0 : Code) (c1 : Nat → Code) : Code :=
  let r := at' + c0.length + (notIf kind d).length
  c0 ++ (notIf kind d ++ ((⟨9, (r + 3 : Nat), 0, 0⟩, d + 1) :: (⟨1, 0, 0, if kind = 8 then 0 else 1⟩, d) :: (⟨8, (r + 3 + (c1 (r + 3)).length + 2 : Nat), 0, 0⟩, d + 1) :: (c1 (r + 3) ++ [(⟨7, 0, 0, 0⟩, d + 1), (⟨7, 0, 0, 0⟩, d + 1)])))

mutual
def cE (at' : Nat) (d : Int) : Ex → Code
  | .mk kind op num slot size kids =>
    if kind = 8 ∨ kind = 9 then cAO at' d kind kids
    else cEs at' d kids ++ one kind op num slot size (d + kids.length)
def cEs (at' : Nat) (d : Int) : List Ex → Code
  | [] => []
  | e :: l => cE at' d e ++ cEs (at' + (cE at' d e).length) (d + 1) l
def cAO (at' : Nat) (d kind : Int) : List Ex → Code
  | [] => []
  | e :: l => joinE at' d kind (cE at' d e) (fun r => c1st r d l)
def c1st (at' : Nat) (d : Int) : List Ex → Code
  | [] => []
  | e :: _ => cE at' d e
end

def takes (ps : Sig) (word : Bool) (x : Ins) : Option (Int × Int) :=
  if x.op = 1 ∨ x.op = 2 ∨ x.op = 12 then some (0, 1) else if x.op = 3 ∨ x.op = 9 ∨ x.op = 13 then some (1, 0) else if x.op = 4 ∨ x.op = 7 then some (1, 1)
  else if x.op = 5 then some (2, 0) else if x.op = 6 then some (2, 1) else if x.op = 8 then some (0, 0)
  else if x.op = 10 then (if x.a < 0 then none else (ps[x.a.toNat]?).map fun p => (p.1, if p.2 then 1 else 0))
  else if x.op = 11 then some (if word then (1, 0) else (0, 0)) else none
def next (x : Ins) (at' : Nat) : List Int := if x.op = 8 then [x.a] else if x.op = 9 then [((at' + 1 : Nat) : Int), x.a] else if x.op = 11 then [] else [((at' + 1 : Nat) : Int)]

def OkI (ps : Sig) (word : Bool) (T : Nat → Option Int) (at' : Nat) (x : Ins) (d : Int) : Prop :=
  ∃ t p, takes ps word x = some (t, p) ∧ 0 ≤ t ∧ t ≤ d ∧ (x.op = 11 → d = t) ∧ ∀ k ∈ next x at', ∃ k' : Nat, k = (k' : Int) ∧ T k' = some (d - t + p)
def Seg (T : Nat → Option Int) : Nat → Code → Prop
  | _, [] => True
  | at', (_, d) :: c => T at' = some d ∧ Seg T (at' + 1) c
def Good (ps : Sig) (word : Bool) (T : Nat → Option Int) : Nat → Code → Prop
  | _, [] => True
  | at', (x, d) :: c => OkI ps word T at' x d ∧ Good ps word T (at' + 1) c

theorem seg_app {T : Nat → Option Int} : ∀ {a b : Code} {at' : Nat}, Seg T at' (a ++ b) ↔ Seg T at' a ∧ Seg T (at' + a.length) b
  | [], b, at' => by simp [Seg]
  | (x, d) :: a, b, at' => by simp only [List.cons_append, Seg, seg_app (a := a), List.length_cons, and_assoc]; rw [show at' + (a.length + 1) = at' + 1 + a.length by omega]
theorem good_app {ps : Sig} {word : Bool} {T : Nat → Option Int} : ∀ {a b : Code} {at' : Nat}, Good ps word T at' (a ++ b) ↔ Good ps word T at' a ∧ Good ps word T (at' + a.length) b
  | [], b, at' => by simp [Good]
  | (x, d) :: a, b, at' => by simp only [List.cons_append, Good, good_app (a := a), List.length_cons, and_assoc]; rw [show at' + (a.length + 1) = at' + 1 + a.length by omega]

theorem rEs_mem {w : Int} {ps : Sig} {f : Nat} {lv : Int} : ∀ {l : List Ex}, rEs w ps f lv l → ∀ e ∈ l, rE w ps f lv e
  | e :: l, h, e', he => by
    rw [rEs] at h
    rcases List.mem_cons.1 he with rfl | he
    · exact h.1
    · exact rEs_mem h.2 e' he

end Go.Lower

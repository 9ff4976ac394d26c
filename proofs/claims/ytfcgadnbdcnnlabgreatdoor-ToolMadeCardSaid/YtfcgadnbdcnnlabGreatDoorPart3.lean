/- A part of the proof; no conditions. -/
import Derived.Test.YtfcgadnbdcnnlabGreatDoorPart2
set_option linter.unusedSimpArgs false
set_option linter.unusedVariables false
namespace Go.Am
def GuardOk (ops:Array Oper) (o:Oper) (s:St):Prop:=match o.guard with | none=>True | some (j,w)=>∃ d,((ops[j]?).bind (·.dst)) = some d ∧ s.f d = bv w
def GdE (ops:Array Oper) (e:Ent) (s:St):Prop:=match e.o.guard with | none=>True | some (j,w)=>∃ d,((ops[j]?).bind (·.dst)) = some d ∧ d ∈ e.rd ∧ s.f d = bv w
theorem GdE.ok {ops:Array Oper} {e:Ent} {s s':St} (h:GdE ops e s) (hr:∀ r ∈ e.rd,s'.f r = s.f r):GuardOk ops e.o s':=by
 unfold GdE at h
 unfold GuardOk
 cases hg:e.o.guard with
 | none=>trivial
 | some p =>
   obtain ⟨j,w⟩:=p
   rw [hg] at h
   obtain ⟨d,h1,h2,h3⟩:=h
   exact ⟨d,h1,by rw [hr d h2]; exact h3⟩
def StepG (S:Sp) (T:Nat → TI) (ops:Array Oper) (ids:List Nat) (e:Ent) (s:St) (v:AV) (m:List (Nat × Option (List C))):Prop:=StepE S T ids e s v m ∧ GdE ops e s
def LastG (S:Sp) (T:Nat → TI) (ops:Array Oper) (e:Ent) (s:St) (K:St → Prop):Prop:=LastE S T e.o s K ∧ GdE ops e s
def wpDetG (S:Sp) (T:Nat → TI) (ops:Array Oper) (ids:List Nat):List Ent → St → {K:St → Prop} → Box K → Prop
 | [],s,K,_=>K s
 | e :: r,s,K,k=>match e.full with
   | true=>LastG S T ops e s K
   | false=>∃ v m,(m.length = e.ef.length ∧ StepG S T ops ids e s v m) ∧ wpDetG S T ops ids r (effS ids e v m s) k
theorem det_traceG {S:Sp} {T:Nat → TI} {ops:Array Oper} {ids:List Nat} {K:St → Prop} {k:Box K}:∀ (l:List Ent) (s:St),wpDetG S T ops ids l s k → (∀ i e,l[i]? = some e → e.full = true → i + 1 = l.length) →
  ∃ t:Nat → St,t 0 = s ∧ (∀ i e,l[i]? = some e → e.full = false → ∃ v m,(m.length = e.ef.length ∧ StepG S T ops ids e (t i) v m) ∧ t (i + 1) = effS ids e v m (t i)) ∧ (∀ i e,l[i]? = some e → e.full = true → LastG S T ops e (t i) K) ∧
   ((∀ (i:Nat) (e:Ent),l[i]? = some e → e.full = false) → K (t l.length))
 | [],s,h,_=>⟨fun _=>s,rfl,fun i e hi=>(by simp at hi),fun i e hi=>(by simp at hi),fun _=>h⟩
 | e :: r,s,h,hl=>by
   unfold wpDetG at h
   cases hf:e.full with
   | true =>
     rw [hf] at h
     have h0:=hl 0 e rfl hf
     have:r = []:=List.eq_nil_of_length_eq_zero (by simpa using h0)
     subst this
     refine ⟨fun _=>s,rfl,fun i e' hi hf'=>?_,fun i e' hi _=>?_,fun ha=>?_⟩
     ·cases i with
      | zero=>simp at hi; subst hi; rw [hf] at hf'; cases hf'
      | succ i=>simp at hi
     ·cases i with
      | zero=>simp at hi; subst hi; exact h
      | succ i=>simp at hi
     ·have:=ha 0 e rfl; rw [hf] at this; cases this
   | false =>
     rw [hf] at h
     obtain ⟨v,m,hs,hr⟩:=h
     obtain ⟨t,t0,t1,t2,t3⟩:=det_traceG r _ hr (fun i e' hi hf'=>by have:=hl (i + 1) e' (by simpa using hi) hf'; simpa using this)
     refine ⟨fun i=>match i with | 0=>s | i + 1=>t i,rfl,fun i e' hi hf'=>?_,fun i e' hi hf'=>?_,fun ha=>?_⟩
     ·cases i with
      | zero=>simp at hi; subst hi; exact ⟨v,m,hs,t0⟩
      | succ i=>exact t1 i e' (by simpa using hi) hf'
     ·cases i with
      | zero=>simp at hi; subst hi; rw [hf] at hf'; cases hf'
      | succ i=>exact t2 i e' (by simpa using hi) hf'
     ·exact t3 (fun i e' hi=>ha (i + 1) e' (by rw [List.getElem?_cons_succ]; exact hi))
def okDetTG (ops:Array Oper) (tb:List (List Nat × List Nat × List Nat × Bool)) (nid:Nat) (tab:List (List Nat)):Bool :=
 backB ops && clOk ops tab && (tb.length == ops.size) &&
 (List.range ops.size).all fun i=>(((ops[i]?).bind fun o=>(tb[i]?).map fun t =>
   (t.1.all fun r=>(List.range ops.size).all fun j=>inCl tab i j || ((ops[j]?).map fun o'=>decide (o'.dst ≠ some r)).getD false) &&
   ((List.range ops.size).all fun j=>i == j || ((ops[j]?).map fun o'=>o'.dst.isNone || decide (o'.dst ≠ o.dst)).getD false) &&
   ((List.range nid).all fun a=>t.2.1.contains a || (List.range ops.size).all fun j=>inCl tab i j || inCl tab j i || i == j || ((tb[j]?).map fun t'=>!t'.2.2.1.contains a).getD false) &&
   (t.2.1.all fun a=>decide (a < nid)) && (t.2.2.1.all fun a=>decide (a < nid)) && (t.2.2.1.all fun a=>(List.range ops.size).all fun j=>inCl tab i j || inCl tab j i || i == j || ((tb[j]?).map fun t'=>!t'.2.2.1.contains a).getD false) &&
   (!t.2.2.2 || (i + 1 == ops.size && (List.range i).all fun j=>inCl tab i j))).getD false)
def okDetG (ops:Array Oper) (tb:List (List Nat × List Nat × List Nat × Bool)) (nid:Nat):Bool:=okDetTG ops tb nid (clTab ops)
section
variable {P:Program} {T:Nat → TI} {b₀:Bs} {β:Loc} {w:World}
theorem det_invG {S:Sp} {ops:Array Oper} {s:St} {Q:Exit → St → Prop} (ids:List Nat) (tb:List (List Nat × List Nat × List Nat × Bool)) (nid:Nat) (hok:okDetG ops tb nid = true) (hnid:ids.length = nid) (hnd:ids.Nodup)
  (h:wpDetG S T ops ids (zipE ops.toList tb) s (bx fun s'=>Q .normal s')):backB ops = true ∧ ∃ I:(Nat → Bool) → St → Prop,I (fun _=>false) s ∧
    (∀ (L:Nat → Bool) (s:St) (i:Nat) (o:Oper),I L s → ops[i]? = some o → L i = false → (∀ e ∈ o.after.toList,Region.binds .any e = true → L e.on = true) →
      (∀ j o',L j = true → ops[j]? = some o' → ∀ e ∈ o'.after.toList,Region.binds .any e = true → L e.on = true) → GuardOk ops o s ∧ opA S T o s (bx fun s'=>I (upd L i true) s')) ∧
    (∀ L s',I L s' → (∀ i,i < ops.size → L i = true) → Q .normal s'):=by
 subst hnid
 unfold okDetG okDetTG at hok
 generalize clTab ops = tab at hok
 simp only [Bool.and_eq_true,beq_iff_eq] at hok
 obtain ⟨⟨⟨hbk,hcl⟩,htl⟩,hall⟩:=hok
 have hzl:(zipE ops.toList tb).length = ops.size:=by rw [zipE_len (by simpa using htl)]; simp
 have hent:∀ i,i < ops.size → ∃ e,(zipE ops.toList tb)[i]? = some e ∧ ops[i]? = some e.o ∧ tb[i]? = some (e.rd,e.hd,e.ef,e.full):=fun i hi=>by
  have h1:i < (zipE ops.toList tb).length:=by omega
  refine ⟨_,List.getElem?_eq_getElem h1,?_⟩
  have:=zipE_get (List.getElem?_eq_getElem h1)
  simpa using this
 have hinj:∀ a b,a < ids.length → b < ids.length → ids.getD a 0 = ids.getD b 0 → a = b:=fun a b ha hb e=>by
  rw [List.getD_eq_getElem?_getD,List.getD_eq_getElem?_getD,List.getElem?_eq_getElem ha,List.getElem?_eq_getElem hb] at e
  simp only [Option.getD_some] at e
  exact (List.getElem_inj hnd).1 e
 -- the checks,by operation
 have hchk:∀ (i:Nat) (e:Ent),i < ops.size → ops[i]? = some e.o → tb[i]? = some (e.rd,e.hd,e.ef,e.full) →
   (∀ r ∈ e.rd,∀ (j:Nat) (e':Oper),j < ops.size → ops[j]? = some e' → e'.dst = some r → inCl tab i j = true) ∧
   (∀ (j:Nat) (o':Oper),j < ops.size → j ≠ i → ops[j]? = some o' → o'.dst = none ∨ o'.dst ≠ e.o.dst) ∧
   (∀ a,a < ids.length → a ∉ e.hd → ∀ j t',j < ops.size → tb[j]? = some t' → a ∈ t'.2.2.1 → inCl tab i j = true ∨ inCl tab j i = true ∨ i = j) ∧
   (∀ a ∈ e.hd,a < ids.length) ∧ (∀ a ∈ e.ef,a < ids.length) ∧
   (∀ a ∈ e.ef,∀ j t',j < ops.size → tb[j]? = some t' → a ∈ t'.2.2.1 → inCl tab i j = true ∨ inCl tab j i = true ∨ i = j) ∧
   (e.full = true → i + 1 = ops.size ∧ ∀ j,j < i → inCl tab i j = true):=by
  intro i e hi ho ht
  have h1:=List.all_eq_true.1 hall i (List.mem_range.2 hi)
  rw [ho,ht] at h1
  simp only [Option.bind_some,Option.map_some,Option.getD_some,Bool.and_eq_true] at h1
  obtain ⟨⟨⟨⟨⟨⟨c1,c2⟩,c3⟩,c4⟩,c5⟩,c6⟩,c7⟩:=h1
  refine ⟨fun r hr j o' hj hoj hd=>?_,fun j o' hj hne hoj=>?_,fun a ha hna j t' hj htj hat=>?_,fun a ha=>?_,fun a ha=>?_,fun a ha j t' hj htj hat=>?_,fun hf=>?_⟩
  ·have:=List.all_eq_true.1 (List.all_eq_true.1 c1 r hr) j (List.mem_range.2 hj)
   rw [hoj] at this
   simp only [Option.map_some,Option.getD_some,Bool.or_eq_true,decide_eq_true_eq] at this
   rcases this with h | h
   ·exact h
   ·exact absurd hd h
  ·have:=List.all_eq_true.1 c2 j (List.mem_range.2 hj)
   rw [hoj] at this
   simp only [Option.map_some,Option.getD_some,Bool.or_eq_true,decide_eq_true_eq,beq_iff_eq,Option.isNone_iff_eq_none] at this
   rcases this with h | h | h
   ·exact absurd h.symm hne
   ·exact .inl h
   ·exact .inr h
  ·have:=List.all_eq_true.1 c3 a (List.mem_range.2 ha)
   simp only [Bool.or_eq_true,List.contains_iff_mem,List.all_eq_true,List.mem_range] at this
   rcases this with h | h
   ·exact absurd h hna
   ·have:=h j hj
    rw [htj] at this
    simp only [Option.map_some,Option.getD_some,beq_iff_eq,Bool.not_eq_true'] at this
    rcases this with ((h | h) | h) | h
    ·exact .inl h
    ·exact .inr (.inl h)
    ·exact .inr (.inr h)
    ·rw [List.contains_iff_mem.2 hat] at h; cases h
  ·exact of_decide_eq_true (List.all_eq_true.1 c4 a ha)
  ·exact of_decide_eq_true (List.all_eq_true.1 c5 a ha)
  ·have:=List.all_eq_true.1 (List.all_eq_true.1 c6 a ha) j (List.mem_range.2 hj)
   rw [htj] at this
   simp only [Option.map_some,Option.getD_some,Bool.or_eq_true,beq_iff_eq,Bool.not_eq_true'] at this
   rcases this with ((h | h) | h) | h
   ·exact .inl h
   ·exact .inr (.inl h)
   ·exact .inr (.inr h)
   ·rw [List.contains_iff_mem.2 hat] at h; cases h
  ·rw [hf] at c7
   simp only [Bool.not_true,Bool.false_or,Bool.and_eq_true,beq_iff_eq,List.all_eq_true,List.mem_range] at c7
   exact c7
 have hfull:∀ (i:Nat) (e:Ent),(zipE ops.toList tb)[i]? = some e → e.full = true → i + 1 = (zipE ops.toList tb).length:=fun i e hi hf=>by
  have hlt:i < ops.size:=by rw [← hzl]; exact (List.getElem?_eq_some_iff.1 hi).1
  have h2:=zipE_get hi
  rw [hzl]
  exact ((hchk i e hlt (by simpa using h2.1) h2.2).2.2.2.2.2.2 hf).1
 obtain ⟨t,t0,t1,t2,t3⟩:=det_traceG _ _ h hfull
 let dst:Nat → Option Nat:=fun i=>(ops[i]?).bind (·.dst)
 let ef:Nat → List Nat:=fun i=>((tb[i]?).map (·.2.2.1)).getD []
 -- how the trace goes
 have tf:∀ (i:Nat) (e:Ent),i < ops.size → (zipE ops.toList tb)[i]? = some e → e.full = false → ∀ d,dst i ≠ some d → (t (i + 1)).f d = (t i).f d:=fun i e hi he hf d hd=>by
  obtain ⟨v,m,_,h2⟩:=t1 i e he hf
  rw [h2]
  have h3:ops[i]? = some e.o:=by simpa using (zipE_get he).1
  simp only [dst,h3,Option.bind_some] at hd
  simp only [effS]
  cases hq:e.o.dst with
  | none=>rfl
  | some d'=>simp only [putF,upd]; rw [if_neg (fun e'=>hd (by rw [hq,e']))]
 have tm:∀ (i:Nat) (e:Ent),i < ops.size → (zipE ops.toList tb)[i]? = some e → e.full = false → ∀ id,(∀ a ∈ ef i,ids.getD a 0 ≠ id) → (t (i + 1)).gen id = (t i).gen id ∧ (t (i + 1)).obj id = (t i).obj id:=fun i e hi he hf id hd=>by
  obtain ⟨v,m,_,h2⟩:=t1 i e he hf
  rw [h2]
  have h3:=(zipE_get he).2
  simp only [ef,h3,Option.map_some,Option.getD_some] at hd
  simp only [effS]
  exact ⟨setm_other hd,setm_other hd⟩
 -- how many are walked by themselves
 obtain ⟨N,hN,hNf,hNl⟩:∃ N,N ≤ ops.size ∧ (∀ (i:Nat) (e:Ent),i < N → (zipE ops.toList tb)[i]? = some e → e.full = false) ∧ (N = ops.size ∨ (N + 1 = ops.size ∧ ∃ e,(zipE ops.toList tb)[N]? = some e ∧ e.full = true)):=by
  by_cases hlast:∃ (i:Nat) (e:Ent),(zipE ops.toList tb)[i]? = some e ∧ e.full = true
  ·obtain ⟨i,e,he,hf⟩:=hlast
   have h1:=hfull i e he hf
   rw [hzl] at h1
   refine ⟨i,by omega,fun j e' hj hj'=>?_,.inr ⟨h1,e,he,hf⟩⟩
   cases hq:e'.full with
   | false=>rfl
   | true=>have:=hfull j e' hj' hq; rw [hzl] at this; omega
  ·refine ⟨ops.size,Nat.le_refl _,fun j e' hj hj'=>?_,.inl rfl⟩
   cases hq:e'.full with
   | false=>rfl
   | true=>exact absurd ⟨j,e',hj',hq⟩ hlast
 have tfs:∀ (d k i:Nat),i ≤ k → k ≤ N → (∀ j,i ≤ j → j < k → dst j ≠ some d) → (t k).f d = (t i).f d:=by
  intro d k
  induction k with
  | zero=>intro i hi _ _; rw [show i = 0 by omega]
  | succ k ih =>
    intro i hi hk hd
    by_cases hik:i = k + 1
    ·subst hik; rfl
    ·obtain ⟨e,he,_,_⟩:=hent k (by omega)
     rw [tf k e (by omega) he (hNf k e (by omega) he) d (hd k (by omega) (by omega))]
     exact ih i (by omega) (by omega) (fun j h1 h2=>hd j h1 (by omega))
 have tms:∀ (id k i:Nat),i ≤ k → k ≤ N → (∀ j,i ≤ j → j < k → ∀ a ∈ ef j,ids.getD a 0 ≠ id) → (t k).gen id = (t i).gen id ∧ (t k).obj id = (t i).obj id:=by
  intro id k
  induction k with
  | zero=>intro i hi _ _; rw [show i = 0 by omega]; exact ⟨rfl,rfl⟩
  | succ k ih =>
    intro i hi hk hd
    by_cases hik:i = k + 1
    ·subst hik; exact ⟨rfl,rfl⟩
    ·obtain ⟨e,he,_,_⟩:=hent k (by omega)
     obtain ⟨m1,m2⟩:=tm k e (by omega) he (hNf k e (by omega) he) id (hd k (by omega) (by omega))
     rw [m1,m2]
     exact ih i (by omega) (by omega) (fun j h1 h2=>hd j h1 (by omega))
 have hdist:∀ (i j d:Nat),i < ops.size → j < ops.size → dst i = some d → dst j = some d → i = j:=fun i j d hi hj h1 h2=>by
  rcases Nat.lt_or_ge i j with hij | hij
  ·exfalso
   obtain ⟨e,he,ho,htb⟩:=hent i hi
   obtain ⟨e',he',ho',htb'⟩:=hent j hj
   simp only [dst,ho,ho',Option.bind_some] at h1 h2
   rcases (hchk i e hi ho htb).2.1 j e'.o hj (by omega) ho' with h | h
   ·rw [h] at h2; cases h2
   ·exact h (by rw [h1,h2])
  ·rcases Nat.lt_or_ge j i with hji | hji
   ·exfalso
    obtain ⟨e,he,ho,htb⟩:=hent i hi
    obtain ⟨e',he',ho',htb'⟩:=hent j hj
    simp only [dst,ho,ho',Option.bind_some] at h1 h2
    rcases (hchk i e hi ho htb).2.1 j e'.o hj (by omega) ho' with h | h
    ·rw [h] at h2; cases h2
    ·exact h (by rw [h1,h2])
   ·omega
 -- where all have come up,it is the text's state
 have hsame:∀ (k:Nat) (L:Nat → Bool) (s':St),k = N → (∀ i,i < k → L i = true) → DetI N dst ef ids t L s' → s' = t k:=by
  rintro k L ⟨f',g',o'⟩ rfl hL hI
  have h1:f' = (t k).f:=by
   funext d
   by_cases hd:∃ i,i < k ∧ dst i = some d
   ·obtain ⟨i,hi,hd⟩:=hd
    rw [show f' d = _ from hI.f i d hi hd (hL i hi)]
    exact (tfs d k (i + 1) (by omega) (Nat.le_refl _) (fun j h1 h2 h3=>by have:=hdist i j d (by omega) (by omega) hd h3; omega)).symm
   ·have h0:∀ i,i < k → dst i ≠ some d:=fun i hi h=>hd ⟨i,hi,h⟩
    rw [show f' d = _ from hI.f0 d h0]
    exact (tfs d k 0 (by omega) (Nat.le_refl _) (fun j _ h2=>h0 j h2)).symm
  have h2:g' = (t k).gen:=funext fun id=>(hI.m id k (Nat.le_refl _) (fun j a hj _ _=>⟨fun _=>hj,fun _=>hL j hj⟩)).1
  have h3:o' = (t k).obj:=funext fun id=>(hI.m id k (Nat.le_refl _) (fun j a hj _ _=>⟨fun _=>hj,fun _=>hL j hj⟩)).2
  rw [h1,h2,h3]
 refine ⟨hbk,fun L s'=>(N < ops.size → L N = true → Q .normal s') ∧ ((N < ops.size → L N = false) → DetI N dst ef ids t L s'),?_,?_,?_⟩
 ·refine ⟨fun _ h=>(by cases h),fun _=>⟨fun i d _ _ h=>(by cases h),fun d _=>by rw [t0],fun id k hk hc=>?_⟩⟩
  have:=tms id k 0 (by omega) hk (fun j _ hj a ha e=>by have:=(hc j a (by omega) ha e).2 hj; cases this)
  rw [this.1,this.2,t0]
  exact ⟨rfl,rfl⟩
 ·intro L s' i o hI ho hL hdep hid
  have hi:=(Array.getElem?_eq_some_iff.1 ho).1
  obtain ⟨e,he,ho',htb⟩:=hent i hi
  obtain rfl:o = e.o:=by rw [ho] at ho'; cases ho'; rfl
  have hcls:=cl_listed hcl hid i e.o ho hdep
  have hck:=hchk i e hi ho htb
  by_cases hiN:i < N
  ·have hLN:N < ops.size → L N = false:=fun hlt=>by
    cases hq:L N with
    | false=>rfl
    | true =>
      exfalso
      rcases hNl with h | ⟨h,e2,he2,hf2⟩
      ·omega
      ·have hz:=zipE_get he2
       have ho2:ops[N]? = some e2.o:=by simpa using hz.1
       have:=(hchk N e2 hlt ho2 hz.2).2.2.2.2.2.2 hf2
       have h3:=cl_listed hcl hid N e2.o ho2 (fun e' he' hb'=>hid N _ hq ho2 e' he' hb') i (this.2 i hiN)
       rw [hL] at h3
       exact absurd h3.1 (by simp)
   have hD:=hI.2 hLN
   obtain ⟨v,m,⟨hml,hst,hgd⟩,hn⟩:=t1 i e he (hNf i e hiN he)
   have hr1:∀ r ∈ e.rd,s'.f r = (t i).f r:=fun r hr=>by
    by_cases hd:∃ j,j < N ∧ dst j = some r
    ·obtain ⟨j,hj,hd⟩:=hd
     obtain ⟨e2,he2,ho2,_⟩:=hent j (by omega)
     have hd2:e2.o.dst = some r:=by simpa [dst,ho2] using hd
     obtain ⟨hLj,hji⟩:=hcls j (hck.1 r hr j e2.o (by omega) ho2 hd2)
     rw [hD.f j r hj hd hLj]
     exact (tfs r i (j + 1) (by omega) (by omega) (fun k h1 h2 h3=>by have:=hdist j k r (by omega) (by omega) hd h3; omega)).symm
    ·have h0:∀ j,j < N → dst j ≠ some r:=fun j hj h=>hd ⟨j,hj,h⟩
     rw [hD.f0 r h0]
     exact (tfs r i 0 (by omega) (by omega) (fun j _ h2=>h0 j (by omega))).symm
   have r1:maskf e.rd (t i).f s'.f = s'.f:=maskf_same hr1
   have hvis:∀ id,(∀ a ∈ e.hd,ids.getD a 0 ≠ id) → s'.gen id = (t i).gen id ∧ s'.obj id = (t i).obj id:=fun id hv=>by
    refine hD.m id i (by omega) (fun j a hj ha hai=>?_)
    obtain ⟨e2,he2,ho2,htb2⟩:=hent j (by omega)
    have ha2:a ∈ e2.ef:=by simpa [ef,htb2] using ha
    have halt:a < ids.length:=(hchk j e2 (by omega) ho2 htb2).2.2.2.2.1 a ha2
    rcases hck.2.2.1 a halt (fun h=>hv a h hai) j _ (by omega) htb2 ha2 with h | h | h
    ·have:=hcls j h
     exact ⟨fun _=>this.2,fun _=>this.1⟩
    ·constructor
     ·intro hLj
      have:=cl_listed hcl hid j e2.o ho2 (fun e' he' hb'=>hid j _ hLj ho2 e' he' hb') i h
      rw [hL] at this
      exact absurd this.1 (by simp)
     ·intro hji
      exfalso
      have h1:=List.all_eq_true.1 hcl j (List.mem_range.2 (by omega))
      have h2:=List.all_eq_true.1 h1 i (by simpa [inCl] using h)
      simp only [Bool.and_eq_true,decide_eq_true_eq] at h2
      omega
    ·subst h
     rw [hL]
     exact ⟨fun h=>(by cases h),fun h=>(by omega)⟩
   have r2:maskm ids e.hd (t i).gen s'.gen = s'.gen:=maskm_same fun id hv=>(hvis id hv).1
   have r3:maskm ids e.hd (t i).obj s'.obj = s'.obj:=maskm_same fun id hv=>(hvis id hv).2
   have h1:=hst s'.f s'.gen s'.obj
   rw [r1,r2,r3] at h1
   refine ⟨hgd.ok hr1,h1 _ ?_⟩
   refine ⟨fun hlt h=>?_,fun _=>⟨fun j d hj hd hLj=>?_,fun d hd=>?_,fun id k hk hc=>?_⟩⟩
   ·simp only [upd] at h
    rw [if_neg (by omega),hLN hlt] at h
    cases h
   ·simp only [upd] at hLj
    by_cases hji:j = i
    ·subst hji
     have hd2:e.o.dst = some d:=by simpa [dst,ho] using hd
     rw [hn]
     simp only [effS,hd2,putF,upd,if_true]
    ·rw [if_neg hji] at hLj
     have hne:e.o.dst ≠ some d:=fun h=>hji (hdist j i d (by omega) hi hd (by simpa [dst,ho] using h))
     rw [← hD.f j d hj hd hLj]
     simp only [effS]
     cases hq:e.o.dst with
     | none=>rfl
     | some d'=>simp only [putF,upd]; rw [if_neg (fun e'=>hne (by rw [hq,e']))]
   ·rw [← hD.f0 d hd]
    have hne:e.o.dst ≠ some d:=fun h=>hd i hiN (by simpa [dst,ho] using h)
    simp only [effS]
    cases hq:e.o.dst with
    | none=>rfl
    | some d'=>simp only [putF,upd]; rw [if_neg (fun e'=>hne (by rw [hq,e']))]
   ·have hef:ef i = e.ef:=by simp [ef,htb]
    by_cases hmine:∃ a ∈ e.ef,ids.getD a 0 = id
    ·obtain ⟨a,ha,hai⟩:=hmine
     have hik:i < k:=(hc i a hiN (by rw [hef]; exact ha) hai).1 (by simp [upd])
     have halt:=hck.2.2.2.2.1 a ha
     have:=tms id k (i + 1) (by omega) hk (fun j h1 h2 b hb hbi=>by
      obtain ⟨e2,he2,ho2,htb2⟩:=hent j (by omega)
      have hb2:b ∈ e2.ef:=by simpa [ef,htb2] using hb
      have hblt:=(hchk j e2 (by omega) ho2 htb2).2.2.2.2.1 b hb2
      obtain rfl:a = b:=hinj a b halt hblt (by rw [hai,hbi])
      have hLj:L j = true:=by
       have:=(hc j a (by omega) hb hbi).2 h2
       simp only [upd] at this
       rwa [if_neg (by omega)] at this
      rcases hck.2.2.2.2.2.1 a ha j _ (by omega) htb2 hb2 with h | h | h
      ·have:=(hcls j h).2; omega
      ·have:=cl_listed hcl hid j e2.o ho2 (fun e' he' hb'=>hid j _ hLj ho2 e' he' hb') i h
       rw [hL] at this
       exact absurd this.1 (by simp)
      ·omega)
     rw [this.1,this.2,hn]
     simp only [effS]
     exact ⟨setm_mine (by simpa using hml) ⟨a,ha,hai⟩,setm_mine (by simpa using hml) ⟨a,ha,hai⟩⟩
    ·have hno:∀ a ∈ e.ef,ids.getD a 0 ≠ id:=fun a ha h=>hmine ⟨a,ha,h⟩
     simp only [effS]
     rw [setm_other hno,setm_other hno]
     refine hD.m id k hk (fun j a hj ha hai=>?_)
     have hji:j ≠ i:=fun h=>by subst h; rw [hef] at ha; exact hno a ha hai
     have:=hc j a hj ha hai
     simp only [upd] at this
     rwa [if_neg hji] at this
  ·have hiN':i = N:=by
    rcases hNl with h | ⟨h,_⟩ <;> omega
   subst hiN'
   rcases hNl with h | ⟨h,e2,he2,hf2⟩
   ·omega
   ·obtain rfl:e = e2:=by rw [he] at he2; cases he2; rfl
    have hD:=hI.2 (fun _=>hL)
    have hall2:∀ j,j < i → L j = true:=fun j hj=>(hcls j ((hck.2.2.2.2.2.2 hf2).2 j hj)).1
    rw [hsame i L s' rfl hall2 hD]
    obtain ⟨hla,hgd⟩:=t2 i e he hf2
    refine ⟨hgd.ok fun _ _=>rfl,hla _ (fun s'' hs=>?_)⟩
    exact ⟨fun _ _=>hs,fun hh=>by have:=hh hi; simp [upd] at this⟩
 ·intro L s' hI hL
  rcases hNl with h | ⟨h,_⟩
  ·subst h
   have hD:=hI.2 (fun h=>absurd h (by omega))
   have h1:=t3 (fun i e he=>hNf i e (by rw [← hzl]; exact (List.getElem?_eq_some_iff.1 he).1) he)
   rw [hzl] at h1
   rw [hsame _ L s' rfl hL hD]
   exact h1
  ·exact hI.1 (by omega) (hL N (by omega))
end
section
variable {P:Program} {T:Nat → TI} {b₀:Bs} {w:World} {rd:Option Nat} {Φ:St → Loc → List Deferred → World → Prop} {Ψ:PanF}
theorem wpAny_ofG {hT:TabOk P T} (hΦ:KeptTr b₀ Φ) {B N:Nat} {ops:Array Oper} {ds:List Deferred} {Q:Exit → Act → World → Prop} (hnd:ops.toList.all noDefer = true) (hds:dstsOk N ops.toList = true) (I:(Nat → Bool) → St → Prop)
  (hstep:∀ (L:Nat → Bool) (s:St) (i:Nat) (o:Oper),I L s → ops[i]? = some o → L i = false → (∀ e ∈ o.after.toList,Region.binds .any e = true → L e.on = true) →
    (∀ j o',L j = true → ops[j]? = some o' → ∀ e ∈ o'.after.toList,Region.binds .any e = true → L e.on = true) → GuardOk ops o s ∧ opA (spF P rd b₀ Φ B Ψ) T o s (bx fun s'=>I (upd L i true) s')) :
  ∀ (fuel:Nat) (listed:Array Bool) {s:St} {β:Loc} {a:Act} {w:World},listed.size = ops.size → listed.toList.count false ≤ fuel → Rel b₀ N s β a w → Φ s β ds w → I (fun i=>listed.getD i false) s →
   (∀ j o',listed.getD j false = true → ops[j]? = some o' → ∀ e ∈ o'.after.toList,Region.binds .any e = true → listed.getD e.on false = true) →
   (∀ L s' β' a' w',I L s' → Rel b₀ N s' β' a' w' → Φ s' β' ds w' → (∃ listed',L = (fun i=>listed'.getD i false) ∧ listed'.size = ops.size ∧ Region.ready .any ops listed' = []) → Q .normal { a' with defers:=ds } w') →
   (∀ ch s' β' a' w',Ψ ch s' → Rel b₀ N s' β' a' w' → Φ s' β' ds w' → Q (.panic ch) { a' with defers:=ds } w') →
   wpAnyIn (fen rd) 0 P .any ops Q fuel listed { a with defers:=ds } w
 | 0,listed,s,β,a,w,hsz,hc,hr,hφ,hI,hid,hQ,hX=>by
   have hall:∀ i,i < ops.size → listed.getD i true = true:=fun i hi=>by
    have hnf:false ∉ listed.toList:=fun h=>by
     have:=List.count_pos_iff.2 h; omega
    rw [Array.getD_eq_getD_getElem?,Array.getElem?_eq_getElem (by omega)]
    simp only [Option.getD_some]
    cases hq:listed[i]'(by omega) with
    | true=>rfl
    | false=>exact absurd (hq ▸ Array.mem_toList_iff.2 (Array.getElem_mem (by omega))) hnf
   have hrd:Region.ready .any ops listed = []:=by
    unfold Region.ready
    rw [List.filter_eq_nil_iff]
    intro i hi
    simp [hall i (List.mem_range.1 hi)]
   exact ⟨hrd,hQ _ s β a w hI hr hφ ⟨listed,rfl,hsz,hrd⟩⟩
 | fuel + 1,listed,s,β,a,w,hsz,hc,hr,hφ,hI,hid,hQ,hX=>by
   refine ⟨fun hrd=>hQ _ s β a w hI hr hφ ⟨listed,rfl,hsz,hrd⟩,fun i hi=>?_⟩
   unfold Region.ready at hi
   simp only [List.mem_filter,List.mem_range,Bool.and_eq_true,Bool.not_eq_true'] at hi
   obtain ⟨hi1,hi2,hi3⟩:=hi
   have ho:ops[i]? = some ops[i]:=Array.getElem?_eq_getElem hi1
   rw [ho] at hi3
   simp only [Option.map_some,Option.getD_some,Array.all_eq_true',Bool.or_eq_true,Bool.not_eq_true'] at hi3
   have hli:listed[i]? = some false:=by
    rw [Array.getD_eq_getD_getElem?,Array.getElem?_eq_getElem (by omega)] at hi2
    rw [Array.getElem?_eq_getElem (by omega)]
    simpa using hi2
   have hL:listed.getD i false = false:=by rw [Array.getD_eq_getD_getElem?,hli]; rfl
   have hedge:∀ e ∈ ops[i].after.toList,Region.binds .any e = true → listed.getD e.on false = true:=fun e he hb=>by
    rcases hi3 e (by simpa using he) with h | h
    ·rw [hb] at h; cases h
    ·exact h
   obtain ⟨hgd,hst⟩:=hstep _ s i ops[i] hI ho hL hedge hid
   have hgi:Region.wanted ops[i] (yielded ops a.tmps) = true:=by
    unfold GuardOk at hgd
    cases hg:(ops[i]).guard with
    | none=>simp [Region.wanted,hg]
    | some p =>
      obtain ⟨j,want⟩:=p
      rw [hg] at hgd
      obtain ⟨d,hj,hb⟩:=hgd
      have hy:=hr.yielded hj hb
      simp [Region.wanted,hg,hy]
   have hdi:∀ d,(ops[i]).dst = some d → d < N:=fun d hd=>by
    have:=List.all_eq_true.1 hds ops[i] (Array.getElem_mem_toList hi1)
    rw [hd] at this
    simpa using this
   have hni:noDefer ops[i] = true:=List.all_eq_true.1 hnd ops[i] (Array.getElem_mem_toList hi1)
   unfold wpOpIn
   rw [ho]
   simp only
   rw [if_pos hgi]
   have hset:(fun j=>(listed.setIfInBounds i true).getD j false) = upd (fun j=>listed.getD j false) i true:=by
    funext j
    simp only [upd,Array.getD_eq_getD_getElem?,Array.getElem?_setIfInBounds]
    by_cases hj:i = j
    ·subst hj; simp [hsz,hi1]
    ·have:¬ j = i:=fun e=>hj e.symm
     simp [hj,this]
   refine opA_soundF hT hΦ hr hφ hni hdi hst (fun s' β' a' w' hI' hr' hφ'=>?_) hX
   refine wpAny_ofG (hT:=hT) hΦ hnd hds I hstep fuel (listed.setIfInBounds i true) (by simpa using hsz) (by have:=count_set hli; omega) hr' hφ' (by rw [hset]; exact hI') (fun j o' hj hoj e he hb=>?_) hQ hX
   have e1:=congrFun hset
   simp only [upd] at e1
   rw [e1] at hj ⊢
   by_cases hej:e.on = i
   ·rw [if_pos hej]
   ·rw [if_neg hej]
    by_cases hji:j = i
    ·subst hji
     rw [ho] at hoj
     cases hoj
     exact hedge e he hb
    ·rw [if_neg hji] at hj
     exact hid j o' hj hoj e he hb
theorem draw_anyG (hT:TabOk P T) (hm:P.follows .mixedOrders = true) (hΦ:KeptTr b₀ Φ) {B id:Nat} {ops:Array Oper} {s:St} {Q:Exit → St → Prop} {q:Box Q} (hnd:ops.toList.all noDefer = true) (hbk:backB ops = true) (I:(Nat → Bool) → St → Prop) (h0:I (fun _=>false) s)
  (hstep:∀ (L:Nat → Bool) (s:St) (i:Nat) (o:Oper),I L s → ops[i]? = some o → L i = false → (∀ e ∈ o.after.toList,Region.binds .any e = true → L e.on = true) →
    (∀ j o',L j = true → ops[j]? = some o' → ∀ e ∈ o'.after.toList,Region.binds .any e = true → L e.on = true) → GuardOk ops o s ∧ opA (spF P rd b₀ Φ B Ψ) T o s (bx fun s'=>I (upd L i true) s'))
  (hend:∀ L s',I L s' → (∀ i,i < ops.size → L i = true) → Q .normal s'):DrawA (spF P rd b₀ Φ B Ψ) T id ops s q:=by
 refine .inr ⟨fun e s'=>e = .normal ∧ Q .normal s',fun N β a ds w hc hr hφ=>?_,fun e s' ⟨h1,h2⟩=>h1 ▸ h2⟩
 have hr1:Rel b₀ N s β a { w with drawn:=w.drawn + 1 }:=hr.of_heap rfl
 have hφ1:Φ s β ds { w with drawn:=w.drawn + 1 }:=hΦ _ _ _ _ _ _ _ hφ (Tr.same rfl rfl rfl)
 refine wpIn_region_any hm (wpAny_ofG (hT:=hT) hΦ hnd hc I hstep ops.size (Array.replicate ops.size false) (by simp) (by simp) hr1 hφ1 ?_ (fun j o' hj=>?_) (fun L s' β' a' w' h2 h4 h5 h6=>⟨s',β',a',ds,rfl,.inl ⟨rfl,hend L s' h2 (by obtain ⟨listed,rfl,e1,e2⟩:=h6; exact ready_all hbk e1 e2)⟩,h4,h5⟩) (fun ch s' β' a' w' h1 h2 h3=>⟨s',β',a',ds,rfl,.inr ⟨ch,rfl,h1⟩,h2,h3⟩))
 ·have:(fun i=>(Array.replicate ops.size false).getD i false) = fun _=>false:=by
   funext i
   rw [Array.getD_eq_getD_getElem?,Array.getElem?_replicate]
   split <;> rfl
  rw [this]; exact h0
 ·rw [Array.getD_eq_getD_getElem?,Array.getElem?_replicate] at hj
  split at hj <;> simp at hj
theorem draw_detG (hT:TabOk P T) (hm:P.follows .mixedOrders = true) (hΦ:KeptTr b₀ Φ) {B id:Nat} {ops:Array Oper} {s:St} {Q:Exit → St → Prop} {q:Box Q} (ids:List Nat) (tb:List (List Nat × List Nat × List Nat × Bool)) (nid:Nat) (hnd0:ops.toList.all noDefer = true) (hok:okDetG ops tb nid = true) (hnid:ids.length = nid) (hnd:ids.Nodup)
  (h:wpDetG (spF P rd b₀ Φ B Ψ) T ops ids (zipE ops.toList tb) s (bx fun s'=>Q .normal s')):DrawA (spF P rd b₀ Φ B Ψ) T id ops s q:=by
 obtain ⟨h1,I,h2,h3,h4⟩:=det_invG (Q:=Q) ids tb nid hok hnid hnd h
 exact draw_anyG hT hm hΦ hnd0 h1 I h2 h3 h4
end
section steps
variable {S:Sp} {T:Nat → TI} {ops:Array Oper} {ids:List Nat} {f:Nat → AV} {g:Nat → Nat} {ob:Nat → Option (List C)} {K:St → Prop} {k:Box K} {op:Op} {ty:TypeId} {ps:String} {af:Array Edge} {gd:Option (Nat × Bool)} {rd hd:List Nat} {r:List Ent} {d:Nat}
theorem detG_pure {v:AV} (hg:GdE ops ⟨⟨some d,op,ty,ps,af,gd⟩,rd,hd,[],false⟩ ⟨f,g,ob⟩) (h1:∀ (fa:Nat → AV) (ga:Nat → Nat) (oa:Nat → Option (List C)) (K':St → Prop),K' ⟨upd (maskf rd f fa) d v,maskm ids hd g ga,maskm ids hd ob oa⟩ → opA S T ⟨some d,op,ty,ps,af,gd⟩ ⟨maskf rd f fa,maskm ids hd g ga,maskm ids hd ob oa⟩ (bx K'))
  (h2:wpDetG S T ops ids r ⟨upd f d v,g,ob⟩ k):wpDetG S T ops ids (⟨⟨some d,op,ty,ps,af,gd⟩,rd,hd,[],false⟩ :: r) ⟨f,g,ob⟩ k:=by
 unfold wpDetG
 exact ⟨v,[],⟨rfl,fun fa ga oa K' hK=>h1 fa ga oa K' hK,hg⟩,h2⟩
theorem detG_nil (h:K ⟨f,g,ob⟩):wpDetG S T ops ids [] ⟨f,g,ob⟩ k:=by unfold wpDetG; exact h
end steps
end Go.Am

namespace Go.Am
abbrev Pan:=List PanicEntry → (Nat → Nat) → Obs → Prop
section
variable {P:Program} {T:Nat → TI} {b₀:Bs} {β:Loc} {w:World} {B:Nat} {Ψ:Pan} {rd:Option Nat} {Φ:St → Loc → List Deferred → World → Prop}
def EndX (b₀:Bs) (β:Loc) (fa:Nat → AV) (g:Nat → Nat) (ob:Obs) (w:World) (R:AV → (Nat → Nat) → Obs → Prop) (Ψ:Pan) (e:Ending) (w':World):Prop :=
 (∃ v r g' ob' β',e = .returned v ∧ R r g' ob' ∧ RepV b₀ β' g' ob' w' r v ∧
    (∀ id cells,ob' id = some cells → ObjAt b₀ β' g' ob' w' (g' id) cells (β' id)) ∧ (∀ id id' a a',(ob' id).isSome = true → (ob' id').isSome = true → β' id = some a → β' id' = some a' → a.block = a'.block → id = id') ∧
    Tr b₀ β ⟨fa,g,ob⟩ w β' ⟨fa,g',ob'⟩ w') ∨
 (∃ ch g' ob' β',e = .panicked ch ∧ Ψ ch g' ob' ∧
    (∀ id cells,ob' id = some cells → ObjAt b₀ β' g' ob' w' (g' id) cells (β' id)) ∧ (∀ id id' a a',(ob' id).isSome = true → (ob' id').isSome = true → β' id = some a → β' id' = some a' → a.block = a'.block → id = id') ∧
    Tr b₀ β ⟨fa,g,ob⟩ w β' ⟨fa,g',ob'⟩ w')
def FunX (P:Program) (f:FuncId) (xs:List AV) (g:Nat → Nat) (ob:Obs) (R:AV → (Nat → Nat) → Obs → Prop) (Ψ:Pan):Prop :=
 Fine P f ∧ ∀ (b₀:Bs) (N:Nat) (β:Loc) (a:Act) (fa:Nat → AV) (w:World) (vs:List Value),Rel b₀ N ⟨fa,g,ob⟩ β a w → RepVs b₀ β g ob w xs vs →
  Calls P f vs.toArray w (EndX b₀ β fa g ob w R Ψ)
theorem FunX.mono {f:FuncId} {xs:List AV} {g:Nat → Nat} {ob:Obs} {R R':AV → (Nat → Nat) → Obs → Prop} {Ψ':Pan} (h:FunX P f xs g ob R Ψ) (hr:∀ r g' ob',R r g' ob' → R' r g' ob') (hp:∀ ch g' ob',Ψ ch g' ob' → Ψ' ch g' ob'):FunX P f xs g ob R' Ψ' :=
 ⟨h.1,fun b₀ N β a fa w vs h1 h2=>(h.2 b₀ N β a fa w vs h1 h2).mono fun _ _ q=>q.imp (fun ⟨v,r,g',ob',β',q1,q2,q3⟩=>⟨v,r,g',ob',β',q1,hr _ _ _ q2,q3⟩) (fun ⟨ch,g',ob',β',q1,q2,q3⟩=>⟨ch,g',ob',β',q1,hp _ _ _ q2,q3⟩)⟩
end
end Go.Am

namespace Go.Am
section
variable {P:Program} {T:Nat → TI} {b₀:Bs} {rd:Option Nat} {gb:Nat} {o:Hold} {Ψ:PanF} {B0:Nat}
theorem hook_viewG {Φ:St → Loc → List Deferred → World → Prop} (hΦ:KeptTr b₀ Φ) (hG:∀ s β ds w,Φ s β ds w → HeldI b₀ gb o w) {op:Oper} {s:St} {K:St → Prop} {k:Box K} {f:FuncId} {args:Array Operand} {tys:Array TypeId} (ho:op.op = .call ⟨.value (.func f),args,tys⟩) {R:AV → Prop} {xs:List AV}
  (hx:FrzVs s (args.toList.map s.ev) xs) (hp:PureG P gb o f xs R) (hd:∀ r,R r → scalarAV r = true) (hk:∀ r,R r → K (s.put op.dst r)):hookA (spF P rd b₀ Φ B0 Ψ) op s k:=by
 refine ⟨fun s'=>∃ r,R r ∧ s' = s.put op.dst r,?_,fun _ ⟨r,hr,e⟩=>e ▸ hk r hr⟩
 intro N β a ds w hr hφ hdst next Q hn _
 have hnd:noDefer op = true:=by simp [noDefer,ho]
 refine wp_fen hnd ?_
 unfold Oper.wp
 rw [run_call ho hp.1 w]
 simp only [Oper.upon]
 have hargs:∀ (l:List Operand) (xs:List AV),FrzVs s (l.map s.ev) xs → RVs (Own b₀ w) w xs (l.map a.eval):=by
  intro l
  induction l with
  | nil=>intro xs h; simp only [List.map_nil,FrzVs] at h; subst h; simp only [List.map_nil,RVs]
  | cons x l ih =>
    intro xs h
    simp only [List.map_cons,FrzVs] at h
    obtain ⟨r,rs,rfl,h1,h2⟩:=h
    simp only [List.map_cons,RVs]
    exact ⟨_,_,rfl,h1.rep hr (hr.ev x),ih rs h2⟩
 have:=hp.2 (Own b₀ w) w (args.toList.map a.eval) (hG _ _ _ _ hφ).2 (fun _ h=>h.1) (hargs _ _ hx)
 rw [show (args.toList.map a.eval).toArray = args.map a.eval from Array.ext' (by simp)] at this
 refine this.mono fun e w' ⟨v,r,he,hR,hs,hh,hos,hv⟩=>?_
 subst he
 obtain ⟨g1,g2⟩:=hr.grow hs hh hos
 have h1:=g1.put hdst (RV.rep r (RV.of_scalar (hd r hR) hv))
 exact ⟨h1.defers,hn _ β _ w' ⟨r,hR,rfl⟩ h1 (hΦ _ _ _ _ _ _ _ hφ (g2.trans (Tr.same (St.put_gen _ _ _) (St.put_obj _ _ _) rfl)))⟩
end
end Go.Am

/- The assembler,plain: a line's parts. -/
namespace Go.Asm
abbrev Str:=List UInt8
def wht (c:UInt8):Bool:=c == 32 || c == 9
def trimL (s:Str):Str:=s.dropWhile wht
def trimR (s:Str):Str:=(s.reverse.dropWhile wht).reverse
def trimW (s:Str):Str:=trimL (trimR s)
theorem trimL_cons_w {c:UInt8} {s:Str} (h:wht c = true):trimL (c :: s) = trimL s:=by simp [trimL,h]
theorem trimL_cons {c:UInt8} {s:Str} (h:wht c = false):trimL (c :: s) = c :: s:=by simp [trimL,h]
theorem trimR_snoc_w {c:UInt8} {s:Str} (h:wht c = true):trimR (s ++ [c]) = trimR s:=by simp [trimR,h]
theorem trimR_snoc {c:UInt8} {s:Str} (h:wht c = false):trimR (s ++ [c]) = s ++ [c]:=by simp [trimR,h]
theorem trimL_app {s t:Str}:trimL (s ++ t) = if trimL s = [] then trimL t else trimL s ++ t:=by
 induction s with
 | nil=>simp [trimL]
 | cons c s ih =>
   cases hc:wht c
   ·rw [List.cons_append,trimL_cons hc,trimL_cons hc]; simp
   ·rw [List.cons_append,trimL_cons_w hc,trimL_cons_w hc,ih]
theorem trimL_none {s:Str}:trimL s = [] ↔ s.all wht = true:=by
 induction s with
 | nil=>simp [trimL]
 | cons c s ih =>
   cases hc:wht c
   ·rw [trimL_cons hc]; simp [hc]
   ·rw [trimL_cons_w hc,ih]; simp [hc]
theorem trimR_eq (s:Str):(trimR s).reverse = trimL s.reverse:=by simp [trimR,trimL]
theorem trimR_app {s t:Str}:trimR (s ++ t) = if trimR t = [] then trimR s else s ++ trimR t:=by
 apply List.reverse_inj.1
 rw [trimR_eq,List.reverse_append,trimL_app,← trimR_eq,← trimR_eq]
 by_cases h:trimR t = []
 ·rw [if_pos h,if_pos (by rw [h]; rfl)]
 ·rw [if_neg h,if_neg (by simpa using h)]; simp
theorem trimR_none {s:Str}:trimR s = [] ↔ s.all wht = true:=by
 rw [← List.reverse_eq_nil_iff,trimR_eq,trimL_none,List.all_reverse]
theorem trim_comm (s:Str):trimL (trimR s) = trimR (trimL s):=by
 induction s with
 | nil=>rfl
 | cons c s ih =>
   have e:c :: s = [c] ++ s:=rfl
   cases hc:wht c
   ·rw [trimL_cons hc,e,trimR_app]
    by_cases h:trimR s = []
    ·rw [if_pos h,show trimR [c] = [c] from by simp [trimR,hc]]
     exact trimL_cons hc
    ·rw [if_neg h]
     exact trimL_cons hc
   ·rw [trimL_cons_w hc,← ih]
    rw [e,trimR_app]
    by_cases h:trimR s = []
    ·rw [if_pos h,h,show trimR [c] = [] from by simp [trimR,hc]]
    ·rw [if_neg h]
     exact trimL_cons_w hc
theorem trimW_white_app {s t:Str} (h:s.all wht = true):trimW (s ++ t) = trimW t:=by
 unfold trimW
 rw [trim_comm,trim_comm,trimL_app,if_pos (trimL_none.2 h)]
theorem trimW_app_white {s t:Str} (h:t.all wht = true):trimW (s ++ t) = trimW s:=by
 unfold trimW
 rw [trimR_app,if_pos (trimR_none.2 h)]
theorem trimL_le (s:Str):(trimL s).length ≤ s.length:=(List.dropWhile_suffix _).length_le
theorem trimR_le (s:Str):(trimR s).length ≤ s.length:=by
 have:=trimL_le s.reverse
 rw [← trimR_eq,List.length_reverse,List.length_reverse] at this; exact this
theorem trimW_le (s:Str):(trimW s).length ≤ s.length:=Nat.le_trans (trimL_le _) (trimR_le _)
def small (c:UInt8):Bool:=decide (97 ≤ c.toNat) && decide (c.toNat ≤ 122)
def letter (c:UInt8):Bool:=small c || (decide (65 ≤ c.toNat) && decide (c.toNat ≤ 90))
def digit (c:UInt8):Bool:=decide (48 ≤ c.toNat) && decide (c.toNat ≤ 57)
def nameC (c:UInt8):Bool:=letter c || digit c || c == 95
def isLabel (s:Str):Bool:=decide (s.length ≤ 20) && (match s with | []=>false | c :: _=>letter c) && s.all nameC
def bareWord (s:Str):Str:=if s.head? = some 46 then s.drop 1 else s
def isWord (s:Str):Bool:=decide (0 < (bareWord s).length) && (bareWord s).all small
def upto (c:UInt8) (s:Str):Str:=s.takeWhile (· != c)
theorem upto_none {c:UInt8}:∀ {s:Str},c ∉ s → upto c s = s
 | [],_=>rfl
 | b :: s,h=>by
   simp only [List.mem_cons,not_or] at h
   have:(b != c) = true:=by simpa using fun e=>h.1 e.symm
   unfold upto; rw [List.takeWhile_cons,if_pos this]
   rw [show s.takeWhile (· != c) = upto c s from rfl,upto_none h.2]
theorem upto_app {c:UInt8}:∀ {s:Str} (t:Str),c ∉ s → upto c (s ++ c :: t) = s
 | [],t,_=>by simp [upto]
 | b :: s,t,h=>by
   simp only [List.mem_cons,not_or] at h
   have:(b != c) = true:=by simpa using fun e=>h.1 e.symm
   unfold upto; rw [List.cons_append,List.takeWhile_cons,if_pos this]
   rw [show (s ++ c :: t).takeWhile (· != c) = upto c (s ++ c :: t) from rfl,upto_app t h.2]
theorem upto_free (c:UInt8):∀ s:Str,c ∉ upto c s
 | []=>by simp [upto]
 | b :: s=>by
   unfold upto
   rw [List.takeWhile_cons]
   split
   ·rename_i h
    simp only [List.mem_cons,not_or]
    exact ⟨fun e=>by simp [e] at h,upto_free c s⟩
   ·simp
theorem upto_split {c:UInt8}:∀ {s:Str},c ∈ s → ∃ t,s = upto c s ++ c :: t
 | [],h=>by simp at h
 | b :: s,h=>by
   by_cases hb:b = c
   ·exact ⟨s,by simp [upto,hb]⟩
   ·obtain ⟨t,ht⟩:=upto_split (c:=c) (s:=s) (by simpa [Ne.symm hb,eq_comm,hb] using h)
    have:(b != c) = true:=by simpa using hb
    refine ⟨t,?_⟩
    have e:upto c (b :: s) = b :: upto c s:=by unfold upto; rw [List.takeWhile_cons,if_pos this]
    rw [e,List.cons_append,← ht]
def splitC (c:UInt8):Str → List Str
 | []=>[[]]
 | b :: l=>if b = c then [] :: splitC c l else
   match splitC c l with
   | []=>[[b]]
   | x :: xs=>(b :: x) :: xs
theorem splitC_cons (c b:UInt8) (l:Str):splitC c (b :: l) = if b = c then [] :: splitC c l else match splitC c l with | []=>[[b]] | x :: xs=>(b :: x) :: xs:=rfl
theorem splitC_ne (c:UInt8) (l:Str):splitC c l ≠ []:=by
 cases l with
 | nil=>simp [splitC]
 | cons b l=>rw [splitC_cons]; split; simp; split <;> simp
theorem splitC_none {c:UInt8}:∀ {s:Str},c ∉ s → splitC c s = [s]
 | [],_=>rfl
 | b :: l,h=>by
   simp only [List.mem_cons,not_or] at h
   rw [splitC_cons,if_neg (fun e=>h.1 e.symm),splitC_none h.2]
theorem splitC_join {c:UInt8}:∀ (a b:Str),splitC c (a ++ c :: b) = splitC c a ++ splitC c b
 | [],b=>by rw [List.nil_append,splitC_cons]; simp [splitC]
 | d :: a,b=>by
   rw [List.cons_append,splitC_cons,splitC_cons,splitC_join a b]
   by_cases hc:d = c
   ·simp [hc]
   ·simp only [hc,if_false]
    have:=splitC_ne c a
    cases hs:splitC c a with
    | nil=>exact absurd hs this
    | cons x xs=>rfl
theorem splitC_free {c:UInt8}:∀ (s:Str),∀ x ∈ splitC c s,c ∉ x
 | [],x,h=>by simp [splitC] at h; simp [h]
 | b :: l,x,h=>by
   have ih:=splitC_free (c:=c) l
   rw [splitC_cons] at h
   split at h
   ·rcases List.mem_cons.1 h with rfl | h
    ·simp
    ·exact ih x h
   ·rename_i hb
    split at h
    ·simp at h; subst h; simp; exact fun e=>hb e.symm
    ·rename_i y ys hy
     rcases List.mem_cons.1 h with rfl | h
     ·simp only [List.mem_cons,not_or]
      exact ⟨fun e=>hb e.symm,ih y (by rw [hy]; simp)⟩
     ·exact ih x (by rw [hy]; simp [h])
theorem splitC_len {c:UInt8}:∀ s:Str,(splitC c s).length ≤ s.length + 1
 | []=>by simp [splitC]
 | b :: l=>by
   have ih:=splitC_len (c:=c) l
   rw [splitC_cons]
   split
   ·simp only [List.length_cons]; omega
   ·split
    ·simp
    ·rename_i h; rw [h] at ih; simp only [List.length_cons] at ih ⊢; omega
theorem splitC_text {c:UInt8}:∀ s:Str,∀ x ∈ splitC c s,x.length ≤ s.length
 | [],x,h=>by simp [splitC] at h; simp [h]
 | b :: l,x,h=>by
   have ih:=splitC_text (c:=c) l
   rw [splitC_cons] at h
   split at h
   ·rcases List.mem_cons.1 h with rfl | h
    ·simp
    ·have:=ih x h; simp only [List.length_cons]; omega
   ·split at h
    ·simp at h; simp [h]
    ·rename_i y ys hy
     rcases List.mem_cons.1 h with rfl | h
     ·have:=ih y (by rw [hy]; simp); simp only [List.length_cons]; omega
     ·have:=ih x (by rw [hy]; simp [h]); simp only [List.length_cons]; omega
def argsOf (rest:Str):Option (List Str) :=
 if rest = [] then some [] else if ((splitC 44 rest).map trimW).all (fun x=>decide (x ≠ [])) = true then some ((splitC 44 rest).map trimW) else none
def labelOf (s:Str):Option (Str × Str) :=
 if 58 ∈ s then (if isLabel (upto 58 s) = true then some (upto 58 s,trimW (s.drop ((upto 58 s).length + 1))) else none) else some ([],s)
def opOf (s:Str):Str:=s.takeWhile (fun c=>!wht c)
def lineA (s:Str):Option (Str × Str × List Str) :=
 (labelOf (trimW (upto 35 s))).bind fun x =>
   if x.2 = [] then some (x.1,[],[]) else
   if isWord (opOf x.2) = true then (argsOf (trimW (x.2.drop (opOf x.2).length))).map fun a=>(x.1,opOf x.2,a) else none
end Go.Asm

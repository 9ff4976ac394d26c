/- A part of the proof; no conditions. -/
import Derived.Test.YtbojbioflppbdaaGreatDoorPart7
set_option linter.unusedSimpArgs false
set_option linter.unusedVariables false
set_option maxHeartbeats 64000000
set_option maxRecDepth 100000
namespace Go.Am
section
section
def fal (o:Oper):Bool:=match o.op with|.call ⟨.value _,_,_⟩=>true|_=>false
def Im (S:Sp) (T:Nat→TI) (ops:Array Oper) (ids:List Nat) (z:Prop) (e:Ent) (s:St) (v:AV) (m:List (Nat×Option (List C))):Prop:=
 (∀(fa:Nat→AV) (ga:Nat→Nat) (oa:Nat→Option (List C)) (K':St→Prop),((fal e.o=true→z)→K' (eO ids e v m ⟨maskf e.rd s.f fa,maskm ids e.hd s.gen ga,maskm ids e.hd s.obj oa⟩))→opA S T e.o ⟨maskf e.rd s.f fa,maskm ids e.hd s.gen ga,maskm ids e.hd s.obj oa⟩ (bx K'))∧GdE ops e s
def Io (S:Sp) (T:Nat→TI) (ops:Array Oper) (e:Ent) (s:St) (K:St→Prop):Prop:=(fal e.o=false∧yT S T e.o s K)∧GdE ops e s
def fm (S:Sp) (T:Nat→TI) (ops:Array Oper) (ids:List Nat) (z:Prop):List Ent→St→{K:St→Prop}→Box K→Prop
 |[],s,K,_=>K s
 |e::r,s,K,k=>match e.full with
   |true=>Io S T ops e s K
   |false=>∃v m,(m.length=e.ef.length∧Im S T ops ids z e s v m)∧fm S T ops ids z r (eO ids e v m s) k
theorem rn {S:Sp}{T:Nat→TI}{ops:Array Oper}{ids:List Nat}{z:Prop}{K:St→Prop}{k:Box K}:∀(l:List Ent) (s:St),fm S T ops ids z l s k→(∀i e,l[i]? = some e→e.full=true→i+1=l.length)→
  ∃t:Nat→St,t 0=s∧(∀i e,l[i]? = some e→e.full=false→∃v m,(m.length=e.ef.length∧Im S T ops ids z e (t i) v m)∧t (i+1)=eO ids e v m (t i))∧(∀i e,l[i]? = some e→e.full=true→Io S T ops e (t i) K)∧
   ((∀(i:Nat) (e:Ent),l[i]? = some e→e.full=false)→K (t l.length))
 |[],s,h,_=>⟨fun _=>s,rfl,fun i e hi=>(by simp at hi),fun i e hi=>(by simp at hi),fun _=>h⟩
 |e::r,s,h,hl=>by
   unfold fm at h
   cases hf:e.full with
   |true=>
     rw[hf] at h
     have h0:=hl 0 e rfl hf
     have:r=[]:=y1 (by simpa using h0)
     subst this
     refine⟨fun _=>s,rfl,fun i e' hi hf'=>?_,fun i e' hi _=>?_,fun ha=>?_⟩
     ·cases i with
      |zero=>simp at hi;subst hi;rw[hf] at hf';cases hf'
      |succ i=>simp at hi
     ·cases i with
      |zero=>simp at hi;subst hi;exact h
      |succ i=>simp at hi
     ·have:=ha 0 e rfl;rw[hf] at this;cases this
   |false=>
     rw[hf] at h
     obtain⟨v,m,hs,hr⟩:=h
     obtain⟨t,t0,t1,t2,t3⟩:=rn r _ hr (fun i e' hi hf'=>by have:=hl (i+1) e' (by simpa using hi) hf';simpa using this)
     refine⟨fun i=>match i with|0=>s|i+1=>t i,rfl,fun i e' hi hf'=>?_,fun i e' hi hf'=>?_,fun ha=>?_⟩
     ·cases i with
      |zero=>simp at hi;subst hi;exact⟨v,m,hs,t0⟩
      |succ i=>exact t1 i e' (by simpa using hi) hf'
     ·cases i with
      |zero=>simp at hi;subst hi;rw[hf] at hf';cases hf'
      |succ i=>exact t2 i e' (by simpa using hi) hf'
     ·exact t3 (fun i e' hi=>ha (i+1) e' (by rw[l8];exact hi))
variable {v:AV}{ops:Array Oper}{Q:Exit→St→Prop}{y:Option (List C)}
section
variable {P:Program}{T:Nat→TI}{b₀:Bs}{β:Loc}{w:World}
theorem Cn {S:Sp}{s:St}{z:Prop} (ids:List Nat) (tb:List (List Nat×List Nat×List Nat×Bool)) (nid:Nat) (hok:oX ops tb nid=true) (hnid:ids.length=nid) (hnd:ids.Nodup)
  (h:fm S T ops ids z (dv ops.toList tb) s (bx fun s'=>z→Q .normal s')):nJ ops=true∧∃I:(Nat→Bool)→St→Prop,I (fun _=>false) s∧
    (∀(L:Nat→Bool) (s:St) (i:Nat) (o:Oper),I L s→ops[i]? = some o→L i=false→(∀e∈o.after.toList,Region.binds .any e=true→L e.on=true)→
      (∀j o',L j=true→ops[j]? = some o'→∀e∈o'.after.toList,Region.binds .any e=true→L e.on=true)→kP ops o s∧opA S T o s (bx fun s'=>I (upd L i true) s'))∧
    (∀L s',I L s'→(∀i,i<ops.size→L i=true)→(∃(i:Nat) (o:Oper),ops[i]? = some o∧fal o=true)→Q .normal s'):=by
 subst hnid
 unfold oX uB at hok
 generalize vz ops=tab at hok
 simp only[l7,E9] at hok
 obtain⟨⟨⟨hbk,hcl⟩,htl⟩,hall⟩:=hok
 have hzl:(dv ops.toList tb).length=ops.size:=by rw[nN (by simpa using htl)];simp
 have hent:∀i,i<ops.size→∃e,(dv ops.toList tb)[i]? = some e∧ops[i]? = some e.o∧tb[i]? = some (e.rd,e.hd,e.ef,e.full):=fun i hi=>by
  have h1:i<(dv ops.toList tb).length:=a6
  refine⟨_,s7 h1,?_⟩
  have:=db (s7 h1)
  simpa using this
 have hinj:∀a b,a<ids.length→b<ids.length→ids.getD a 0=ids.getD b 0→a=b:=fun a b ha hb e=>by
  rw[A8,A8,s7 ha,s7 hb] at e
  simp only[x8] at e
  exact(Q5 hnd).1 e
 -- the checks,by operation
 have hchk:∀(i:Nat) (e:Ent),i<ops.size→ops[i]? = some e.o→tb[i]? = some (e.rd,e.hd,e.ef,e.full)→
   (∀r∈e.rd,∀(j:Nat) (e':Oper),j<ops.size→ops[j]? = some e'→e'.dst=some r→(((tb[j]?).map fun t'=>t'.2.2.2).getD false)=false→eT tab i j=true)∧
   (∀(j:Nat) (o':Oper),j<ops.size→j≠i→ops[j]? = some o'→o'.dst=none∨o'.dst≠e.o.dst)∧
   (∀a,a<ids.length→a∉e.hd→∀j t',j<ops.size→tb[j]? = some t'→a∈t'.2.2.1→eT tab i j=true∨eT tab j i=true∨i=j)∧
   (∀a∈e.hd,a<ids.length)∧(∀a∈e.ef,a<ids.length)∧
   (∀a∈e.ef,∀j t',j<ops.size→tb[j]? = some t'→a∈t'.2.2.1→eT tab i j=true∨eT tab j i=true∨i=j)∧
   (e.full=true→i+1=ops.size∧∀j,j<i→eT tab i j=true):=by
  intro i e hi ho ht
  have h1:=r0.1 hall i (A2.2 hi)
  rw[ho,ht] at h1
  simp only[D5,w8,x8,l7] at h1
  obtain⟨⟨⟨⟨⟨⟨c1,c2⟩,c3⟩,c4⟩,c5⟩,c6⟩,c7⟩:=h1
  refine⟨fun r hr j o' hj hoj hd hfj=>?_,fun j o' hj hne hoj=>?_,fun a ha hna j t' hj htj hat=>?_,fun a ha=>?_,fun a ha=>?_,fun a ha j t' hj htj hat=>?_,fun hf=>?_⟩
  ·have:=r0.1 (r0.1 c1 r hr) j (A2.2 hj)
   rw[hoj,hfj] at this
   simp only[w8,x8,R2,C3,z8] at this
   rcases this with h|h
   ·exact h
   ·exact absurd hd h
  ·have:=r0.1 c2 j (A2.2 hj)
   rw[hoj] at this
   simp only[w8,x8,C3,z8,E9,M7] at this
   rcases this with h|h|h
   ·exact absurd h.symm hne
   ·exact .inl h
   ·exact .inr h
  ·have:=r0.1 c3 a (A2.2 ha)
   simp only[C3,D2,r0,A2] at this
   rcases this with h|h
   ·exact absurd h hna
   ·have:=h j hj
    rw[htj] at this
    simp only[w8,x8,E9,E3] at this
    rcases this with((h|h)|h)|h
    ·exact .inl h
    ·exact .inr (.inl h)
    ·exact .inr (.inr h)
    ·rw[D2.2 hat] at h;cases h
  ·exact G9 (r0.1 c4 a ha)
  ·exact G9 (r0.1 c5 a ha)
  ·have:=r0.1 (r0.1 c6 a ha) j (A2.2 hj)
   rw[htj] at this
   simp only[w8,x8,C3,E9,E3] at this
   rcases this with((h|h)|h)|h
   ·exact .inl h
   ·exact .inr (.inl h)
   ·exact .inr (.inr h)
   ·rw[D2.2 hat] at h;cases h
  ·rw[hf] at c7
   simp only[L4,L5,l7,E9,r0,A2] at c7
   exact c7
 have hfull:∀(i:Nat) (e:Ent),(dv ops.toList tb)[i]? = some e→e.full=true→i+1=(dv ops.toList tb).length:=fun i e hi hf=>by
  have hlt:i<ops.size:=by rw[←hzl];exact(l0.1 hi).1
  have h2:=db hi
  rw[hzl]
  exact((hchk i e hlt (by simpa using h2.1) h2.2).2.2.2.2.2.2 hf).1
 obtain⟨t,t0,t1,t2,t3⟩:=rn _ _ h hfull
 let dst:Nat→Option Nat:=fun i=>(ops[i]?).bind (·.dst)
 let ef:Nat→List Nat:=fun i=>((tb[i]?).map (·.2.2.1)).getD []
 -- how the trace goes
 have tf:∀(i:Nat) (e:Ent),i<ops.size→(dv ops.toList tb)[i]? = some e→e.full=false→∀d,dst i≠some d→(t (i+1)).f d=(t i).f d:=fun i e hi he hf d hd=>by
  obtain⟨v,m,_,h2⟩:=t1 i e he hf
  rw[h2]
  have h3:ops[i]? = some e.o:=by simpa using(db he).1
  simp only[dst,h3,D5] at hd
  simp only[eO]
  cases hq:e.o.dst with
  |none=>rfl
  |some d'=>simp only[lR,upd];rw[if_neg (fun e'=>hd (by rw[hq,e']))]
 have tm:∀(i:Nat) (e:Ent),i<ops.size→(dv ops.toList tb)[i]? = some e→e.full=false→∀id,(∀a∈ef i,ids.getD a 0≠id)→(t (i+1)).gen id=(t i).gen id∧(t (i+1)).obj id=(t i).obj id:=fun i e hi he hf id hd=>by
  obtain⟨v,m,_,h2⟩:=t1 i e he hf
  rw[h2]
  have h3:=(db he).2
  simp only[ef,h3,w8,x8] at hd
  simp only[eO]
  exact⟨cY hd,cY hd⟩
 -- how many are walked by themselves
 obtain⟨N,hN,hNf,hNl⟩:∃N,N≤ops.size∧(∀(i:Nat) (e:Ent),i<N→(dv ops.toList tb)[i]? = some e→e.full=false)∧(N=ops.size∨(N+1=ops.size∧∃e,(dv ops.toList tb)[N]? = some e∧e.full=true)):=by
  by_cases hlast:∃(i:Nat) (e:Ent),(dv ops.toList tb)[i]? = some e∧e.full=true
  ·obtain⟨i,e,he,hf⟩:=hlast
   have h1:=hfull i e he hf
   rw[hzl] at h1
   refine⟨i,a6,fun j e' hj hj'=>?_,.inr ⟨h1,e,he,hf⟩⟩
   cases hq:e'.full with
   |false=>rfl
   |true=>have:=hfull j e' hj' hq;rw[hzl] at this;omega
  ·refine⟨ops.size,j9 _,fun j e' hj hj'=>?_,.inl rfl⟩
   cases hq:e'.full with
   |false=>rfl
   |true=>exact absurd ⟨j,e',hj',hq⟩ hlast
 have tfs:∀(d k i:Nat),i≤k→k≤N→(∀j,i≤j→j<k→dst j≠some d)→(t k).f d=(t i).f d:=by
  intro d k
  induction k with
  |zero=>intro i hi _ _;rw[show i=0 by omega]
  |succ k ih=>
    intro i hi hk hd
    by_cases hik:i=k+1
    ·subst hik;rfl
    ·obtain⟨e,he,_,_⟩:=hent k a6
     rw[tf k e a6 he (hNf k e a6 he) d (hd k a6 a6)]
     exact ih i a6 a6 (fun j h1 h2=>hd j h1 a6)
 have tms:∀(id k i:Nat),i≤k→k≤N→(∀j,i≤j→j<k→∀a∈ef j,ids.getD a 0≠id)→(t k).gen id=(t i).gen id∧(t k).obj id=(t i).obj id:=by
  intro id k
  induction k with
  |zero=>intro i hi _ _;rw[show i=0 by omega];exact⟨rfl,rfl⟩
  |succ k ih=>
    intro i hi hk hd
    by_cases hik:i=k+1
    ·subst hik;exact⟨rfl,rfl⟩
    ·obtain⟨e,he,_,_⟩:=hent k a6
     obtain⟨m1,m2⟩:=tm k e a6 he (hNf k e a6 he) id (hd k a6 a6)
     rw[m1,m2]
     exact ih i a6 a6 (fun j h1 h2=>hd j h1 a6)
 have hdist:∀(i j d:Nat),i<ops.size→j<ops.size→dst i=some d→dst j=some d→i=j:=fun i j d hi hj h1 h2=>by
  rcases K9 i j with hij|hij
  ·exfalso
   obtain⟨e,he,ho,htb⟩:=hent i hi
   obtain⟨e',he',ho',htb'⟩:=hent j hj
   simp only[dst,ho,ho',D5] at h1 h2
   rcases(hchk i e hi ho htb).2.1 j e'.o hj a6 ho' with h|h
   ·rw[h] at h2;cases h2
   ·exact h (by rw[h1,h2])
  ·rcases K9 j i with hji|hji
   ·exfalso
    obtain⟨e,he,ho,htb⟩:=hent i hi
    obtain⟨e',he',ho',htb'⟩:=hent j hj
    simp only[dst,ho,ho',D5] at h1 h2
    rcases(hchk i e hi ho htb).2.1 j e'.o hj a6 ho' with h|h
    ·rw[h] at h2;cases h2
    ·exact h (by rw[h1,h2])
   ·omega
 -- where all have come up,it is the text's state
 have hsame:∀(k:Nat) (L:Nat→Bool) (s':St),k=N→(∀i,i<k→L i=true)→Ae N dst ef ids t L s'→s'=t k:=by
  rintro k L ⟨f',g',o'⟩ rfl hL hI
  have h1:f'=(t k).f:=by
   funext d
   by_cases hd:∃i,i<k∧dst i=some d
   ·obtain⟨i,hi,hd⟩:=hd
    rw[show f' d=_ from hI.f i d hi hd (hL i hi)]
    exact(tfs d k (i+1) a6 (j9 _) (fun j h1 h2 h3=>by have:=hdist i j d a6 a6 hd h3;omega)).symm
   ·have h0:∀i,i<k→dst i≠some d:=fun i hi h=>hd ⟨i,hi,h⟩
    rw[show f' d=_ from hI.f0 d h0]
    exact(tfs d k 0 a6 (j9 _) (fun j _ h2=>h0 j h2)).symm
  have h2:g'=(t k).gen:=funext fun id=>(hI.m id k (j9 _) (fun j a hj _ _=>⟨fun _=>hj,fun _=>hL j hj⟩)).1
  have h3:o'=(t k).obj:=funext fun id=>(hI.m id k (j9 _) (fun j a hj _ _=>⟨fun _=>hj,fun _=>hL j hj⟩)).2
  rw[h1,h2,h3]
 refine⟨hbk,fun L s'=>((N<ops.size→L N=true→z→Q .normal s')∧((N<ops.size→L N=false)→Ae N dst ef ids t L s'))∧∀(i:Nat) (o:Oper),L i=true→ops[i]? = some o→fal o=true→z,?_,?_,?_⟩
 ·refine⟨⟨fun _ h=>(by cases h),fun _=>⟨fun i d _ _ h=>(by cases h),fun d _=>by rw[t0],fun id k hk hc=>?_⟩⟩,fun _ _ h=>(by cases h)⟩
  have:=tms id k 0 a6 hk (fun j _ hj a ha e=>by have:=(hc j a a6 ha e).2 hj;cases this)
  rw[this.1,this.2,t0]
  exact⟨rfl,rfl⟩
 ·intro L s' i o hI ho hL hdep hid
  have hi:=(A7.1 ho).1
  obtain⟨e,he,ho',htb⟩:=hent i hi
  obtain rfl:o=e.o:=by rw[ho] at ho';cases ho';rfl
  have hcls:=dO hcl hid i e.o ho hdep
  have hck:=hchk i e hi ho htb
  by_cases hiN:i<N
  ·have hLN:N<ops.size→L N=false:=fun hlt=>by
    cases hq:L N with
    |false=>rfl
    |true=>
      exfalso
      rcases hNl with h|⟨h,e2,he2,hf2⟩
      ·omega
      ·have hz:=db he2
       have ho2:ops[N]? = some e2.o:=by simpa using hz.1
       have:=(hchk N e2 hlt ho2 hz.2).2.2.2.2.2.2 hf2
       have h3:=dO hcl hid N e2.o ho2 (fun e' he' hb'=>hid N _ hq ho2 e' he' hb') i (this.2 i hiN)
       rw[hL] at h3
       exact absurd h3.1 a7
   have hD:=hI.1.2 hLN
   obtain⟨v,m,⟨hml,hst,hgd⟩,hn⟩:=t1 i e he (hNf i e hiN he)
   have hr1:∀r∈e.rd,s'.f r=(t i).f r:=fun r hr=>by
    by_cases hd:∃j,j<N∧dst j=some r
    ·obtain⟨j,hj,hd⟩:=hd
     obtain⟨e2,he2,ho2,htb2⟩:=hent j a6
     have hd2:e2.o.dst=some r:=by simpa[dst,ho2] using hd
     obtain⟨hLj,hji⟩:=hcls j (hck.1 r hr j e2.o a6 ho2 hd2 (by rw[htb2];exact hNf j e2 hj he2))
     rw[hD.f j r hj hd hLj]
     exact(tfs r i (j+1) a6 a6 (fun k h1 h2 h3=>by have:=hdist j k r a6 a6 hd h3;omega)).symm
    ·have h0:∀j,j<N→dst j≠some r:=fun j hj h=>hd ⟨j,hj,h⟩
     rw[hD.f0 r h0]
     exact(tfs r i 0 a6 a6 (fun j _ h2=>h0 j a6)).symm
   have r1:maskf e.rd (t i).f s'.f=s'.f:=ni hr1
   have hvis:∀id,(∀a∈e.hd,ids.getD a 0≠id)→s'.gen id=(t i).gen id∧s'.obj id=(t i).obj id:=fun id hv=>by
    refine hD.m id i a6 (fun j a hj ha hai=>?_)
    obtain⟨e2,he2,ho2,htb2⟩:=hent j a6
    have ha2:a∈e2.ef:=by simpa[ef,htb2] using ha
    have halt:a<ids.length:=(hchk j e2 a6 ho2 htb2).2.2.2.2.1 a ha2
    rcases hck.2.2.1 a halt (fun h=>hv a h hai) j _ a6 htb2 ha2 with h|h|h
    ·have:=hcls j h
     exact⟨fun _=>this.2,fun _=>this.1⟩
    ·constructor
     ·intro hLj
      have:=dO hcl hid j e2.o ho2 (fun e' he' hb'=>hid j _ hLj ho2 e' he' hb') i h
      rw[hL] at this
      exact absurd this.1 a7
     ·intro hji
      exfalso
      have h1:=r0.1 hcl j (A2.2 a6)
      have h2:=r0.1 h1 i (by simpa[eT] using h)
      simp only[l7,z8] at h2
      omega
    ·subst h
     rw[hL]
     exact⟨fun h=>(by cases h),fun h=>a6⟩
   have r2:maskm ids e.hd (t i).gen s'.gen=s'.gen:=ig fun id hv=>(hvis id hv).1
   have r3:maskm ids e.hd (t i).obj s'.obj=s'.obj:=ig fun id hv=>(hvis id hv).2
   have h1:=hst s'.f s'.gen s'.obj
   rw[r1,r2,r3] at h1
   refine⟨hgd.ok hr1,h1 _ fun hz=>⟨?_,fun j o2 hLj hoj hfj=>by
    simp only[upd] at hLj
    by_cases hji:j=i
    ·subst hji
     rw[ho] at hoj
     cases hoj
     exact hz hfj
    ·rw[if_neg hji] at hLj
     exact hI.2 j o2 hLj hoj hfj⟩⟩
   refine⟨fun hlt h=>?_,fun _=>⟨fun j d hj hd hLj=>?_,fun d hd=>?_,fun id k hk hc=>?_⟩⟩
   ·simp only[upd] at h
    rw[if_neg a6,hLN hlt] at h
    cases h
   ·simp only[upd] at hLj
    by_cases hji:j=i
    ·subst hji
     have hd2:e.o.dst=some d:=by simpa[dst,ho] using hd
     rw[hn]
     simp only[eO,hd2,lR,upd,A9]
    ·rw[if_neg hji] at hLj
     have hne:e.o.dst≠some d:=fun h=>hji (hdist j i d a6 hi hd (by simpa[dst,ho] using h))
     rw[←hD.f j d hj hd hLj]
     simp only[eO]
     cases hq:e.o.dst with
     |none=>rfl
     |some d'=>simp only[lR,upd];rw[if_neg (fun e'=>hne (by rw[hq,e']))]
   ·rw[←hD.f0 d hd]
    have hne:e.o.dst≠some d:=fun h=>hd i hiN (by simpa[dst,ho] using h)
    simp only[eO]
    cases hq:e.o.dst with
    |none=>rfl
    |some d'=>simp only[lR,upd];rw[if_neg (fun e'=>hne (by rw[hq,e']))]
   ·have hef:ef i=e.ef:=by simp[ef,htb]
    by_cases hmine:∃a∈e.ef,ids.getD a 0=id
    ·obtain⟨a,ha,hai⟩:=hmine
     have hik:i<k:=(hc i a hiN (by rw[hef];exact ha) hai).1 (by simp[upd])
     have halt:=hck.2.2.2.2.1 a ha
     have:=tms id k (i+1) a6 hk (fun j h1 h2 b hb hbi=>by
      obtain⟨e2,he2,ho2,htb2⟩:=hent j a6
      have hb2:b∈e2.ef:=by simpa[ef,htb2] using hb
      have hblt:=(hchk j e2 a6 ho2 htb2).2.2.2.2.1 b hb2
      obtain rfl:a=b:=hinj a b halt hblt (by rw[hai,hbi])
      have hLj:L j=true:=by
       have:=(hc j a a6 hb hbi).2 h2
       simp only[upd] at this
       rwa [if_neg a6] at this
      rcases hck.2.2.2.2.2.1 a ha j _ a6 htb2 hb2 with h|h|h
      ·have:=(hcls j h).2;omega
      ·have:=dO hcl hid j e2.o ho2 (fun e' he' hb'=>hid j _ hLj ho2 e' he' hb') i h
       rw[hL] at this
       exact absurd this.1 a7
      ·omega)
     rw[this.1,this.2,hn]
     simp only[eO]
     exact⟨jl (by simpa using hml) ⟨a,ha,hai⟩,jl (by simpa using hml) ⟨a,ha,hai⟩⟩
    ·have hno:∀a∈e.ef,ids.getD a 0≠id:=fun a ha h=>hmine ⟨a,ha,h⟩
     simp only[eO]
     rw[cY hno,cY hno]
     refine hD.m id k hk (fun j a hj ha hai=>?_)
     have hji:j≠i:=fun h=>by subst h;rw[hef] at ha;exact hno a ha hai
     have:=hc j a hj ha hai
     simp only[upd] at this
     rwa [if_neg hji] at this
  ·have hiN':i=N:=by
    rcases hNl with h|⟨h,_⟩ <;> omega
   subst hiN'
   rcases hNl with h|⟨h,e2,he2,hf2⟩
   ·omega
   ·obtain rfl:e=e2:=by rw[he] at he2;cases he2;rfl
    have hD:=hI.1.2 (fun _=>hL)
    have hall2:∀j,j<i→L j=true:=fun j hj=>(hcls j ((hck.2.2.2.2.2.2 hf2).2 j hj)).1
    rw[hsame i L s' rfl hall2 hD]
    obtain⟨hla,hgd⟩:=t2 i e he hf2
    refine⟨hgd.ok fun _ _=>rfl,hla.2 _ (fun s'' hs=>?_)⟩
    refine⟨⟨fun _ _=>hs,fun hh=>by have:=hh hi;simp[upd] at this⟩,fun j o2 hLj hoj hfj=>?_⟩
    simp only[upd] at hLj
    by_cases hji:j=i
    ·subst hji
     rw[ho] at hoj
     cases hoj
     rw[hla.1] at hfj
     cases hfj
    ·rw[if_neg hji] at hLj
     exact hI.2 j o2 hLj hoj hfj
 ·intro L s' hI hL ⟨i0,o0,hi0,hf0⟩
  have hz:z:=hI.2 i0 o0 (hL i0 (A7.1 hi0).1) hi0 hf0
  rcases hNl with h|⟨h,_⟩
  ·subst h
   have hD:=hI.1.2 (fun h=>absurd h a6)
   have h1:=t3 (fun i e he=>hNf i e (by rw[←hzl];exact(l0.1 he).1) he)
   rw[hzl] at h1
   rw[hsame _ L s' rfl hL hD]
   exact h1 hz
  ·exact hI.1.1 a6 (hL N a6) hz
end
section
variable {P:Program}{T:Nat→TI}{b₀:Bs}{w:World}{rd:Option Nat}{Φ:St→Loc→List Deferred→World→Prop}{Ψ:fP}
def Nq (ops:Array Oper):Bool:=ops.toList.any fal
theorem jn (z:Prop) (hT:aQ P T) (hm:P.follows .mixedOrders=true) (hΦ:aW b₀ Φ) {B id:Nat}{s:St}{q:Box Q} (ids:List Nat) (tb:List (List Nat×List Nat×List Nat×Bool)) (nid:Nat) (hnd0:ops.toList.all aJ=true) (hok:(oX ops tb nid&&Nq ops)=true) (hnid:ids.length=nid) (hnd:ids.Nodup)
  (h:fm (spF P rd b₀ Φ B Ψ) T ops ids z (dv ops.toList tb) s (bx fun s'=>z→Q .normal s')):js (spF P rd b₀ Φ B Ψ) T id ops s q:=by
 rw[l7] at hok
 obtain⟨h1,I,h2,h3,h4⟩:=Cn (Q:=Q) ids tb nid hok.1 hnid hnd h
 refine tu hT hm hΦ hnd0 h1 I h2 h3 (fun L s' h5 h6=>h4 L s' h5 h6 ?_)
 obtain⟨o,ho,hf⟩:=O2.1 hok.2
 obtain⟨i,hi⟩:=B9 ho
 exact⟨i,o,by simpa using hi,hf⟩
end
section steps
variable {S:Sp}{T:Nat→TI}{ops:Array Oper}{ids:List Nat}{z:Prop}{f:Nat→AV}{g:Nat→Nat}{ob:Nat→Option (List C)}{K:St→Prop}{k:Box K}{op:Op}{ty:TypeId}{ps:String}{af:Array Edge}{gd:Option (Nat×Bool)}{rd hd:List Nat}{r:List Ent}{d:Nat}
theorem bw (hf:fal ⟨some d,op,ty,ps,af,gd⟩=false) (hg:GdE ops ⟨⟨some d,op,ty,ps,af,gd⟩,rd,hd,[],false⟩ ⟨f,g,ob⟩) (h1:∀(fa:Nat→AV) (ga:Nat→Nat) (oa:Nat→Option (List C)) (K':St→Prop),K' ⟨upd (maskf rd f fa) d v,maskm ids hd g ga,maskm ids hd ob oa⟩→opA S T ⟨some d,op,ty,ps,af,gd⟩ ⟨maskf rd f fa,maskm ids hd g ga,maskm ids hd ob oa⟩ (bx K'))
  (h2:fm S T ops ids z r ⟨upd f d v,g,ob⟩ k):fm S T ops ids z (⟨⟨some d,op,ty,ps,af,gd⟩,rd,hd,[],false⟩::r) ⟨f,g,ob⟩ k:=by
 unfold fm
 exact⟨v,[],⟨rfl,fun fa ga oa K' hK=>h1 fa ga oa K' (hK fun h=>by rw[hf] at h;cases h),hg⟩,h2⟩
theorem iE{a x:Nat} (hf:fal ⟨some d,op,ty,ps,af,gd⟩=false) (hg:GdE ops ⟨⟨some d,op,ty,ps,af,gd⟩,rd,hd,[a],false⟩ ⟨f,g,ob⟩) (h1:∀(fa:Nat→AV) (ga:Nat→Nat) (oa:Nat→Option (List C)) (K':St→Prop),K' ⟨upd (maskf rd f fa) d v,upd (maskm ids hd g ga) (ids.getD a 0) x,upd (maskm ids hd ob oa) (ids.getD a 0) y⟩→opA S T ⟨some d,op,ty,ps,af,gd⟩ ⟨maskf rd f fa,maskm ids hd g ga,maskm ids hd ob oa⟩ (bx K'))
  (h2:fm S T ops ids z r ⟨upd f d v,upd g (ids.getD a 0) x,upd ob (ids.getD a 0) y⟩ k):fm S T ops ids z (⟨⟨some d,op,ty,ps,af,gd⟩,rd,hd,[a],false⟩::r) ⟨f,g,ob⟩ k:=by
 unfold fm
 exact⟨v,[(x,y)],⟨rfl,fun fa ga oa K' hK=>h1 fa ga oa K' (hK fun h=>by rw[hf] at h;cases h),hg⟩,h2⟩
theorem jo{a:Nat} (hg:GdE ops ⟨⟨some d,op,ty,ps,af,gd⟩,rd,hd,[a],false⟩ ⟨f,g,ob⟩) (hv:ids.getD a 0∉hd.map (fun b=>ids.getD b 0)) (h1:∀(fa:Nat→AV) (ga:Nat→Nat) (oa:Nat→Option (List C)) (K':St→Prop),(z→K' ⟨upd (maskf rd f fa) d v,maskm ids hd g ga,upd (maskm ids hd ob oa) (ids.getD a 0) y⟩)→opA S T ⟨some d,op,ty,ps,af,gd⟩ ⟨maskf rd f fa,maskm ids hd g ga,maskm ids hd ob oa⟩ (bx K'))
  (h2:fm S T ops ids z r ⟨upd f d v,g,upd ob (ids.getD a 0) y⟩ k):fm S T ops ids z (⟨⟨some d,op,ty,ps,af,gd⟩,rd,hd,[a],false⟩::r) ⟨f,g,ob⟩ k:=by
 have hself:∀(α:Type) (h:Nat→α) (i:Nat),upd h i (h i)=h:=fun α h i=>by funext j;simp only[upd];split <;> simp_all
 have hmask:∀ga:Nat→Nat,maskm ids hd g ga (ids.getD a 0)=g (ids.getD a 0):=fun ga=>by
  clear h1 h2 hg
  induction hd with
  |nil=>rfl
  |cons b bs ih=>
    simp only[l5,x9,not_or] at hv
    simp only[maskm,upd]
    rw[if_neg hv.1]
    exact ih hv.2
 unfold fm
 refine⟨v,[(g (ids.getD a 0),y)],⟨rfl,fun fa ga oa K' hK=>h1 fa ga oa K' (fun hz=>?_),hg⟩,?_⟩
 ·have e:eO ids ⟨⟨some d,op,ty,ps,af,gd⟩,rd,hd,[a],false⟩ v [(g (ids.getD a 0),y)] ⟨maskf rd f fa,maskm ids hd g ga,maskm ids hd ob oa⟩=⟨upd (maskf rd f fa) d v,maskm ids hd g ga,upd (maskm ids hd ob oa) (ids.getD a 0) y⟩:=by
   simp only[eO,lR,setm,l5,w7]
   rw[←hmask ga,hself]
  rw[←e];exact hK fun _=>hz
 ·have e:eO ids ⟨⟨some d,op,ty,ps,af,gd⟩,rd,hd,[a],false⟩ v [(g (ids.getD a 0),y)] ⟨f,g,ob⟩=⟨upd f d v,g,upd ob (ids.getD a 0) y⟩:=by
   simp only[eO,lR,setm,l5,w7]
   rw[hself]
  rw[e];exact h2
theorem jp {o:Oper}{ef:List Nat} (hf:fal o=false) (hg:GdE ops ⟨o,rd,hd,ef,true⟩ ⟨f,g,ob⟩) (h:∀K':St→Prop,(∀s'',K s''→K' s'')→opA S T o ⟨f,g,ob⟩ (bx K')):fm S T ops ids z [⟨o,rd,hd,ef,true⟩] ⟨f,g,ob⟩ k:=by
 unfold fm;exact⟨⟨hf,h⟩,hg⟩
end steps
end
end
end Go.Am
namespace Go.Src
section
open Go.Asm (Str)
section
inductive PR (α:Type) where
 |ok (a:α) (n:Nat)
 |no (n:Nat)
def PR.bind {α β:Type} (x:PR α) (f:α→Nat→PR β):PR β:=match x with|.ok a n=>f a n|.no n=>.no n
variable {n:Nat}{α β:Type}{f:α→Nat→PR β}{p:PR α}
@[simp] theorem PR.bind_ok{a:α}:(PR.ok a n).bind f=f a n:=rfl
@[simp] theorem PR.bind_no:(PR.no n:PR α).bind f=.no n:=rfl
section
variable (ts:List Tok)
def du (n:Nat):Nat:=match ts[n]? with|some t=>t.kind|none=>0
def aD (n:Nat):Str:=match ts[n]? with|some t=>if t.kind=3∨t.kind=4 then t.text else []|none=>[]
def takeN (k:Nat) (n:Nat):PR Tok:=match ts[n]? with|some t=>if t.kind=k then .ok t (n+1) else .no n|none=>.no n
def bA:List Str→Nat→PR Unit
 |[],n=>.ok () n
 |s::l,n=>if aD ts n=s then bA l (n+1) else .no n
mutual
def cC:Nat→Nat→Nat→PR Ex
 |0,_,n=>.no n
 |k+1,least,n=>(eN k n).bind fun left n=>gf k least left n
def gf:Nat→Nat→Ex→Nat→PR Ex
 |0,_,_,n=>.no n
 |k+1,least,left,n=>
   if (ud (aD ts n)).2.2<least then .ok left n
   else(cC k ((ud (aD ts n)).2.2+1) (n+1)).bind fun right m=>gf k least (.mk (ud (aD ts n)).1 (ud (aD ts n)).2.1 0 [] [left,right]) m
def eN:Nat→Nat→PR Ex
 |0,n=>.no n
 |k+1,n=>
   if du ts n=2 then(takeN ts 2 n).bind fun t n=>.ok (.mk 1 0 t.num [] []) n
   else if aD ts n=[103,101,116] then(bA ts [jR,ir] (n+1)).bind fun _ n=>.ok (.mk 5 0 0 [] []) n
   else if aD ts n=jR then(cC k 1 (n+1)).bind fun e n=>(bA ts [ir] n).bind fun _ n=>.ok e n
   else if aD ts n=[33] then(eN k (n+1)).bind fun e n=>.ok (.mk 7 0 0 [] [e]) n
   else(takeN ts 1 n).bind fun t n=>
    if aD ts n=[91] then(cC k 1 (n+1)).bind fun e n=>(bA ts [[93]] n).bind fun _ n=>.ok (.mk 3 0 0 t.text [e]) n
    else if aD ts n=jR then(fj k (n+1)).bind fun l n=>.ok (.mk 4 0 0 t.text l) n
    else .ok (.mk 2 0 0 t.text []) n
def fj:Nat→Nat→PR (List Ex)
 |0,n=>.no n
 |k+1,n=>
   if aD ts n=ir then .ok [] (n+1)
   else(cC k 1 n).bind fun e n=>gg k [e] n
def gg:Nat→List Ex→Nat→PR (List Ex)
 |0,_,n=>.no n
 |k+1,l,n=>
   if aD ts n=vm then(cC k 1 (n+1)).bind fun e n=>gg k (l++[e]) n
   else(bA ts [ir] n).bind fun _ n=>.ok l n
end
def iR (k n:Nat):PR (List Ex):=(bA ts [jR] n).bind fun _ n=>(cC ts k 1 n).bind fun e n=>(bA ts [ir] n).bind fun _ n=>.ok [e] n
def iu (k n:Nat):PR Stm:=
 (takeN ts 1 n).bind fun t n=>
   (if aD ts n=[61] then(cC ts k 1 (n+1)).bind fun e n=>.ok (Stm.mk 1 t.text [e] [] []) n
    else if aD ts n=[91] then(cC ts k 1 (n+1)).bind fun i n=>(bA ts [[93],[61]] n).bind fun _ n=>(cC ts k 1 n).bind fun e n=>.ok (Stm.mk 2 t.text [i,e] [] []) n
    else if aD ts n=jR then(fj ts k (n+1)).bind fun l n=>.ok (Stm.mk 6 t.text l [] []) n
    else .no n).bind fun s n=>(bA ts [jS] n).bind fun _ n=>.ok s n
mutual
def iZ:Nat→Nat→PR Stm
 |0,n=>.no n
 |k+1,n=>
   if aD ts n=[112,117,116] then(iR ts k (n+1)).bind fun e n=>(bA ts [jS] n).bind fun _ n=>.ok (.mk 3 [] e [] []) n
   else if aD ts n=[114,101,116,117,114,110] then
    (if aD ts (n+1)=jS then .ok (.mk 7 [] [] [] []) (n+2)
     else(cC ts k 1 (n+1)).bind fun e n=>(bA ts [jS] n).bind fun _ n=>.ok (.mk 7 [] [e] [] []) n)
   else if aD ts n=[105,102] then
    (iR ts k (n+1)).bind fun e n=>(gY k n).bind fun th n=>
      if aD ts n=[101,108,115,101] then(gY k (n+1)).bind fun el n=>.ok (.mk 4 [] e th el) n
      else .ok (.mk 4 [] e th []) n
   else if aD ts n=[119,104,105,108,101] then
    (iR ts k (n+1)).bind fun e n=>(gY k n).bind fun th n=>.ok (.mk 5 [] e th []) n
   else iu ts k n
def gY:Nat→Nat→PR (List Stm)
 |0,n=>.no n
 |k+1,n=>(bA ts [[123]] n).bind fun _ n=>cO k [] n
def cO:Nat→List Stm→Nat→PR (List Stm)
 |0,_,n=>.no n
 |k+1,l,n=>
   if aD ts n=[125] then .ok l (n+1)
   else(iZ k n).bind fun s n=>cO k (l++[s]) n
end
def dR:Nat→List Str→Nat→PR (List Str)
 |0,_,n=>.no n
 |k+1,l,n=>if aD ts n=vm then(takeN ts 1 (n+1)).bind fun t n=>dR k (l++[t.text]) n else .ok l n
def dY (k n:Nat):PR (List Str):=(takeN ts 1 n).bind fun t n=>dR ts k [t.text] n
def dj:Nat→List Str→Nat→PR (List Str)
 |0,_,n=>.no n
 |k+1,l,n=>if aD ts n=[118,97,114] then(dY ts k (n+1)).bind fun m n=>(bA ts [jS] n).bind fun _ n=>dj k (l++m) n else .ok l n
def lH (k n:Nat):PR Fn:=
 (bA ts [[102,117,110,99]] n).bind fun _ n=>(takeN ts 1 n).bind fun t n=>(bA ts [jR] n).bind fun _ n=>
   (if du ts n=1 then dY ts k n else .ok [] n).bind fun ps n=>(bA ts [ir] n).bind fun _ n=>
     (bA ts [[123]] (if aD ts n=[119,111,114,100] then n+1 else n)).bind fun _ m=>(dj ts k [] m).bind fun ls m=>
       (cO ts k [] m).bind fun b m=>.ok ⟨t.text,ps,ls,decide (aD ts n=[119,111,114,100]),b⟩ m
def lA:Nat→List Str→List (Str×Int)→Nat→PR (List Str×List (Str×Int))
 |0,_,_,n=>.no n
 |k+1,vs,ars,n=>
   if aD ts n=[118,97,114] then(dY ts k (n+1)).bind fun m n=>(bA ts [jS] n).bind fun _ n=>lA k (vs++m) ars n
   else if aD ts n=[97,114,114,97,121] then
    (takeN ts 1 (n+1)).bind fun t n=>(bA ts [[91]] n).bind fun _ n=>(takeN ts 2 n).bind fun z n=>(bA ts [[93]] n).bind fun _ n=>(bA ts [jS] n).bind fun _ n=>lA k vs (ars++[(t.text,(z.num:Int))]) n
   else .ok (vs,ars) n
def lB:Nat→List Fn→Nat→PR (List Fn)
 |0,_,n=>.no n
 |k+1,l,n=>if n<ts.length then(lH ts k n).bind fun f n=>lB k (l++[f]) n else .ok l n
def lC (k n:Nat):PR Prog:=
 (lA ts k [] [] n).bind fun h n=>(lH ts k n).bind fun f n=>(lB ts k [f] n).bind fun fs n=>.ok ⟨h.1,h.2,fs⟩ n
end
def PR.Fwd {α:Type} (n:Nat) (p:PR α):Prop:=∀a m,p=.ok a m→n<m
def PR.FwdE {α:Type} (n:Nat) (p:PR α):Prop:=∀a m,p=.ok a m→n≤m
theorem PR.bind_fwd (h:p.Fwd n) (h':∀a m,(f a m).FwdE m):(p.bind f).Fwd n:=by
 intro b m hb
 cases p with
 |ok a k=>exact F1 (h a k rfl) (h' a k b m hb)
 |no k=>cases hb
theorem PR.bind_fwdE (h:p.FwdE n) (h':∀a m,(f a m).FwdE m):(p.bind f).FwdE n:=by
 intro b m hb
 cases p with
 |ok a k=>exact B1 (h a k rfl) (h' a k b m hb)
 |no k=>cases hb
theorem PR.Fwd.le {α:Type}{p:PR α} (h:p.Fwd n):p.FwdE n:=fun a m e=>Q8 (h a m e)
theorem PR.Fwd.of_succ {α:Type}{p:PR α} (h:p.FwdE (n+1)):p.Fwd n:=fun a m e=>h a m e
theorem PR.fwdE_ok {α:Type}{n m:Nat}{a:α} (h:n≤m):(PR.ok a m).FwdE n:=fun b k e=>by cases e;exact h
theorem PR.fwd_no {α:Type}{n m:Nat}:(PR.no m:PR α).Fwd n:=fun _ _ e=>by cases e
section
variable {ts:List Tok}
theorem ff {k n:Nat}:(takeN ts k n).Fwd n:=by
 intro a m h
 unfold takeN at h
 split at h
 ·split at h
  ·cases h;omega
  ·cases h
 ·cases h
theorem bX:∀{l:List Str}{n:Nat},(bA ts l n).FwdE n
 |[],n=>PR.fwdE_ok (j9 _)
 |s::l,n=>by
   unfold bA
   split
   ·exact fun a m e=>by have:=bX (l:=l) (n:=n+1) a m e;omega
   ·exact PR.fwd_no.le
mutual
theorem ep:∀(k least n:Nat),(cC ts k least n).Fwd n
 |0,_,_=>by unfold cC;exact PR.fwd_no
 |k+1,least,n=>by
   unfold cC
   exact PR.bind_fwd (uh k n) fun a m=>pE k least a m
theorem pE:∀(k least:Nat) (left:Ex) (n:Nat),(gf ts k least left n).FwdE n
 |0,_,_,_=>by unfold gf;exact PR.fwd_no.le
 |k+1,least,left,n=>by
   unfold gf
   split
   ·exact PR.fwdE_ok (j9 _)
   ·exact fun a m e=>by have:=PR.bind_fwdE (ep k _ (n+1)).le (fun b q=>pE k least _ q) a m e;omega
theorem uh:∀(k n:Nat),(eN ts k n).Fwd n
 |0,_=>by unfold eN;exact PR.fwd_no
 |k+1,n=>by
   unfold eN
   split
   ·exact PR.bind_fwd ff fun a m=>PR.fwdE_ok (j9 _)
   split
   ·exact PR.Fwd.of_succ (PR.bind_fwdE bX fun a m=>PR.fwdE_ok (j9 _))
   split
   ·exact PR.Fwd.of_succ (PR.bind_fwdE (ep k 1 (n+1)).le fun a m=>PR.bind_fwdE bX fun b q=>PR.fwdE_ok (j9 _))
   split
   ·exact PR.Fwd.of_succ (PR.bind_fwdE (uh k (n+1)).le fun a m=>PR.fwdE_ok (j9 _))
   refine PR.bind_fwd ff fun a m=>?_
   split
   ·exact(PR.Fwd.of_succ (PR.bind_fwdE (ep k 1 (m+1)).le fun a m=>PR.bind_fwdE bX fun b q=>PR.fwdE_ok (j9 _))).le
   split
   ·exact(PR.Fwd.of_succ (PR.bind_fwdE (ui k (m+1)).le fun a m=>PR.fwdE_ok (j9 _))).le
   ·exact PR.fwdE_ok (j9 _)
theorem ui:∀(k n:Nat),(fj ts k n).Fwd n
 |0,_=>by unfold fj;exact PR.fwd_no
 |k+1,n=>by
   unfold fj
   split
   ·exact PR.Fwd.of_succ (PR.fwdE_ok (j9 _))
   ·exact PR.bind_fwd (ep k 1 n) fun a m=>uj k [a] m
theorem uj:∀(k:Nat) (l:List Ex) (n:Nat),(gg ts k l n).FwdE n
 |0,_,_=>by unfold gg;exact PR.fwd_no.le
 |k+1,l,n=>by
   unfold gg
   split
   ·exact(PR.Fwd.of_succ (PR.bind_fwdE (ep k 1 (n+1)).le fun a m=>uj k (l++[a]) m)).le
   ·exact PR.bind_fwdE bX fun b q=>PR.fwdE_ok (j9 _)
end
theorem nE {k n:Nat}:(iR ts k n).FwdE n:=PR.bind_fwdE bX fun _ m=>PR.bind_fwdE (ep k 1 m).le fun _ m=>PR.bind_fwdE bX fun _ _=>PR.fwdE_ok (j9 _)
theorem yJ {k n:Nat}:(iu ts k n).Fwd n:=by
 unfold iu
 refine PR.bind_fwd ff fun t m=>PR.bind_fwdE ?_ fun s q=>PR.bind_fwdE bX fun _ _=>PR.fwdE_ok (j9 _)
 split
 ·exact(PR.Fwd.of_succ (PR.bind_fwdE (ep k 1 (m+1)).le fun _ _=>PR.fwdE_ok (j9 _))).le
 split
 ·exact(PR.Fwd.of_succ (PR.bind_fwdE (ep k 1 (m+1)).le fun _ _=>PR.bind_fwdE bX fun _ q=>PR.bind_fwdE (ep k 1 q).le fun _ _=>PR.fwdE_ok (j9 _))).le
 split
 ·exact(PR.Fwd.of_succ (PR.bind_fwdE (ui k (m+1)).le fun _ _=>PR.fwdE_ok (j9 _))).le
 ·exact PR.fwd_no.le
mutual
theorem Bx:∀(k n:Nat),(iZ ts k n).Fwd n
 |0,_=>by unfold iZ;exact PR.fwd_no
 |k+1,n=>by
   unfold iZ
   split
   ·exact PR.Fwd.of_succ (PR.bind_fwdE nE fun _ _=>PR.bind_fwdE bX fun _ _=>PR.fwdE_ok (j9 _))
   split
   ·split
    ·exact fun a m e=>by cases e;omega
    ·exact PR.Fwd.of_succ (PR.bind_fwdE (ep k 1 (n+1)).le fun _ _=>PR.bind_fwdE bX fun _ _=>PR.fwdE_ok (j9 _))
   split
   ·refine PR.Fwd.of_succ (PR.bind_fwdE nE fun _ m=>PR.bind_fwdE (pF k m) fun _ q=>?_)
    split
    ·exact(PR.Fwd.of_succ (PR.bind_fwdE (pF k (q+1)) fun _ _=>PR.fwdE_ok (j9 _))).le
    ·exact PR.fwdE_ok (j9 _)
   split
   ·exact PR.Fwd.of_succ (PR.bind_fwdE nE fun _ m=>PR.bind_fwdE (pF k m) fun _ _=>PR.fwdE_ok (j9 _))
   ·exact yJ
theorem pF:∀(k n:Nat),(gY ts k n).FwdE n
 |0,_=>by unfold gY;exact PR.fwd_no.le
 |k+1,n=>by
   unfold gY
   exact PR.bind_fwdE bX fun _ m=>(nF k [] m).le
theorem nF:∀(k:Nat) (l:List Stm) (n:Nat),(cO ts k l n).Fwd n
 |0,_,_=>by unfold cO;exact PR.fwd_no
 |k+1,l,n=>by
   unfold cO
   split
   ·exact PR.Fwd.of_succ (PR.fwdE_ok (j9 _))
   ·exact PR.bind_fwd (Bx k n) fun a m=>(nF k _ m).le
end
theorem oA:∀{k:Nat}{l:List Str}{n:Nat},(dR ts k l n).FwdE n
 |0,_,_=>by unfold dR;exact PR.fwd_no.le
 |k+1,l,n=>by
   unfold dR
   split
   ·exact(PR.Fwd.of_succ (PR.bind_fwdE ff.le fun _ _=>oA)).le
   ·exact PR.fwdE_ok (j9 _)
theorem sw {k n:Nat}:(dY ts k n).Fwd n:=PR.bind_fwd ff fun _ _=>oA
theorem qk:∀{k:Nat}{l:List Str}{n:Nat},(dj ts k l n).FwdE n
 |0,_,_=>by unfold dj;exact PR.fwd_no.le
 |k+1,l,n=>by
   unfold dj
   split
   ·exact(PR.Fwd.of_succ (PR.bind_fwdE sw.le fun _ _=>PR.bind_fwdE bX fun _ _=>qk)).le
   ·exact PR.fwdE_ok (j9 _)
theorem OY {k n:Nat}:(lH ts k n).Fwd n:=by
 unfold lH
 intro a m h
 cases hm:bA ts [[102,117,110,99]] n with
 |no _=>rw[hm] at h;cases h
 |ok u q=>
   rw[hm] at h
   have h1:=bX (ts:=ts) (l:=[[102,117,110,99]]) (n:=n) u q hm
   have h2:=PR.bind_fwd (p:=takeN ts 1 q) (n:=q) ff (fun t m=>PR.bind_fwdE (β:=Fn) (f:=fun _ n=>
    (if du ts n=1 then dY ts k n else .ok [] n).bind fun ps n=>(bA ts [ir] n).bind fun _ n=>
    (bA ts [[123]] (if aD ts n=[119,111,114,100] then n+1 else n)).bind fun _ m=>(dj ts k [] m).bind fun ls m=>
      (cO ts k [] m).bind fun b m=>.ok ⟨t.text,ps,ls,decide (aD ts n=[119,111,114,100]),b⟩ m) (bX (l:=[jR])) fun _ x=>PR.bind_fwdE (by split;exact sw.le;exact PR.fwdE_ok (j9 _)) fun ps y=>PR.bind_fwdE bX fun _ z=>by
      have h3:∀v,z≤v→((bA ts [[123]] v).bind fun _ m=>(dj ts k [] m).bind fun ls m=>(cO ts k [] m).bind fun b m=>(PR.ok (Fn.mk t.text ps ls (decide (aD ts z=[119,111,114,100])) b) m)).FwdE z:=fun v hv a m e=>by
       have:=PR.bind_fwdE (p:=bA ts [[123]] v) bX (fun _ m=>PR.bind_fwdE (qk (k:=k) (l:=[])) fun ls m=>PR.bind_fwdE (nF k [] m).le fun b m=>PR.fwdE_ok (a:=Fn.mk t.text ps ls (decide (aD ts z=[119,111,114,100])) b) (j9 m)) a m e
       omega
      apply h3
      split <;> omega) a m h
   omega
end
end
end
end Go.Src

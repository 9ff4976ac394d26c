/- A part of the proof; no conditions. -/
import Derived.Test.YtgbcmokfgbmabaaGreatDoorRPart7
set_option linter.unusedSimpArgs false
set_option linter.unusedVariables false
set_option maxHeartbeats 64000000
set_option maxRecDepth 100000
namespace Go.Am
section
attribute [local congr] Go.Am.ite_cc
theorem nu {P:Prop} (h:P:=by (try simp only[upd]);(repeat rw[if_neg (by omega)])):P:=h
theorem nt {P Q:Prop} (q:Q) (h:P=Q:=by (try simp only[upd]);(repeat rw[if_neg (by omega)])):P:=h▸q
theorem fi {ob1 ob2:Obs}{B B2:Nat} (hf:∀i,B≤i→ob1 i=none) (h:∀i,B2≤i→B≤i∧ob2 i=ob1 i:=by (intro i hi;refine⟨by omega,?_⟩;(try simp only[upd]);(repeat rw[if_neg (by omega)]))):∀i,B2≤i→ob2 i=none:=fun i hi=>(h i hi).2.trans (hf i (h i hi).1)
end
end Go.Am
namespace Go.Proofs.YtgbcmokfgbmabaaGreatDoorR
section
attribute [local congr] Go.Am.ite_cc
open Go Go.Am Go.Asm
open Go.Src (PR dC ay takeN bE)
section
def rdC (ts:List Src.Tok) (n fin:Nat):List C:=[.d (iD ts),.d (.int .i64 (n:Nat)),.d (.int .i64 (fin:Nat))]
def kN (ts:List Src.Tok) (fin n:Nat):Nat:=match ts[n]? with|some t=>t.place|none=>fin
def tQ (k:Nat):List PanicEntry:=[{ v:=.iface 213 (.agg #[.int .i64 (k:Nat)]),recovered:=false }]
variable {ts:List Src.Tok}{g:Nat→Nat}{ob:Obs}{B:Nat}{s:St}{n fin:Nat}{y:Option (List C)}
theorem pM{n:Nat}{t:Src.Tok} (h:ts[n]? = some t):(ts.map lJ)[n]? = some [.int .i64 (t.kind:Nat),.str t.text,.int .u32 (t.num:Nat),.int .i64 (t.place:Nat)]:=by rw[x9,h];rfl
def OkR {α:Type} (ts:List Src.Tok) (fin:Nat) (p:PR α) (enc:α→AV) (g:Nat→Nat) (ob:Obs) (r:AV) (g':Nat→Nat) (ob':Obs):Prop:=
 g'=g∧∃a m,p=.ok a m∧r=enc a∧ob'=upd ob 125 (some (rdC ts m fin))
def NoR {α:Type} (ts:List Src.Tok) (fin:Nat) (p:PR α) (g:Nat→Nat) (ob:Obs):Pan:=fun ch g' ob'=>
 g'=g∧∃m,p=.no m∧ch=tQ (kN ts fin m)∧ob'=upd ob 125 (some (rdC ts m fin))
def eK {α:Type} (f:FuncId) (xs:List AV) (ts:List Src.Tok) (n fin:Nat) (p:PR α) (enc:α→AV):Prop:=
 ∀(B:Nat) (g:Nat→Nat) (ob:Obs),200≤B→(∀i,B≤i→ob i=none)→ob 125=some (rdC ts n fin)→
  ew Tryz.prog f (.one (.ptr 125 (g 125) 0)::xs) g ob (OkR ts fin p enc g ob) (NoR ts fin p g ob)
structure InF (B:Nat) (g:Nat→Nat) (ob:Obs) (g':Nat→Nat) (ob':Obs):Prop where
 same:∀i,i<B→i≠125→g' i=g i∧ob' i=ob i
 rd:g' 125=g 125
theorem InF.refl:InF B g ob g ob:=⟨fun _ _ _=>⟨rfl,rfl⟩,rfl⟩
theorem InF.go{g g1 g2:Nat→Nat}{ob ob1 ob2:Obs} (h:InF B g ob g1 ob1) (q:(∀i,i<B→i≠125→g2 i=g1 i∧ob2 i=ob1 i)∧g2 125=g1 125:=by (refine⟨fun i hi h5=>⟨?_,?_⟩,?_⟩ <;> ((try simp only[upd]);(repeat rw[if_neg (by omega)]);first|done|rfl))):InF B g ob g2 ob2:=
 ⟨fun i hi h5=>⟨(q.1 i hi h5).1.trans (h.same i hi h5).1,(q.1 i hi h5).2.trans (h.same i hi h5).2⟩,q.2.trans h.rd⟩
theorem InF.put {B j:Nat}{g g1:Nat→Nat}{ob ob1:Obs} (h:InF B g ob g1 ob1) (hj:B≤j):InF B g ob g1 (upd ob1 j y):=⟨fun i hi h5=>⟨(h.same i hi h5).1,by simp only[upd];rw[if_neg a6];exact(h.same i hi h5).2⟩,h.rd⟩
theorem InF.newG {B j x:Nat}{g g1:Nat→Nat}{ob ob1:Obs} (h:InF B g ob g1 ob1) (hj:B≤j) (hB:125<B):InF B g ob (upd g1 j x) ob1:=⟨fun i hi h5=>⟨by simp only[upd];rw[if_neg a6];exact(h.same i hi h5).1,(h.same i hi h5).2⟩,by simp only[upd];rw[if_neg a6];exact h.rd⟩
theorem InF.rdr{g g1:Nat→Nat}{ob ob1:Obs} (h:InF B g ob g1 ob1):InF B g ob g1 (upd ob1 125 y):=⟨fun i hi h5=>⟨(h.same i hi h5).1,by simp only[upd];rw[if_neg h5];exact(h.same i hi h5).2⟩,h.rd⟩
theorem InF.ends {B n fin:Nat}{g g1:Nat→Nat}{ob ob1:Obs} (h:InF B g ob g1 ob1) (ho:ob1 125=some (rdC ts n fin)):Eu B [125] g ob g1 ob1∧jh [125] g g1=g∧eY [125] ob ob1=upd ob 125 (some (rdC ts n fin)):=by
 refine⟨⟨fun i hi h5=>h.same i hi (by simpa using h5),fun i hi cells hc c hcc=>?_⟩,Ew h.rd,by rw[Ey,ho]⟩
 obtain rfl:=C4.1 hi
 rw[ho] at hc
 cases hc
 simp only[rdC,z6,A4,E3] at hcc
 rcases hcc with rfl|rfl|rfl <;> trivial
theorem InF.ret {α:Type}{B n fin:Nat}{p:PR α}{enc:α→AV}{avs rs:List AV}{a:α} (h:InF B g ob s.gen s.obj) (ho:s.obj 125=some (rdC ts n fin)) (hp:p=.ok a n) (hf:eO B s avs rs) (hr:pack rs=enc a):aZ B [125] g ob (OkR ts fin p enc g ob) s avs:=by
 obtain⟨h1,h2,h3⟩:=h.ends ho
 exact⟨h1,rs,hf,h2,a,n,hp,hr,h3⟩
theorem InF.pan {α:Type}{B n fin:Nat}{g g1:Nat→Nat}{ob ob1:Obs}{p:PR α}{ch:List PanicEntry} (h:InF B g ob g1 ob1) (ho:ob1 125=some (rdC ts n fin)) (hp:p=.no n) (hc:ch=tQ (kN ts fin n)) :
  Eu B [125] g ob g1 ob1∧NoR ts fin p g ob ch (jh [125] g g1) (eY [125] ob ob1):=by
 obtain⟨h1,h2,h3⟩:=h.ends ho
 exact⟨h1,h2,n,hp,hc,h3⟩
section
variable {b₀:Bs}{rd:Option Nat}{Φ:St→Am.Loc→List Deferred→World→Prop}
theorem ar {α α':Type} (hΦ:aY b₀ Φ) {o:Oper}{K:St→Prop}{k:Box K}{f:FuncId}{args:Array Operand}{tys:Array TypeId} (ho:o.op=.call ⟨.value (.func f),args,tys⟩) {xs:List AV}{p:PR α}{enc:α→AV}
  (hr:eK f xs ts n fin p enc) (hx:args.toList.map s.ev=.one (.ptr 125 (s.gen 125) 0)::xs) (Bc:Nat) (hB:200≤Bc) (hfree:∀i,Bc≤i→s.obj i=none) (hob:s.obj 125=some (rdC ts n fin)) {B B0:Nat}{p':PR α'} (hin:InF B g ob s.gen s.obj)
  (hno:∀m,p=.no m→p'=.no m) (hk:∀a m,p=.ok a m→K (St.put ⟨s.f,s.gen,upd s.obj 125 (some (rdC ts m fin))⟩ o.dst (enc a))):bj (spF Tryz.prog rd b₀ Φ B0 (Ev B [125] g ob (NoR ts fin p' g ob))) o s k:=by
 refine bB (R:=OkR ts fin p enc s.gen s.obj) (Ψ0:=NoR ts fin p s.gen s.obj) hΦ ho (by rw[hx];exact hr Bc s.gen s.obj hB hfree hob) ?_ ?_
 ·exact Yh
 ·rintro r g' ob' ⟨rfl,a,m,hp,rfl,rfl⟩
  exact hk a m hp
end
theorem pN (xs:List D):jK s (.agg (xs.map .d)) (.agg ((xs.map fF).map .d)):=by
 refine⟨xs.map fF,a7,fun i c hc=>?_,rfl⟩
 rw[x9] at hc ⊢
 cases hq:xs[i]? with
 |none=>rw[hq] at hc;cases hc
 |some x=>rw[hq] at hc;cases hc;exact⟨_,rfl,.d x⟩
theorem nlo (hB:200≤B) (k:Nat):(125=B+k)=False:=by simp;omega
theorem nhi (hB:200≤B) (k:Nat):(B+k=125)=False:=by simp;omega
theorem Gb (ho:ob 125=some (rdC ts n fin)) :
  jZ Tryz.prog 190 [.one (.ptr 125 (g 125) 0)] g ob (fun r g' ob'=>r=iv .i64 (dC ts n:Nat)∧g'=g∧ob'=ob):=by
 refine hdF 9000 Tryz.func190 rfl [2] ?_
 unfold rdC iD at ho
 have hn0:(0:Int)≤(n:Int):=a6
 simp only[go_sem]
 refine dy b9 ?_
 unfold dC
 by_cases hlt:n<ts.length
 ·have hlti:(n:Int)<(ts.length:Int):=a6
  obtain⟨t,ht⟩:=getq hlt
  have htg:=pM ht
  rw[ht]
  simp only[go_sem,ho,j4,hlti]
  refine dy b9 ?_
  simp only[go_sem,ho,hn0,htg]
  exact⟨_,ag.refl _,rfl,rfl,rfl⟩
 ·have hlti:¬(n:Int)<(ts.length:Int):=a6
  rw[D6 a6]
  simp only[go_sem,ho,j4,hlti]
  exact⟨_,ag.refl _,rfl,rfl,rfl⟩
theorem Al {B n fin:Nat} (hB:200≤B) (hf:∀i,B≤i→ob i=none) (ho:ob 125=some (rdC ts n fin)) :
  jZ Tryz.prog 189 [.one (.ptr 125 (g 125) 0)] g ob (fun r g' ob'=>r=sv (ay ts n)∧g'=g∧ob'=ob):=by
 refine zx B aP mixed Tryz.func189 rfl c9 [2] rfl c8 (by simp[Tryz.ntmps189]) hf ?_
 have n1:=nlo hB
 have n2:=nhi hB
 unfold rdC iD at ho
 have hn0:(0:Int)≤(n:Int):=a6
 simp only[go_sem]
 refine dy b9 ?_
 unfold ay
 by_cases hlt:n<ts.length
 case neg=>
  have hlti:¬(n:Int)<(ts.length:Int):=a6
  rw[D6 a6]
  simp only[go_sem,ho,j4,hlti]
 have hlti:(n:Int)<(ts.length:Int):=a6
 obtain⟨t,ht⟩:=getq hlt
 have htg:=pM ht
 rw[ht]
 simp only[go_sem,ho,j4,hlti]
 refine fg aP mixed [B+3] [([0],[0],[],false),([14],[0],[],false),([15],[0],[],false),([16],[0],[],false),([0],[0],[],false),([18],[0],[],false),([19],[0],[],false),([20],[0],[],false),([17,21],[0],[],false),([22],[0],[],false),([],[],[0],false),([3,23],[],[],true)] 1 b9 rfl a7 ?_
 simp only[go_sem]
 iterate 10 (apply aE;· (intro fa ga oa K' hK;simp only[go_sem,ho,hn0,htg,n1,n2] at hK ⊢;exact hK))
 (apply cq;· (intro fa ga oa K' hK;simp only[go_sem] at hK ⊢;exact hK))
 apply cw
 intro K' hK'
 simp only[go_sem]
 refine hK' _ ?_
 clear hK' K'
 have hw:(t.kind=3∨t.kind=4)↔((t.kind:Int)=3∨(t.kind:Int)=4):=a6
 have hS:∀(x:Nat) (y z:Option (List C)),(∀i,i<B→upd g (B+3) x i=g i)∧∀i,i<B→upd (upd ob (B+3) y) (B+3) z i=ob i:=fun x y z=>⟨fun i hi=>by simp only[upd];rw[if_neg a6],fun i hi=>by simp only[upd];rw[if_neg a6,if_neg a6]⟩
 by_cases h3:(t.kind:Int)=3
 ·rw[if_pos (hw.2 (.inl h3))]
  simp only[go_sem,h3]
  exact hS _ _ _
 by_cases h4:(t.kind:Int)=4
 ·rw[if_pos (hw.2 (.inr h4))]
  simp only[go_sem,h3,h4]
  exact hS _ _ _
 ·rw[if_neg (fun h=>(hw.1 h).elim h3 h4)]
  simp only[go_sem,h3,h4]
  exact hS _ _ _
def UF (ts:List Src.Tok) (n fin:Nat) (s:Str) (g:Nat→Nat) (ob:Obs) (r:AV) (g':Nat→Nat) (ob':Obs):Prop:=
 g'=g∧((ay ts n=s∧r=bv true∧ob'=upd ob 125 (some (rdC ts (n+1) fin)))∨(ay ts n≠s∧r=bv false∧ob'=ob))
theorem RN {B n fin:Nat} (hB:200≤B) (hf:∀i,B≤i→ob i=none) (ho:ob 125=some (rdC ts n fin)) (hn:n≤1000000) (s:Str) :
  jZ Tryz.prog 118 [.one (.ptr 125 (g 125) 0),sv s] g ob (UF ts n fin s g ob):=by
 refine hdF B Tryz.func118 rfl [4] ?_
 have hw:=ab (k:=n) a6
 have ho':=ho
 unfold rdC iD at ho
 simp only[go_sem]
 refine eN rfl (by simp only[go_sem];exact Al hB hf ho') ?_
 rintro _ g1 ob1 ⟨rfl,rfl,rfl⟩
 by_cases he:ay ts n=s
 ·simp only[go_sem,he,ho,hw]
  refine⟨_,ag.refl _,rfl,.inl ⟨he,rfl,?_⟩⟩
  simp only[go_sem,rdC,iD]
 ·simp only[go_sem,he]
  exact⟨_,ag.refl _,rfl,.inr ⟨he,rfl,rfl⟩⟩
theorem wJ (ho:ob 125=some (rdC ts n fin)) :
  ew Tryz.prog 117 [.one (.ptr 125 (g 125) 0)] g ob (fun _ _ _=>False) (fun ch g' ob'=>ch=tQ (kN ts fin n)∧g'=g∧ob'=ob):=by
 refine hdX 9000 Tryz.func117 rfl [] fun b₀ β0 s0 w0=>?_
 unfold rdC iD at ho
 have hn0:(0:Int)≤(n:Int):=a6
 simp only[go_sem]
 refine aL b9 ?_
 unfold kN
 by_cases hlt:n<ts.length
 ·have hlti:(n:Int)<(ts.length:Int):=a6
  obtain⟨t,ht⟩:=getq hlt
  have htg:=pM ht
  rw[ht]
  simp only[go_sem,ho,j4,hlti]
  refine aL b9 ?_
  simp only[go_sem,ho,hn0,htg]
  refine sW (k:=bx _) aa rfl (aP 213 rfl).desc (by simp only[go_sem];exact⟨rfl,rfl⟩) ?_
  simp only[go_sem]
  refine sX (k:=bx _) (t:=213) (u:=.agg #[.int .i64 (t.place:Nat)]) rfl (by simp only[go_sem]) ?_
  exact⟨rfl,rfl,rfl⟩
 ·have hlti:¬(n:Int)<(ts.length:Int):=a6
  rw[D6 a6]
  simp only[go_sem,ho,j4,hlti]
  refine sW (k:=bx _) aa rfl (aP 213 rfl).desc (by simp only[go_sem];exact⟨rfl,rfl⟩) ?_
  simp only[go_sem]
  refine sX (k:=bx _) (t:=213) (u:=.agg #[.int .i64 (fin:Nat)]) rfl (by simp only[go_sem]) ?_
  exact⟨rfl,rfl,rfl⟩
end
end
section
attribute [local congr] Go.Am.ite_cc
open Go Go.Am Go.Asm
open Go.Src (PR dC ay takeN bE Ex)
section
variable {ts:List Src.Tok}
theorem Ji{kd n:Nat}{t:Src.Tok} (ht:ts[n]? = some t) (hk:t.kind=kd):takeN ts kd n=.ok t (n+1):=by unfold takeN;rw[ht];simp[hk]
theorem mQ (ts:List Src.Tok) (n fin kd:Nat) (hn:n≤1000000) (hk:0<kd):eK 120 [iv .i64 kd] ts n fin (takeN ts kd n) nH:=by
 intro B g ob hB hf ho
 refine hdM B [125] Tryz.func120 rfl [.cell 4 164] (by simp;omega) hf fun b₀ β0 s0 w0=>?_
 have hw:=ab (k:=n) a6
 have hn0:(0:Int)≤(n:Int):=a6
 have n1:=nlo hB
 have n2:=nhi hB
 have hO:∀y,upd ob (B+4) y 125=some (rdC ts n fin):=fun y=>by simp only[upd];rw[if_neg a6];exact ho
 have hG:∀x,upd g (B+4) x 125=g 125:=fun x=>by simp only[upd];rw[if_neg a6]
 simp only[go_sem,n1,n2]
 refine kI aa rfl (by simp only[go_sem,n1,n2];rw[←hG (nxC 165 (g (B+4)))];exact Gb (hO _)) ?_
 rintro _ g1 ob1 ⟨rfl,rfl,rfl⟩
 by_cases hk1:dC ts n=kd
 case neg=>
  have hki:¬(dC ts n:Int)=(kd:Int):=a6
  have hp:takeN ts kd n=.no n:=by
   unfold takeN
   unfold dC at hk1
   cases hq:ts[n]? with
   |none=>rfl
   |some t=>rw[hq] at hk1;simp only at hk1;simp[hk1]
  simp only[go_sem,hki]
  refine bB (R:=fun _ _ _=>False) aa rfl (by simp only[go_sem,n1,n2];rw[←hG (nxC 165 (g (B+4)))];exact wJ (hO _)) ?_ (fun _ _ _ h=>h.elim)
  rintro ch g' ob' ⟨rfl,rfl,rfl⟩
  exact((InF.refl.newG a6 a6).put a6).pan (hO _) hp rfl
 have hki:(dC ts n:Int)=(kd:Int):=a6
 obtain⟨t,ht⟩:∃t,ts[n]? = some t:=by
  unfold dC at hk1
  cases hq:ts[n]? with
  |some t=>exact⟨t,rfl⟩
  |none=>rw[hq] at hk1;simp only at hk1;omega
 have htg:=pM ht
 have hkt:t.kind=kd:=by unfold dC at hk1;rw[ht] at hk1;exact hk1
 have hp:=Ji ht hkt
 unfold rdC iD at ho
 simp only[go_sem,hki]
 refine nk (B:=B) aP mixed aa [B+5] [([0],[0],[],false),([12],[0],[],false),([13],[0],[],false),([14],[0],[],false),([0],[0],[],false),([16],[0],[],false),([17],[0],[],false),([18],[0],[],false),([15,19],[0],[],false),([20],[0],[],false),([],[],[0],false),([5,21],[],[],true)] 1 rfl b9 rfl a7 ?_
 simp only[go_sem]
 iterate 10 (apply aE;· (intro fa ga oa K' hK;simp only[go_sem,ho,hn0,htg,n1,n2] at hK ⊢;exact hK))
 (apply cq;· (intro fa ga oa K' hK;simp only[go_sem] at hK ⊢;exact hK))
 apply cw
 intro K' hK'
 simp only[go_sem]
 refine hK' _ ?_
 clear hK' K'
 simp only[go_sem,ho,hw,n1,n2]
 refine⟨_,ag.refl _,?_⟩
 simp only[go_sem,n1,n2]
 refine InF.ret (rs:=[nH t]) (B:=B) (n:=n+1) (p:=takeN ts kd n) (enc:=nH) ?_ ?_ hp ?_ rfl
 ·exact(((((InF.refl.newG a6 a6).newG a6 a6).put a6).put a6).put a6).rdr.put a6
 ·simp only[go_sem,n1,n2,rdC,iD]
 ·exact⟨_,_,rfl,.agg (xs:=lJ t) rfl (fun i c hc=>by
   match i,hc with
   |0,hc=>cases hc;exact⟨_,rfl,.d _⟩
   |1,hc=>cases hc;exact⟨_,rfl,.d _⟩
   |2,hc=>cases hc;exact⟨_,rfl,.d _⟩
   | 3,hc=>cases hc;exact⟨_,rfl,.d _⟩),rfl⟩
def bP (l:List Str):List C:=l.map fun s=>.d (.str s)
theorem Nu {B n fin j:Nat}{g:Nat→Nat}{ob:Obs} (l:List Str) (hB:200≤B) (hf:∀i,B≤i→ob i=none) (ho:ob 125=some (rdC ts n fin)) (hn:n+l.length≤1000000) (hj:j<B) (hj1:j≠125) (hjo:ob j=some (bP l)) :
  ew Tryz.prog 121 [.one (.ptr 125 (g 125) 0),.one (.osl j (g j) 1 0 l.length)] g ob (OkR ts fin (bE ts l n) (fun _=>uv) g ob) (NoR ts fin (bE ts l n) g ob):=by
 refine hdM B [125] Tryz.func121 rfl [] (by simp;omega) hf fun b₀ β0 s0 w0=>?_
 have n1:=nlo hB
 have n2:=nhi hB
 obtain⟨p,hp⟩:∃p,bE ts l n=p:=⟨_,rfl⟩
 rw[hp]
 simp only[go_sem]
 refine⟨by rw[hjo];rfl,?_⟩
 refine ak (fun m st=>∃k:Nat,m+k=l.length∧st.f 0=.one (.ptr 125 (g 125) 0)∧st.f 6=.one (.osl j (g j) 1 0 l.length)∧st.f 7=iv .i64 l.length∧st.f 8=iv .i64 k∧st.gen=g∧st.obj=upd ob 125 (some (rdC ts (n+k) fin))∧bE ts (l.drop k) (n+k)=p) l.length ?_ ?_
 ·refine⟨0,rfl,?_⟩
  simp only[go_sem]
  refine⟨?_,by simpa using hp⟩
  funext i
  simp only[upd,K7]
  split
  ·rename_i e;subst e;exact ho
  ·rfl
 rintro m f g1 ob1 ⟨k,hk,q0,q6,q7,q8,rfl,rfl,hpk⟩
 simp only at q0 q6 q7 q8
 have hw:=ab (k:=k) a6
 have hwn:=ab (k:=n+k) a6
 have hO:upd ob 125 (some (rdC ts (n+k) fin)) 125=some (rdC ts (n+k) fin):=by simp[upd]
 have hF:∀i,B≤i→upd ob 125 (some (rdC ts (n+k) fin)) i=none:=fun i hi=>by simp only[upd];rw[if_neg a6];exact hf i hi
 by_cases hlt:k<l.length
 case neg=>
  have hki:¬(k:Int)<(l.length:Int):=a6
  obtain rfl:k=l.length:=a6
  rw[x6 (j8 _)] at hpk
  simp only[go_sem,q7,q8,hki]
  refine⟨_,ag.refl _,?_⟩
  simp only[go_sem]
  exact InF.ret (rs:=[]) (a:=()) InF.refl.rdr hO hpk.symm rfl rfl
 have hki:(k:Int)<(l.length:Int):=a6
 have hk0:(0:Int)≤(k:Int):=a6
 obtain⟨s,hs⟩:=getq hlt
 have hjs:(bP l)[k]? = some (.d (.str s)):=by unfold bP;rw[x9,hs];rfl
 have hjk:upd ob 125 (some (rdC ts (n+k) fin)) j=some (bP l):=by simp only[upd];rw[if_neg hj1];exact hjo
 have hjS:(bP l).length=l.length:=j4 _
 have hkk:(k:Int).toNat=k:=a6
 have hd:l.drop k=s::l.drop (k+1):=by rw[A5 hlt];rw[w9 hlt] at hs;cases hs;rfl
 rw[hd] at hpk
 simp only[go_sem,q0,q6,q7,q8,hki,hjk,hk0,hjs,hkk]
 refine kI aa rfl (by simp only[go_sem,q0];exact Al hB hF hO) ?_
 rintro _ g2 ob2 ⟨rfl,rfl,rfl⟩
 by_cases he:ay ts (n+k)=s
 case neg=>
  rw[bE,if_neg he] at hpk
  simp only[go_sem,he,q0]
  refine bB (R:=fun _ _ _=>False) aa rfl (by simp only[go_sem,q0];exact wJ hO) ?_ (fun _ _ _ h=>h.elim)
  rintro ch g' ob' ⟨rfl,rfl,rfl⟩
  exact InF.refl.rdr.pan hO hpk.symm rfl
 rw[bE,if_pos he] at hpk
 simp only[go_sem,he,q0,rdC,iD,hwn,q8,hw]
 refine ah (m-1) a6 ⟨k+1,a6,?_⟩
 simp only[go_sem,q0,q6,q7]
 refine⟨?_,hpk⟩
 funext i
 simp only[upd]
 split <;> rfl
theorem gf (op:Int):aq Tryz.prog 272 [iv .i64 op] (· = .agg [.d (.int .i64 6),.d (.int .i64 op),.d (.int .u32 0),.d (.str []),.d (.sl [])]):=by
 refine hdR Tryz.func272 rfl [.cell 2 51] fun g=>?_
 simp only[go_sem]
 refine⟨_,pN [.int .i64 6,.int .i64 op,.int .u32 0,.str [],.nsl],rfl⟩
end
def BV (s:Str):AV:=.tup [.agg [.d (.int .i64 (Src.vL s).1),.d (.int .i64 (Src.vL s).2.1),.d (.int .u32 0),.d (.str []),.d (.sl [])],iv .i64 ((Src.vL s).2.2:Nat)]
theorem dL {s:Str}{k op:Int}{n:Nat} (h:Src.vL s=(k,op,n)):BV s=.tup [.agg [.d (.int .i64 k),.d (.int .i64 op),.d (.int .u32 0),.d (.str []),.d (.sl [])],iv .i64 (n:Nat)]:=by unfold BV;rw[h]
theorem dN {s:St}{k op n:Int}{x:D} (hx:fF x=.sl []):nX s [.agg [.d (.int .i64 k),.d (.int .i64 op),.d (.int .u32 0),.d (.str []),.d x],iv .i64 n] (.tup [.agg [.d (.int .i64 k),.d (.int .i64 op),.d (.int .u32 0),.d (.str []),.d (.sl [])],iv .i64 n]):=by
 have h:=pN (s:=s) [.int .i64 k,.int .i64 op,.int .u32 0,.str [],x]
 simp only[l5,v8,hx] at h
 exact⟨_,⟨_,_,rfl,h,_,_,rfl,jb _,rfl⟩,rfl⟩
theorem Nw (s:Str):aq Tryz.prog 270 [sv s] (· = BV s):=by
 refine hdR Tryz.func270 rfl [.cell 2 51,.tmp 3] fun g=>?_
 by_cases h0:s=[124,124]
 ·have hv:Src.vL s=(9,0,1):=by subst h0;rfl
  rw[dL hv]
  simp only[go_sem,l9 h0]
  exact⟨_,dN rfl,rfl⟩
 by_cases h1:s=[38,38]
 ·have hv:Src.vL s=(8,0,2):=by subst h1;rfl
  rw[dL hv]
  simp only[go_sem,h0,l9 h1]
  exact⟨_,dN rfl,rfl⟩
 by_cases h2:s=[61,61]
 ·have hv:Src.vL s=(6,15,3):=by subst h2;rfl
  rw[dL hv]
  simp only[go_sem,h0,h1,l9 h2]
  exact Vw
 by_cases h3:s=[60]
 ·have hv:Src.vL s=(6,14,4):=by subst h3;rfl
  rw[dL hv]
  simp only[go_sem,h0,h1,h2,l9 h3]
  exact Vw
 by_cases h4:s=[124]
 ·have hv:Src.vL s=(6,10,5):=by subst h4;rfl
  rw[dL hv]
  simp only[go_sem,h0,h1,h2,h3,l9 h4]
  exact Vw
 by_cases h5:s=[94]
 ·have hv:Src.vL s=(6,11,5):=by subst h5;rfl
  rw[dL hv]
  simp only[go_sem,h0,h1,h2,h3,h4,l9 h5]
  exact Vw
 by_cases h6:s=[38]
 ·have hv:Src.vL s=(6,9,6):=by subst h6;rfl
  rw[dL hv]
  simp only[go_sem,h0,h1,h2,h3,h4,h5,l9 h6]
  exact Vw
 by_cases h7:s=[60,60]
 ·have hv:Src.vL s=(6,12,7):=by subst h7;rfl
  rw[dL hv]
  simp only[go_sem,h0,h1,h2,h3,h4,h5,h6,l9 h7]
  exact Vw
 by_cases h8:s=[62,62]
 ·have hv:Src.vL s=(6,13,7):=by subst h8;rfl
  rw[dL hv]
  simp only[go_sem,h0,h1,h2,h3,h4,h5,h6,h7,l9 h8]
  exact Vw
 by_cases h9:s=[43]
 ·have hv:Src.vL s=(6,4,8):=by subst h9;rfl
  rw[dL hv]
  simp only[go_sem,h0,h1,h2,h3,h4,h5,h6,h7,h8,l9 h9]
  exact Vw
 by_cases h10:s=[45]
 ·have hv:Src.vL s=(6,5,8):=by subst h10;rfl
  rw[dL hv]
  simp only[go_sem,h0,h1,h2,h3,h4,h5,h6,h7,h8,h9,l9 h10]
  exact Vw
 by_cases h11:s=[42]
 ·have hv:Src.vL s=(6,6,9):=by subst h11;rfl
  rw[dL hv]
  simp only[go_sem,h0,h1,h2,h3,h4,h5,h6,h7,h8,h9,h10,l9 h11]
  exact Vw
 by_cases h12:s=[47]
 ·have hv:Src.vL s=(6,7,9):=by subst h12;rfl
  rw[dL hv]
  simp only[go_sem,h0,h1,h2,h3,h4,h5,h6,h7,h8,h9,h10,h11,l9 h12]
  exact Vw
 by_cases h13:s=[37]
 ·have hv:Src.vL s=(6,8,9):=by subst h13;rfl
  rw[dL hv]
  simp only[go_sem,h0,h1,h2,h3,h4,h5,h6,h7,h8,h9,h10,h11,h12,l9 h13]
  exact Vw
 have hv:Src.vL s=(0,0,0):=by unfold Src.vL;simp only[h0,h1,h2,h3,h4,h5,h6,h7,h8,h9,h10,h11,h12,h13,A9]
 rw[dL hv]
 simp only[go_sem,h0,h1,h2,h3,h4,h5,h6,h7,h8,h9,h10,h11,h12,h13]
 exact⟨_,dN rfl,rfl⟩
end
end Go.Proofs.YtgbcmokfgbmabaaGreatDoorR
namespace Go.Src
section
open Go.Asm (Str)
section
def PR.In {α:Type} (L n:Nat) (p:PR α):Prop:=∀a m,p=.ok a m→m≤max n L
theorem PR.bind_in {α β:Type}{L n:Nat}{p:PR α}{f:α→Nat→PR β} (h:p.In L n) (h':∀a m,(f a m).In L m):(p.bind f).In L n:=by
 intro b m hb
 cases p with
 |ok a k=>
   have h1:=h a k rfl
   have h2:=h' a k b m hb
   omega
 |no k=>cases hb
variable {k n:Nat}{α:Type}
theorem PR.in_ok{L n m:Nat}{a:α} (h:m≤max n L):(PR.ok a m).In L n:=fun b k e=>by cases e;exact h
theorem PR.in_no{L n m:Nat}:(PR.no m:PR α).In L n:=fun _ _ e=>by cases e
theorem PR.In.up{L n:Nat}{p:PR α} (h:p.In L (n+1)) (hn:n<L):p.In L n:=fun a m e=>by have:=h a m e;omega
theorem PR.in_here{L n:Nat}{a:α}:(PR.ok a n).In L n:=PR.in_ok a6
section
variable {ts:List Tok}
theorem cC {n:Nat}{s:Str} (h:ay ts n=s) (hs:s≠[]):n<ts.length:=by
 unfold ay at h
 split at h
 ·rename_i t ht
  exact(l4.1 ht).1
 ·exact absurd h.symm hs
theorem jg:(takeN ts k n).In ts.length n:=by
 intro a m h
 unfold takeN at h
 split at h
 ·rename_i t ht
  have:=(l4.1 ht).1
  split at h
  ·cases h;omega
  ·cases h
 ·cases h
theorem cj:∀{l:List Str}{n:Nat},(∀s∈l,s≠[])→(bE ts l n).In ts.length n
 |[],n,_=>PR.in_here
 |s::l,n,h=>by
   unfold bE
   split
   ·rename_i hp
    exact(cj (fun x hx=>h x (by simp[hx]))).up (cC hp (h s a7))
   ·exact PR.in_no
mutual
theorem fU:∀(k least n:Nat),(cL ts k least n).In ts.length n
 |0,_,_=>by unfold cL;exact PR.in_no
 |k+1,least,n=>by
   unfold cL
   exact PR.bind_in (yX k n) fun a m=>yW k least a m
theorem yW:∀(k least:Nat) (left:Ex) (n:Nat),(gX ts k least left n).In ts.length n
 |0,_,_,_=>by unfold gX;exact PR.in_no
 |k+1,least,left,n=>by
   unfold gX
   split
   ·exact PR.in_here
   ·rename_i h
    by_cases hn:n<ts.length
    ·exact(PR.bind_in (fU k _ (n+1)) fun b q=>yW k least _ q).up hn
    ·intro a m e
     have h1:=PR.bind_fwdE (er (ts:=ts) k ((vL (ay ts n)).2.2+1) (n+1)).le (fun b q=>qT k least _ q) a m e
     exfalso
     have hex:∀(k least n:Nat),ts.length≤n→∃q,cL ts k least n=.no q:=by
      intro k least n hl
      cases k with
      |zero=>exact⟨n,by unfold cL;rfl⟩
      |succ k=>
        have:∃q,eT ts k n=.no q:=by
         cases k with
         |zero=>exact⟨n,by unfold eT;rfl⟩
         |succ k=>
           have hg:ts[n]? = none:=D6 hl
           refine⟨n,?_⟩
           unfold eT
           have h1:dC ts n=0:=by unfold dC;rw[hg]
           have h2:ay ts n=[]:=by unfold ay;rw[hg]
           have h3:takeN ts 1 n=.no n:=by unfold takeN;rw[hg]
           rw[h1,h2,h3]
           simp[kl]
        obtain⟨q,hq⟩:=this
        exact⟨q,by unfold cL;rw[hq];rfl⟩
     obtain⟨q,hq⟩:=hex k ((vL (ay ts n)).2.2+1) (n+1) a6
     rw[hq] at e
     cases e
theorem yX:∀(k n:Nat),(eT ts k n).In ts.length n
 |0,_=>by unfold eT;exact PR.in_no
 |k+1,n=>by
   unfold eT
   split
   ·exact PR.bind_in jg fun a m=>PR.in_here
   split
   ·rename_i h
    exact(PR.bind_in (cj (by simp[kl,iN])) fun a m=>PR.in_here).up (cC h a7)
   split
   ·rename_i h
    exact(PR.bind_in (fU k 1 (n+1)) fun a m=>PR.bind_in (cj (by simp[iN])) fun b q=>PR.in_here).up (cC h (by simp[kl]))
   split
   ·rename_i h
    exact(PR.bind_in (yX k (n+1)) fun a m=>PR.in_here).up (cC h a7)
   refine PR.bind_in jg fun a m=>?_
   split
   ·rename_i h
    exact(PR.bind_in (fU k 1 (m+1)) fun a m=>PR.bind_in (cj a7) fun b q=>PR.in_here).up (cC h a7)
   split
   ·rename_i h
    exact(PR.bind_in (yY k (m+1)) fun a m=>PR.in_here).up (cC h (by simp[kl]))
   ·exact PR.in_here
theorem yY:∀(k n:Nat),(fG ts k n).In ts.length n
 |0,_=>by unfold fG;exact PR.in_no
 |k+1,n=>by
   unfold fG
   split
   ·rename_i h
    exact PR.in_here.up (cC h (by simp[iN]))
   ·exact PR.bind_in (fU k 1 n) fun a m=>yZ k [a] m
theorem yZ:∀(k:Nat) (l:List Ex) (n:Nat),(gY ts k l n).In ts.length n
 |0,_,_=>by unfold gY;exact PR.in_no
 |k+1,l,n=>by
   unfold gY
   split
   ·rename_i h
    exact(PR.bind_in (fU k 1 (n+1)) fun a m=>yZ k (l++[a]) m).up (cC h (by simp[wZ]))
   ·exact PR.bind_in (cj (by simp[iN])) fun b q=>PR.in_here
end
theorem qV:(jj ts k n).In ts.length n:=PR.bind_in (cj (by simp[kl])) fun _ m=>PR.bind_in (fU k 1 m) fun _ m=>PR.bind_in (cj (by simp[iN])) fun _ _=>PR.in_here
theorem DM:(iO ts k n).In ts.length n:=by
 unfold iO
 refine PR.bind_in jg fun t m=>PR.bind_in ?_ fun s q=>PR.bind_in (cj (by simp[kn])) fun _ _=>PR.in_here
 split
 ·rename_i h
  exact(PR.bind_in (fU k 1 (m+1)) fun _ _=>PR.in_here).up (cC h a7)
 split
 ·rename_i h
  exact(PR.bind_in (fU k 1 (m+1)) fun _ _=>PR.bind_in (cj a7) fun _ q=>PR.bind_in (fU k 1 q) fun _ _=>PR.in_here).up (cC h a7)
 split
 ·rename_i h
  exact(PR.bind_in (yY k (m+1)) fun _ _=>PR.in_here).up (cC h (by simp[kl]))
 ·exact PR.in_no
mutual
theorem Hk:∀(k n:Nat),(jn ts k n).In ts.length n
 |0,_=>by unfold jn;exact PR.in_no
 |k+1,n=>by
   unfold jn
   split
   ·rename_i h
    exact(PR.bind_in qV fun _ _=>PR.bind_in (cj (by simp[kn])) fun _ _=>PR.in_here).up (cC h a7)
   split
   ·rename_i h
    split
    ·rename_i h2
     have:=cC h2 (by simp[kn])
     exact PR.in_ok a6
    ·exact(PR.bind_in (fU k 1 (n+1)) fun _ _=>PR.bind_in (cj (by simp[kn])) fun _ _=>PR.in_here).up (cC h a7)
   split
   ·rename_i h
    refine(PR.bind_in qV fun _ m=>PR.bind_in (uk k m) fun _ q=>?_).up (cC h a7)
    split
    ·rename_i h2
     exact(PR.bind_in (uk k (q+1)) fun _ _=>PR.in_here).up (cC h2 a7)
    ·exact PR.in_here
   split
   ·rename_i h
    exact(PR.bind_in qV fun _ m=>PR.bind_in (uk k m) fun _ _=>PR.in_here).up (cC h a7)
   ·exact DM
theorem uk:∀(k n:Nat),(iE ts k n).In ts.length n
 |0,_=>by unfold iE;exact PR.in_no
 |k+1,n=>by
   unfold iE
   exact PR.bind_in (cj a7) fun _ m=>qW k [] m
theorem qW:∀(k:Nat) (l:List Stm) (n:Nat),(cX ts k l n).In ts.length n
 |0,_,_=>by unfold cX;exact PR.in_no
 |k+1,l,n=>by
   unfold cX
   split
   ·rename_i h
    exact PR.in_here.up (cC h a7)
   ·exact PR.bind_in (Hk k n) fun a m=>qW k _ m
end
theorem rL:∀{k:Nat}{l:List Str}{n:Nat},(dZ ts k l n).In ts.length n
 |0,_,_=>by unfold dZ;exact PR.in_no
 |k+1,l,n=>by
   unfold dZ
   split
   ·rename_i h
    exact(PR.bind_in jg fun _ _=>rL).up (cC h (by simp[wZ]))
   ·exact PR.in_here
theorem qX:(eg ts k n).In ts.length n:=PR.bind_in jg fun _ _=>rL
theorem pW:∀{k:Nat}{l:List Str}{n:Nat}{l':List Str}{m:Nat},dZ ts k l n=.ok l' m→l'.length+n≤l.length+m
 |0,_,_,_,_,h=>by unfold dZ at h;cases h
 |k+1,l,n,l',m,h=>by
   unfold dZ at h
   split at h
   ·cases ht:takeN ts 1 (n+1) with
    |no q=>rw[ht] at h;cases h
    |ok t q=>
      rw[ht,PR.bind_ok] at h
      have h1:=fC (ts:=ts) t q ht
      have h2:=pW h
      rw[j5,M7] at h2
      omega
   ·cases h;omega
theorem AW{l:List Str}{m:Nat} (h:eg ts k n=.ok l m):l.length+n≤m:=by
 unfold eg at h
 cases ht:takeN ts 1 n with
 |no q=>rw[ht] at h;cases h
 |ok t q=>
   rw[ht,PR.bind_ok] at h
   have h1:=fC (ts:=ts) t q ht
   have h2:=pW h
   rw[M7] at h2
   omega
theorem ul:∀{k:Nat}{l:List Str}{n:Nat},(dv ts k l n).In ts.length n
 |0,_,_=>by unfold dv;exact PR.in_no
 |k+1,l,n=>by
   unfold dv
   split
   ·rename_i h
    exact(PR.bind_in qX fun _ _=>PR.bind_in (cj (by simp[kn])) fun _ _=>ul).up (cC h a7)
   ·exact PR.in_here
theorem Ck:(mh ts k n).In ts.length n:=by
 unfold mh
 refine PR.bind_in (cj a7) fun _ m=>PR.bind_in jg fun t m=>PR.bind_in (cj (by simp[kl])) fun _ m=>PR.bind_in ?_ fun ps m=>PR.bind_in (cj (by simp[iN])) fun _ m=>?_
 ·split
  ·exact qX
  ·exact PR.in_here
 ·have hb:∀v,((bE ts [[123]] v).bind fun _ m'=>(dv ts k [] m').bind fun ls m'=>(cX ts k [] m').bind fun b m'=>(PR.ok (Fn.mk t.text ps ls (decide (ay ts m=[119,111,114,100])) b) m')).In ts.length v:=fun v=>
   PR.bind_in (cj a7) fun _ m'=>PR.bind_in ul fun ls m'=>PR.bind_in (qW k [] m') fun b m'=>PR.in_here
  split
  ·rename_i h
   exact(hb (m+1)).up (cC h a7)
  ·exact hb m
theorem um:∀{k:Nat}{l:List Str}{ars:List (Str×Int)}{n:Nat},(lY ts k l ars n).In ts.length n
 |0,_,_,_=>by unfold lY;exact PR.in_no
 |k+1,l,ars,n=>by
   unfold lY
   split
   ·rename_i h
    exact(PR.bind_in qX fun _ _=>PR.bind_in (cj (by simp[kn])) fun _ _=>um).up (cC h a7)
   split
   ·rename_i h
    exact(PR.bind_in jg fun _ _=>PR.bind_in (cj a7) fun _ _=>PR.bind_in jg fun _ _=>PR.bind_in (cj a7) fun _ _=>PR.bind_in (cj (by simp[kn])) fun _ _=>um).up (cC h a7)
   ·exact PR.in_here
end
end
end
end Go.Src

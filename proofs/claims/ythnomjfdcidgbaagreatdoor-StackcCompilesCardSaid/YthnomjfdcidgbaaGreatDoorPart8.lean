/- A part of the proof; no conditions. -/
import Derived.Test.YthnomjfdcidgbaaGreatDoorPart7
set_option linter.unusedSimpArgs false
set_option linter.unusedVariables false
set_option maxHeartbeats 64000000
set_option maxRecDepth 100000
namespace Go.Am
section
attribute [local congr] Go.Am.ite_cc
theorem nu {P:Prop} (h:P:=by (try simp only[upd]);(repeat rw[if_neg (by omega)])):P:=h
theorem nt {P Q:Prop} (q:Q) (h:P=Q:=by (try simp only[upd]);(repeat rw[if_neg (by omega)])):P:=h▸q
theorem fi {ob1 ob2:Obs}{B B2:Nat} (hf:∀i,B≤i→ob1 i=none) (h:∀i,B2≤i→B≤i∧ob2 i=ob1 i:=by (intro i hi;refine⟨by omega,?_⟩;(try simp only[upd]);(repeat rw[if_neg (by omega)]))):∀i,B2≤i→ob2 i=none:=fun i hi=>(h i hi).2.trans (hf i (h i hi).1)
end
end Go.Am
namespace Go.Proofs.YthnomjfdcidgbaaGreatDoor
section
attribute [local congr] Go.Am.ite_cc
open Go Go.Am Go.Asm
open Go.Src (PR bO ah takeN bC)
section
def rdC (ts:List Src.Tok) (n fin:Nat):List C:=[.d (cF ts),.d (.int .i64 (n:Nat)),.d (.int .i64 (fin:Nat))]
def jC (ts:List Src.Tok) (fin n:Nat):Nat:=match ts[n]? with|some t=>t.place|none=>fin
def tD (k:Nat):List PanicEntry:=[{ v:=.iface 162 (.agg #[.int .i64 (k:Nat)]),recovered:=false }]
variable {ts:List Src.Tok}{g:Nat→Nat}{ob:Obs}{B:Nat}{s:St}{n fin:Nat}{y:Option (List C)}
theorem jD{n:Nat}{t:Src.Tok} (h:ts[n]? = some t):(ts.map gK)[n]? = some [.int .i64 (t.kind:Nat),.str t.text,.int .u32 (t.num:Nat),.int .i64 (t.place:Nat)]:=by rw[x7,h];rfl
def OkR {α:Type} (ts:List Src.Tok) (fin:Nat) (p:PR α) (enc:α→AV) (g:Nat→Nat) (ob:Obs) (r:AV) (g':Nat→Nat) (ob':Obs):Prop:=
 g'=g∧∃a m,p=.ok a m∧r=enc a∧ob'=upd ob 125 (some (rdC ts m fin))
def NoR {α:Type} (ts:List Src.Tok) (fin:Nat) (p:PR α) (g:Nat→Nat) (ob:Obs):Pan:=fun ch g' ob'=>
 g'=g∧∃m,p=.no m∧ch=tD (jC ts fin m)∧ob'=upd ob 125 (some (rdC ts m fin))
def ft {α:Type} (f:FuncId) (xs:List AV) (ts:List Src.Tok) (n fin:Nat) (p:PR α) (enc:α→AV):Prop:=
 ∀(B:Nat) (g:Nat→Nat) (ob:Obs),200≤B→(∀i,B≤i→ob i=none)→ob 125=some (rdC ts n fin)→
  dN Tryz.prog f (.one (.ptr 125 (g 125) 0)::xs) g ob (OkR ts fin p enc g ob) (NoR ts fin p g ob)
structure InF (B:Nat) (g:Nat→Nat) (ob:Obs) (g':Nat→Nat) (ob':Obs):Prop where
 same:∀i,i<B→i≠125→g' i=g i∧ob' i=ob i
 rd:g' 125=g 125
theorem InF.refl:InF B g ob g ob:=⟨fun _ _ _=>⟨rfl,rfl⟩,rfl⟩
theorem InF.go{g g1 g2:Nat→Nat}{ob ob1 ob2:Obs} (h:InF B g ob g1 ob1) (q:(∀i,i<B→i≠125→g2 i=g1 i∧ob2 i=ob1 i)∧g2 125=g1 125:=by (refine⟨fun i hi h5=>⟨?_,?_⟩,?_⟩ <;> ((try simp only[upd]);(repeat rw[if_neg (by omega)]);first|done|rfl))):InF B g ob g2 ob2:=
 ⟨fun i hi h5=>⟨(q.1 i hi h5).1.trans (h.same i hi h5).1,(q.1 i hi h5).2.trans (h.same i hi h5).2⟩,q.2.trans h.rd⟩
theorem InF.put {B j:Nat}{g g1:Nat→Nat}{ob ob1:Obs} (h:InF B g ob g1 ob1) (hj:B≤j):InF B g ob g1 (upd ob1 j y):=⟨fun i hi h5=>⟨(h.same i hi h5).1,by simp only[upd];rw[if_neg a6];exact(h.same i hi h5).2⟩,h.rd⟩
theorem InF.newG {B j x:Nat}{g g1:Nat→Nat}{ob ob1:Obs} (h:InF B g ob g1 ob1) (hj:B≤j) (hB:125<B):InF B g ob (upd g1 j x) ob1:=⟨fun i hi h5=>⟨by simp only[upd];rw[if_neg a6];exact(h.same i hi h5).1,(h.same i hi h5).2⟩,by simp only[upd];rw[if_neg a6];exact h.rd⟩
theorem InF.rdr{g g1:Nat→Nat}{ob ob1:Obs} (h:InF B g ob g1 ob1):InF B g ob g1 (upd ob1 125 y):=⟨fun i hi h5=>⟨(h.same i hi h5).1,by simp only[upd];rw[if_neg h5];exact(h.same i hi h5).2⟩,h.rd⟩
theorem InF.ends {B n fin:Nat}{g g1:Nat→Nat}{ob ob1:Obs} (h:InF B g ob g1 ob1) (ho:ob1 125=some (rdC ts n fin)):Co B [125] g ob g1 ob1∧jz [125] g g1=g∧fA [125] ob ob1=upd ob 125 (some (rdC ts n fin)):=by
 refine⟨⟨fun i hi h5=>h.same i hi (by simpa using h5),fun i hi cells hc c hcc=>?_⟩,xm h.rd,by rw[xn,ho]⟩
 obtain rfl:=C5.1 hi
 rw[ho] at hc
 cases hc
 simp only[rdC,y2,z7,D6] at hcc
 rcases hcc with rfl|rfl|rfl <;> trivial
theorem InF.ret {α:Type}{B n fin:Nat}{p:PR α}{enc:α→AV}{avs rs:List AV}{a:α} (h:InF B g ob s.gen s.obj) (ho:s.obj 125=some (rdC ts n fin)) (hp:p=.ok a n) (hf:eK B s avs rs) (hr:pack rs=enc a):bi B [125] g ob (OkR ts fin p enc g ob) s avs:=by
 obtain⟨h1,h2,h3⟩:=h.ends ho
 exact⟨h1,rs,hf,h2,a,n,hp,hr,h3⟩
theorem InF.pan {α:Type}{B n fin:Nat}{g g1:Nat→Nat}{ob ob1:Obs}{p:PR α}{ch:List PanicEntry} (h:InF B g ob g1 ob1) (ho:ob1 125=some (rdC ts n fin)) (hp:p=.no n) (hc:ch=tD (jC ts fin n)) :
  Co B [125] g ob g1 ob1∧NoR ts fin p g ob ch (jz [125] g g1) (fA [125] ob ob1):=by
 obtain⟨h1,h2,h3⟩:=h.ends ho
 exact⟨h1,h2,n,hp,hc,h3⟩
section
variable {b₀:Bs}{rd:Option Nat}{Φ:St→Am.Loc→List Deferred→World→Prop}
theorem az {α α':Type} (hΦ:aY b₀ Φ) {o:Oper}{K:St→Prop}{k:Box K}{f:FuncId}{args:Array Operand}{tys:Array TypeId} (ho:o.op=.call ⟨.value (.func f),args,tys⟩) {xs:List AV}{p:PR α}{enc:α→AV}
  (hr:ft f xs ts n fin p enc) (hx:args.toList.map s.ev=.one (.ptr 125 (s.gen 125) 0)::xs) (Bc:Nat) (hB:200≤Bc) (hfree:∀i,Bc≤i→s.obj i=none) (hob:s.obj 125=some (rdC ts n fin)) {B B0:Nat}{p':PR α'} (hin:InF B g ob s.gen s.obj)
  (hno:∀m,p=.no m→p'=.no m) (hk:∀a m,p=.ok a m→K (St.put ⟨s.f,s.gen,upd s.obj 125 (some (rdC ts m fin))⟩ o.dst (enc a))):bh (spF Tryz.prog rd b₀ Φ B0 (DQ B [125] g ob (NoR ts fin p' g ob))) o s k:=by
 refine bN (R:=OkR ts fin p enc s.gen s.obj) (Ψ0:=NoR ts fin p s.gen s.obj) hΦ ho (by rw[hx];exact hr Bc s.gen s.obj hB hfree hob) ?_ ?_
 ·exact Xp
 ·rintro r g' ob' ⟨rfl,a,m,hp,rfl,rfl⟩
  exact hk a m hp
end
theorem mu (xs:List D):kp s (.agg (xs.map .d)) (.agg ((xs.map ge).map .d)):=by
 refine⟨xs.map ge,a7,fun i c hc=>?_,rfl⟩
 rw[x7] at hc ⊢
 cases hq:xs[i]? with
 |none=>rw[hq] at hc;cases hc
 |some x=>rw[hq] at hc;cases hc;exact⟨_,rfl,.d x⟩
theorem nlo (hB:200≤B) (k:Nat):(125=B+k)=False:=by simp;omega
theorem nhi (hB:200≤B) (k:Nat):(B+k=125)=False:=by simp;omega
theorem ER (ho:ob 125=some (rdC ts n fin)) :
  iN Tryz.prog 126 [.one (.ptr 125 (g 125) 0)] g ob (fun r g' ob'=>r=iv .i64 (bO ts n:Nat)∧g'=g∧ob'=ob):=by
 refine hdF 9000 Tryz.func126 rfl [2] ?_
 unfold rdC cF at ho
 have hn0:(0:Int)≤(n:Int):=a6
 simp only[go_sem]
 refine bP b9 ?_
 unfold bO
 by_cases hlt:n<ts.length
 ·have hlti:(n:Int)<(ts.length:Int):=a6
  obtain⟨t,ht⟩:=getq hlt
  have htg:=jD ht
  rw[ht]
  simp only[go_sem,ho,j4,hlti]
  exact Wj
 ·have hlti:¬(n:Int)<(ts.length:Int):=a6
  rw[A5 a6]
  simp only[go_sem,ho,j4,hlti]
  exact VA
theorem zQ {B n fin:Nat} (hB:200≤B) (hf:∀i,B≤i→ob i=none) (ho:ob 125=some (rdC ts n fin)) :
  iN Tryz.prog 125 [.one (.ptr 125 (g 125) 0)] g ob (fun r g' ob'=>r=sv (ah ts n)∧g'=g∧ob'=ob):=by
 refine zm B aU mixed Tryz.func125 rfl c9 [2] rfl c8 (by simp[Tryz.ntmps125]) hf ?_
 have n1:=nlo hB
 have n2:=nhi hB
 unfold rdC cF at ho
 have hn0:(0:Int)≤(n:Int):=a6
 simp only[go_sem]
 refine bP b9 ?_
 unfold ah
 by_cases hlt:n<ts.length
 case neg=>
  have hlti:¬(n:Int)<(ts.length:Int):=a6
  rw[A5 a6]
  simp only[go_sem,ho,j4,hlti]
 have hlti:(n:Int)<(ts.length:Int):=a6
 obtain⟨t,ht⟩:=getq hlt
 have htg:=jD ht
 rw[ht]
 simp only[go_sem,ho,j4,hlti]
 refine fX aU mixed [B+3] [([0],[0],[],false),([14],[0],[],false),([15],[0],[],false),([16],[0],[],false),([0],[0],[],false),([18],[0],[],false),([19],[0],[],false),([20],[0],[],false),([17,21],[0],[],false),([22],[0],[],false),([],[],[0],false),([3,23],[],[],true)] 1 b9 rfl a7 ?_
 simp only[go_sem]
 iterate 10 (apply aG;· (intro fa ga oa K' hK;simp only[go_sem,ho,hn0,htg,n1,n2] at hK ⊢;exact hK))
 (apply cK;· (intro fa ga oa K' hK;simp only[go_sem] at hK ⊢;exact hK))
 apply cN
 intro K' hK'
 simp only[go_sem]
 refine hK' _ ?_
 clear hK' K'
 have hw:(t.kind=3∨t.kind=4)↔((t.kind:Int)=3∨(t.kind:Int)=4):=a6
 have hS:∀(x:Nat) (y z:Option (List C)),(∀i,i<B→upd g (B+3) x i=g i)∧∀i,i<B→upd (upd ob (B+3) y) (B+3) z i=ob i:=fun x y z=>⟨fun i hi=>by simp only[upd];rw[if_neg a6],fun i hi=>by simp only[upd];rw[if_neg a6,if_neg a6]⟩
 by_cases h3:(t.kind:Int)=3
 ·rw[if_pos (hw.2 (.inl h3))]
  simp only[go_sem,h3]
  exact hS _ _ _
 by_cases h4:(t.kind:Int)=4
 ·rw[if_pos (hw.2 (.inr h4))]
  simp only[go_sem,h3,h4]
  exact hS _ _ _
 ·rw[if_neg (fun h=>(hw.1 h).elim h3 h4)]
  simp only[go_sem,h3,h4]
  exact hS _ _ _
def TA (ts:List Src.Tok) (n fin:Nat) (s:Str) (g:Nat→Nat) (ob:Obs) (r:AV) (g':Nat→Nat) (ob':Obs):Prop:=
 g'=g∧((ah ts n=s∧r=bv true∧ob'=upd ob 125 (some (rdC ts (n+1) fin)))∨(ah ts n≠s∧r=bv false∧ob'=ob))
theorem QM {B n fin:Nat} (hB:200≤B) (hf:∀i,B≤i→ob i=none) (ho:ob 125=some (rdC ts n fin)) (hn:n≤1000000) (s:Str) :
  iN Tryz.prog 75 [.one (.ptr 125 (g 125) 0),sv s] g ob (TA ts n fin s g ob):=by
 refine hdF B Tryz.func75 rfl [4] ?_
 have hw:=ae (k:=n) a6
 have ho':=ho
 unfold rdC cF at ho
 simp only[go_sem]
 refine ez rfl (by simp only[go_sem];exact zQ hB hf ho') ?_
 rintro _ g1 ob1 ⟨rfl,rfl,rfl⟩
 by_cases he:ah ts n=s
 ·simp only[go_sem,he,ho,hw]
  refine⟨_,ab.refl _,rfl,.inl ⟨he,rfl,?_⟩⟩
  simp only[go_sem,rdC,cF]
 ·simp only[go_sem,he]
  exact⟨_,ab.refl _,rfl,.inr ⟨he,rfl,rfl⟩⟩
theorem wj (ho:ob 125=some (rdC ts n fin)) :
  dN Tryz.prog 74 [.one (.ptr 125 (g 125) 0)] g ob (fun _ _ _=>False) (fun ch g' ob'=>ch=tD (jC ts fin n)∧g'=g∧ob'=ob):=by
 refine hdX 9000 Tryz.func74 rfl [] fun b₀ β0 s0 w0=>?_
 unfold rdC cF at ho
 have hn0:(0:Int)≤(n:Int):=a6
 simp only[go_sem]
 refine aM b9 ?_
 unfold jC
 by_cases hlt:n<ts.length
 ·have hlti:(n:Int)<(ts.length:Int):=a6
  obtain⟨t,ht⟩:=getq hlt
  have htg:=jD ht
  rw[ht]
  simp only[go_sem,ho,j4,hlti]
  refine aM b9 ?_
  simp only[go_sem,ho,hn0,htg]
  refine sW (k:=bx _) aa rfl (aU 162 rfl).desc (by simp only[go_sem];exact⟨rfl,rfl⟩) ?_
  simp only[go_sem]
  refine sX (k:=bx _) (t:=162) (u:=.agg #[.int .i64 (t.place:Nat)]) rfl Xz ?_
  exact⟨rfl,rfl,rfl⟩
 ·have hlti:¬(n:Int)<(ts.length:Int):=a6
  rw[A5 a6]
  simp only[go_sem,ho,j4,hlti]
  refine sW (k:=bx _) aa rfl (aU 162 rfl).desc (by simp only[go_sem];exact⟨rfl,rfl⟩) ?_
  simp only[go_sem]
  refine sX (k:=bx _) (t:=162) (u:=.agg #[.int .i64 (fin:Nat)]) rfl Xz ?_
  exact⟨rfl,rfl,rfl⟩
end
end
section
attribute [local congr] Go.Am.ite_cc
open Go Go.Am Go.Asm
open Go.Src (PR bO ah takeN bC Ex)
section
variable {ts:List Src.Tok}
theorem HQ{kd n:Nat}{t:Src.Tok} (ht:ts[n]? = some t) (hk:t.kind=kd):takeN ts kd n=.ok t (n+1):=by unfold takeN;rw[ht];simp[hk]
theorem nl (ts:List Src.Tok) (n fin kd:Nat) (hn:n≤1000000) (hk:0<kd):ft 77 [iv .i64 kd] ts n fin (takeN ts kd n) gv:=by
 intro B g ob hB hf ho
 refine hdM B [125] Tryz.func77 rfl [.cell 4 104] Xy hf fun b₀ β0 s0 w0=>?_
 have hw:=ae (k:=n) a6
 have hn0:(0:Int)≤(n:Int):=a6
 have n1:=nlo hB
 have n2:=nhi hB
 have hO:∀y,upd ob (B+4) y 125=some (rdC ts n fin):=fun y=>by simp only[upd];rw[if_neg a6];exact ho
 have hG:∀x,upd g (B+4) x 125=g 125:=fun x=>by simp only[upd];rw[if_neg a6]
 simp only[go_sem,n1,n2]
 refine da aa rfl (by simp only[go_sem,n1,n2];rw[←hG (nxC 105 (g (B+4)))];exact ER (hO _)) ?_
 rintro _ g1 ob1 ⟨rfl,rfl,rfl⟩
 by_cases hk1:bO ts n=kd
 case neg=>
  have hki:¬(bO ts n:Int)=(kd:Int):=a6
  have hp:takeN ts kd n=.no n:=by
   unfold takeN
   unfold bO at hk1
   cases hq:ts[n]? with
   |none=>rfl
   |some t=>rw[hq] at hk1;simp only at hk1;simp[hk1]
  simp only[go_sem,hki]
  refine bN (R:=fun _ _ _=>False) aa rfl (by simp only[go_sem,n1,n2];rw[←hG (nxC 105 (g (B+4)))];exact wj (hO _)) ?_ (fun _ _ _ h=>h.elim)
  rintro ch g' ob' ⟨rfl,rfl,rfl⟩
  exact((InF.refl.newG a6 a6).put a6).pan (hO _) hp rfl
 have hki:(bO ts n:Int)=(kd:Int):=a6
 obtain⟨t,ht⟩:∃t,ts[n]? = some t:=by
  unfold bO at hk1
  cases hq:ts[n]? with
  |some t=>exact⟨t,rfl⟩
  |none=>rw[hq] at hk1;simp only at hk1;omega
 have htg:=jD ht
 have hkt:t.kind=kd:=by unfold bO at hk1;rw[ht] at hk1;exact hk1
 have hp:=HQ ht hkt
 unfold rdC cF at ho
 simp only[go_sem,hki]
 refine nF (B:=B) aU mixed aa [B+5] [([0],[0],[],false),([12],[0],[],false),([13],[0],[],false),([14],[0],[],false),([0],[0],[],false),([16],[0],[],false),([17],[0],[],false),([18],[0],[],false),([15,19],[0],[],false),([20],[0],[],false),([],[],[0],false),([5,21],[],[],true)] 1 rfl b9 rfl a7 ?_
 simp only[go_sem]
 iterate 10 (apply aG;· (intro fa ga oa K' hK;simp only[go_sem,ho,hn0,htg,n1,n2] at hK ⊢;exact hK))
 (apply cK;· (intro fa ga oa K' hK;simp only[go_sem] at hK ⊢;exact hK))
 apply cN
 intro K' hK'
 simp only[go_sem]
 refine hK' _ ?_
 clear hK' K'
 simp only[go_sem,ho,hw,n1,n2]
 refine⟨_,ab.refl _,?_⟩
 simp only[go_sem,n1,n2]
 refine InF.ret (rs:=[gv t]) (B:=B) (n:=n+1) (p:=takeN ts kd n) (enc:=gv) ?_ ?_ hp ?_ rfl
 ·exact(((((InF.refl.newG a6 a6).newG a6 a6).put a6).put a6).put a6).rdr.put a6
 ·simp only[go_sem,n1,n2,rdC,cF]
 ·exact VD
def bm (l:List Str):List C:=l.map fun s=>.d (.str s)
theorem LZ {B n fin j:Nat}{g:Nat→Nat}{ob:Obs} (l:List Str) (hB:200≤B) (hf:∀i,B≤i→ob i=none) (ho:ob 125=some (rdC ts n fin)) (hn:n+l.length≤1000000) (hj:j<B) (hj1:j≠125) (hjo:ob j=some (bm l)) :
  dN Tryz.prog 78 [.one (.ptr 125 (g 125) 0),.one (.osl j (g j) 1 0 l.length)] g ob (OkR ts fin (bC ts l n) (fun _=>uv) g ob) (NoR ts fin (bC ts l n) g ob):=by
 refine hdM B [125] Tryz.func78 rfl [] Xy hf fun b₀ β0 s0 w0=>?_
 have n1:=nlo hB
 have n2:=nhi hB
 obtain⟨p,hp⟩:∃p,bC ts l n=p:=⟨_,rfl⟩
 rw[hp]
 simp only[go_sem]
 refine⟨by rw[hjo];rfl,?_⟩
 refine ai (fun m st=>∃k:Nat,m+k=l.length∧st.f 0=.one (.ptr 125 (g 125) 0)∧st.f 6=.one (.osl j (g j) 1 0 l.length)∧st.f 7=iv .i64 l.length∧st.f 8=iv .i64 k∧st.gen=g∧st.obj=upd ob 125 (some (rdC ts (n+k) fin))∧bC ts (l.drop k) (n+k)=p) l.length ?_ ?_
 ·refine⟨0,rfl,?_⟩
  simp only[go_sem]
  refine⟨?_,by simpa using hp⟩
  funext i
  simp only[upd,J5]
  split
  ·rename_i e;subst e;exact ho
  ·rfl
 rintro m f g1 ob1 ⟨k,hk,q0,q6,q7,q8,rfl,rfl,hpk⟩
 simp only at q0 q6 q7 q8
 have hw:=ae (k:=k) a6
 have hwn:=ae (k:=n+k) a6
 have hO:upd ob 125 (some (rdC ts (n+k) fin)) 125=some (rdC ts (n+k) fin):=by simp[upd]
 have hF:∀i,B≤i→upd ob 125 (some (rdC ts (n+k) fin)) i=none:=fun i hi=>by simp only[upd];rw[if_neg a6];exact hf i hi
 by_cases hlt:k<l.length
 case neg=>
  have hki:¬(k:Int)<(l.length:Int):=a6
  obtain rfl:k=l.length:=a6
  rw[A1 (j8 _)] at hpk
  simp only[go_sem,q7,q8,hki]
  refine⟨_,ab.refl _,?_⟩
  simp only[go_sem]
  exact InF.ret (rs:=[]) (a:=()) InF.refl.rdr hO hpk.symm rfl rfl
 have hki:(k:Int)<(l.length:Int):=a6
 have hk0:(0:Int)≤(k:Int):=a6
 obtain⟨s,hs⟩:=getq hlt
 have hjs:(bm l)[k]? = some (.d (.str s)):=by unfold bm;rw[x7,hs];rfl
 have hjk:upd ob 125 (some (rdC ts (n+k) fin)) j=some (bm l):=by simp only[upd];rw[if_neg hj1];exact hjo
 have hjS:(bm l).length=l.length:=j4 _
 have hkk:(k:Int).toNat=k:=a6
 have hd:l.drop k=s::l.drop (k+1):=by rw[y9 hlt];rw[w8 hlt] at hs;cases hs;rfl
 rw[hd] at hpk
 simp only[go_sem,q0,q6,q7,q8,hki,hjk,hk0,hjs,hkk]
 refine da aa rfl (by simp only[go_sem,q0];exact zQ hB hF hO) ?_
 rintro _ g2 ob2 ⟨rfl,rfl,rfl⟩
 by_cases he:ah ts (n+k)=s
 case neg=>
  rw[bC,if_neg he] at hpk
  simp only[go_sem,he,q0]
  refine bN (R:=fun _ _ _=>False) aa rfl (by simp only[go_sem,q0];exact wj hO) ?_ (fun _ _ _ h=>h.elim)
  rintro ch g' ob' ⟨rfl,rfl,rfl⟩
  exact InF.refl.rdr.pan hO hpk.symm rfl
 rw[bC,if_pos he] at hpk
 simp only[go_sem,he,q0,rdC,cF,hwn,q8,hw]
 refine ac (m-1) a6 ⟨k+1,a6,?_⟩
 simp only[go_sem,q0,q6,q7]
 refine⟨?_,hpk⟩
 funext i
 simp only[upd]
 split <;> rfl
theorem iq (op:Int):aA Tryz.prog 256 [iv .i64 op] (· = .agg [.d (.int .i64 6),.d (.int .i64 op),.d (.int .u32 0),.d (.str []),.d (.sl [])]):=by
 refine hdR Tryz.func256 rfl [.cell 2 210] fun g=>?_
 simp only[go_sem]
 refine⟨_,mu [.int .i64 6,.int .i64 op,.int .u32 0,.str [],.nsl],rfl⟩
end
end
end Go.Proofs.YthnomjfdcidgbaaGreatDoor
namespace Go.Src
section
open Go.Asm (Str)
section
def PR.In {α:Type} (L n:Nat) (p:PR α):Prop:=∀a m,p=.ok a m→m≤max n L
theorem PR.bind_in {α β:Type}{L n:Nat}{p:PR α}{f:α→Nat→PR β} (h:p.In L n) (h':∀a m,(f a m).In L m):(p.bind f).In L n:=by
 intro b m hb
 cases p with
 |ok a k=>
   have h1:=h a k rfl
   have h2:=h' a k b m hb
   omega
 |no k=>cases hb
variable {k n:Nat}{α:Type}
theorem PR.in_ok{L n m:Nat}{a:α} (h:m≤max n L):(PR.ok a m).In L n:=fun b k e=>by cases e;exact h
theorem PR.in_no{L n m:Nat}:(PR.no m:PR α).In L n:=fun _ _ e=>by cases e
theorem PR.In.up{L n:Nat}{p:PR α} (h:p.In L (n+1)) (hn:n<L):p.In L n:=fun a m e=>by have:=h a m e;omega
theorem PR.in_here{L n:Nat}{a:α}:(PR.ok a n).In L n:=PR.in_ok a6
section
variable {ts:List Tok}
theorem bc {n:Nat}{s:Str} (h:ah ts n=s) (hs:s≠[]):n<ts.length:=by
 unfold ah at h
 split at h
 ·rename_i t ht
  exact(l0.1 ht).1
 ·exact absurd h.symm hs
theorem Je {n k:Nat} (h:bO ts n=k) (hk:k≠0):n<ts.length:=by
 unfold bO at h
 split at h
 ·rename_i t ht
  exact(l0.1 ht).1
 ·exact absurd h.symm hk
theorem jb:(takeN ts k n).In ts.length n:=by
 intro a m h
 unfold takeN at h
 split at h
 ·rename_i t ht
  have:=(l0.1 ht).1
  split at h
  ·cases h;omega
  ·cases h
 ·cases h
theorem cq:∀{l:List Str}{n:Nat},(∀s∈l,s≠[])→(bC ts l n).In ts.length n
 |[],n,_=>PR.in_here
 |s::l,n,h=>by
   unfold bC
   split
   ·rename_i hp
    exact(cq (fun x hx=>h x (by simp[hx]))).up (bc hp (h s a7))
   ·exact PR.in_no
mutual
theorem ig:∀(k least n:Nat),(cA ts k least n).In ts.length n
 |0,_,_=>by unfold cA;exact PR.in_no
 |k+1,least,n=>by
   unfold cA
   exact PR.bind_in (yO k n) fun a m=>yN k least a m
theorem yN:∀(k least:Nat) (left:Ex) (n:Nat),(fc ts k least left n).In ts.length n
 |0,_,_,_=>by unfold fc;exact PR.in_no
 |k+1,least,left,n=>by
   unfold fc
   split
   ·exact PR.in_here
   ·rename_i h
    by_cases hn:n<ts.length
    ·exact(PR.bind_in (ig k _ (n+1)) fun b q=>yN k least _ q).up hn
    ·intro a m e
     have h1:=PR.bind_fwdE (bI (ts:=ts) k ((ew (ah ts n)).2.2+1) (n+1)).le (fun b q=>qP k least _ q) a m e
     exfalso
     have hex:∀(k least n:Nat),ts.length≤n→∃q,cA ts k least n=.no q:=by
      intro k least n hl
      cases k with
      |zero=>exact⟨n,by unfold cA;rfl⟩
      |succ k=>
        have:∃q,eq ts k n=.no q:=by
         cases k with
         |zero=>exact⟨n,by unfold eq;rfl⟩
         |succ k=>
           have hg:ts[n]? = none:=A5 hl
           refine⟨n,?_⟩
           unfold eq
           have h1:bO ts n=0:=by unfold bO;rw[hg]
           have h2:ah ts n=[]:=by unfold ah;rw[hg]
           have h3:takeN ts 1 n=.no n:=by unfold takeN;rw[hg]
           rw[h1,h2,h3]
           simp[bL]
        obtain⟨q,hq⟩:=this
        exact⟨q,by unfold cA;rw[hq];rfl⟩
     obtain⟨q,hq⟩:=hex k ((ew (ah ts n)).2.2+1) (n+1) a6
     rw[hq] at e
     cases e
theorem yO:∀(k n:Nat),(eq ts k n).In ts.length n
 |0,_=>by unfold eq;exact PR.in_no
 |k+1,n=>by
   unfold eq
   split
   ·exact PR.bind_in jb fun a m=>PR.in_here
   split
   ·rename_i h
    exact(PR.bind_in (cq (by simp[bL,bB])) fun a m=>PR.in_here).up (bc h a7)
   split
   ·rename_i h
    exact(PR.bind_in (ig k 1 (n+1)) fun a m=>PR.bind_in (cq Ym) fun b q=>PR.in_here).up (bc h Yf)
   split
   ·rename_i h
    exact(PR.bind_in (yO k (n+1)) fun a m=>PR.in_here).up (bc h a7)
   refine PR.bind_in jb fun a m=>?_
   split
   ·rename_i h
    exact(PR.bind_in (ig k 1 (m+1)) fun a m=>PR.bind_in (cq a7) fun b q=>PR.in_here).up (bc h a7)
   split
   ·rename_i h
    exact(PR.bind_in (yP k (m+1)) fun a m=>PR.in_here).up (bc h Yf)
   ·exact PR.in_here
theorem yP:∀(k n:Nat),(eL ts k n).In ts.length n
 |0,_=>by unfold eL;exact PR.in_no
 |k+1,n=>by
   unfold eL
   split
   ·rename_i h
    exact PR.in_here.up (bc h Ym)
   ·exact PR.bind_in (ig k 1 n) fun a m=>yQ k [a] m
theorem yQ:∀(k:Nat) (l:List Ex) (n:Nat),(fd ts k l n).In ts.length n
 |0,_,_=>by unfold fd;exact PR.in_no
 |k+1,l,n=>by
   unfold fd
   split
   ·rename_i h
    exact(PR.bind_in (ig k 1 (n+1)) fun a m=>yQ k (l++[a]) m).up (bc h YS)
   ·exact PR.bind_in (cq Ym) fun b q=>PR.in_here
end
theorem qR:(fJ ts k n).In ts.length n:=PR.bind_in (cq Yf) fun _ m=>PR.bind_in (ig k 1 m) fun _ m=>PR.bind_in (cq Ym) fun _ _=>PR.in_here
theorem Dc:(eT ts k n).In ts.length n:=by
 unfold eT
 refine PR.bind_in jb fun t m=>PR.bind_in ?_ fun s q=>PR.bind_in (cq Yr) fun _ _=>PR.in_here
 split
 ·rename_i h
  exact(PR.bind_in (ig k 1 (m+1)) fun _ _=>PR.in_here).up (bc h a7)
 split
 ·rename_i h
  exact(PR.bind_in (ig k 1 (m+1)) fun _ _=>PR.bind_in (cq a7) fun _ q=>PR.bind_in (ig k 1 q) fun _ _=>PR.in_here).up (bc h a7)
 split
 ·rename_i h
  exact(PR.bind_in (yP k (m+1)) fun _ _=>PR.in_here).up (bc h Yf)
 ·exact PR.in_no
mutual
theorem ub:∀(k n:Nat),(gy ts k n).In ts.length n
 |0,_=>by unfold gy;exact PR.in_no
 |k+1,n=>by
   unfold gy
   split
   ·rename_i h
    exact(PR.bind_in qR fun _ _=>PR.bind_in (cq Yr) fun _ _=>PR.in_here).up (bc h a7)
   split
   ·rename_i h
    split
    ·rename_i h2
     have:=bc h2 Yr
     exact PR.in_ok a6
    ·exact(PR.bind_in (ig k 1 (n+1)) fun _ _=>PR.bind_in (cq Yr) fun _ _=>PR.in_here).up (bc h a7)
   split
   ·rename_i h
    refine(PR.bind_in qR fun _ m=>PR.bind_in (uc k m) fun _ q=>?_).up (bc h a7)
    split
    ·rename_i h2
     exact(PR.bind_in (uc k (q+1)) fun _ _=>PR.in_here).up (bc h2 a7)
    ·exact PR.in_here
   split
   ·rename_i h
    exact(PR.bind_in qR fun _ m=>PR.bind_in (uc k m) fun _ _=>PR.in_here).up (bc h a7)
   ·exact Dc
theorem uc:∀(k n:Nat),(fN ts k n).In ts.length n
 |0,_=>by unfold fN;exact PR.in_no
 |k+1,n=>by
   unfold fN
   exact PR.bind_in (cq a7) fun _ m=>nX k [] m
theorem nX:∀(k:Nat) (l:List Stm) (n:Nat),(cB ts k l n).In ts.length n
 |0,_,_=>by unfold cB;exact PR.in_no
 |k+1,l,n=>by
   unfold cB
   split
   ·rename_i h
    exact PR.in_here.up (bc h a7)
   ·exact PR.bind_in (ub k n) fun a m=>nX k _ m
end
theorem rF:∀{k:Nat}{l:List Str}{n:Nat},(cI ts k l n).In ts.length n
 |0,_,_=>by unfold cI;exact PR.in_no
 |k+1,l,n=>by
   unfold cI
   split
   ·rename_i h
    exact(PR.bind_in jb fun _ _=>rF).up (bc h YS)
   ·exact PR.in_here
theorem nY:(dr ts k n).In ts.length n:=PR.bind_in jb fun _ _=>rF
theorem qg:∀{k:Nat}{l:List Str}{n:Nat}{l':List Str}{m:Nat},cI ts k l n=.ok l' m→l'.length+n≤l.length+m
 |0,_,_,_,_,h=>by unfold cI at h;cases h
 |k+1,l,n,l',m,h=>by
   unfold cI at h
   split at h
   ·cases ht:takeN ts 1 (n+1) with
    |no q=>rw[ht] at h;cases h
    |ok t q=>
      rw[ht,PR.bind_ok] at h
      have h1:=cn (ts:=ts) t q ht
      have h2:=qg h
      rw[j5,L5] at h2
      omega
   ·cases h;omega
theorem AE{l:List Str}{m:Nat} (h:dr ts k n=.ok l m):l.length+n≤m:=by
 unfold dr at h
 cases ht:takeN ts 1 n with
 |no q=>rw[ht] at h;cases h
 |ok t q=>
   rw[ht,PR.bind_ok] at h
   have h1:=cn (ts:=ts) t q ht
   have h2:=qg h
   rw[L5] at h2
   omega
theorem pp:∀{k:Nat}{l:List Str}{n:Nat},(cD ts k l n).In ts.length n
 |0,_,_=>by unfold cD;exact PR.in_no
 |k+1,l,n=>by
   unfold cD
   split
   ·rename_i h
    exact(PR.bind_in nY fun _ _=>PR.bind_in (cq Yr) fun _ _=>pp).up (bc h a7)
   ·exact PR.in_here
theorem BR:(ky ts k n).In ts.length n:=by
 unfold ky
 refine PR.bind_in (cq a7) fun _ m=>PR.bind_in jb fun t m=>PR.bind_in (cq Yf) fun _ m=>PR.bind_in ?_ fun ps m=>PR.bind_in (cq Ym) fun _ m=>?_
 ·split
  ·exact nY
  ·exact PR.in_here
 ·have hb:∀v,((bC ts [[123]] v).bind fun _ m'=>(cD ts k [] m').bind fun ls m'=>(cB ts k [] m').bind fun b m'=>(PR.ok (Fn.mk t.text ps ls (decide (ah ts m=[119,111,114,100])) b) m')).In ts.length v:=fun v=>
   PR.bind_in (cq a7) fun _ m'=>PR.bind_in pp fun ls m'=>PR.bind_in (nX k [] m') fun b m'=>PR.in_here
  split
  ·rename_i h
   exact(hb (m+1)).up (bc h a7)
  ·exact hb m
theorem ud:∀{k:Nat}{l:List Str}{ars:List (Str×Int)}{n:Nat},(jh ts k l ars n).In ts.length n
 |0,_,_,_=>by unfold jh;exact PR.in_no
 |k+1,l,ars,n=>by
   unfold jh
   split
   ·rename_i h
    exact(PR.bind_in nY fun _ _=>PR.bind_in (cq Yr) fun _ _=>ud).up (bc h a7)
   split
   ·rename_i h
    exact(PR.bind_in jb fun _ _=>PR.bind_in (cq a7) fun _ _=>PR.bind_in jb fun _ _=>PR.bind_in (cq a7) fun _ _=>PR.bind_in (cq Yr) fun _ _=>ud).up (bc h a7)
   ·exact PR.in_here
end
end
section
theorem PR.bind_cong {α β:Type}{p p':PR α}{f f':α→Nat→PR β} (h:p=p') (h':∀a m,p'=.ok a m→f a m=f' a m):p.bind f=p'.bind f':=by
 subst h
 cases p with
 |ok a m=>exact h' a m rfl
 |no m=>rfl
theorem PR.bind_assoc {α β γ:Type}{p:PR α}{f:α→Nat→PR β}{g:β→Nat→PR γ}:(p.bind f).bind g=p.bind fun a n=>(f a n).bind g:=by cases p <;> rfl
theorem PR.bind_id {α:Type}{p:PR α}:p.bind PR.ok=p:=by cases p <;> rfl
variable {k n:Nat}
section
variable {ts:List Tok}
mutual
theorem cT:∀(k least n:Nat),0<least→4*(ts.length-n)+2≤k→cA ts k least n=cA ts (k+1) least n
 |0,_,_,_,h=>absurd h a6
 |k+1,least,n,h0,h=>by
   rw[cA.eq_2,cA.eq_2]
   refine PR.bind_cong (pJ k n a6) fun a m e=>pI k least a m h0 ?_
   have:=qQ _ _ _ _ e
   omega
theorem pI:∀(k least:Nat) (left:Ex) (n:Nat),0<least→4*(ts.length-n)+1≤k→fc ts k least left n=fc ts (k+1) least left n
 |0,_,_,_,_,h=>absurd h a6
 |k+1,least,left,n,h0,h=>by
   rw[fc.eq_2,fc.eq_2]
   by_cases hs:(ew (ah ts n)).2.2<least
   ·rw[if_pos hs,if_pos hs]
   rw[if_neg hs,if_neg hs]
   have hn:n<ts.length:=by
    refine F7 fun hc=>hs ?_
    unfold ah
    rw[A5 a6]
    simpa[ew] using h0
   refine PR.bind_cong (cT k _ (n+1) a6 a6) fun a m e=>pI k least _ m h0 ?_
   have:=bI _ _ _ _ _ e
   omega
theorem pJ:∀(k n:Nat),4*(ts.length-n)+1≤k→eq ts k n=eq ts (k+1) n
 |0,_,h=>absurd h a6
 |k+1,n,h=>by
   rw[eq.eq_2,eq.eq_2]
   split
   ·rfl
   split
   ·rfl
   split
   ·rename_i hp
    have:=bc hp Yf
    rw[cT k 1 (n+1) a6 a6]
   split
   ·rename_i hp
    have:=bc hp a7
    rw[pJ k (n+1) a6]
   refine PR.bind_cong rfl fun t m e=>?_
   have hm:=cn _ _ e
   split
   ·rename_i hp
    have:=bc hp a7
    rw[cT k 1 (m+1) a6 a6]
   split
   ·rename_i hp
    have:=bc hp Yf
    rw[pK k (m+1) a6]
   ·rfl
theorem pK:∀(k n:Nat),4*(ts.length-n)+3≤k→eL ts k n=eL ts (k+1) n
 |0,_,h=>absurd h a6
 |k+1,n,h=>by
   rw[eL.eq_2,eL.eq_2]
   split
   ·rfl
   refine PR.bind_cong (cT k 1 n a6 a6) fun a m e=>pL k _ m ?_
   have:=bI _ _ _ _ _ e
   omega
theorem pL:∀(k:Nat) (l:List Ex) (n:Nat),4*(ts.length-n)+1≤k→fd ts k l n=fd ts (k+1) l n
 |0,_,_,h=>absurd h a6
 |k+1,l,n,h=>by
   rw[fd.eq_2,fd.eq_2]
   split
   ·rename_i hp
    have:=bc hp YS
    refine PR.bind_cong (cT k 1 (n+1) a6 a6) fun a m e=>pL k _ m ?_
    have:=bI _ _ _ _ _ e
    omega
   ·rfl
end
theorem nJ (h:4*(ts.length-n)+2≤k):fJ ts k n=fJ ts (k+1) n:=by
 unfold fJ
 refine PR.bind_cong rfl fun _ m e=>PR.bind_cong (cT k 1 m a6 ?_) fun _ _ _=>rfl
 have:=aI _ _ e
 omega
theorem Ct (h:4*(ts.length-n)+3≤k):eT ts k n=eT ts (k+1) n:=by
 exact U7
mutual
theorem xw:∀(k n:Nat),4*(ts.length-n)+1≤k→gy ts k n=gy ts (k+1) n
 |0,_,h=>absurd h a6
 |k+1,n,h=>by
   rw[gy.eq_2,gy.eq_2]
   split
   ·rename_i hp
    have:=bc hp a7
    rw[nJ (k:=k) (n:=n+1) a6]
   split
   ·rename_i hp
    have:=bc hp a7
    split
    ·rfl
    ·rw[cT k 1 (n+1) a6 a6]
   split
   ·rename_i hp
    have:=bc hp a7
    refine PR.bind_cong (nJ a6) fun _ m e=>?_
    have:=js _ _ e
    have hlt:m≤n+1→False:=fun hle=>by
     unfold fJ at e
     cases hb:bC ts [bL] (n+1) with
     |no _=>rw[hb] at e;cases e
     |ok u q=>
       rw[hb] at e
       have h1:=aI _ _ hb
       have h2:=PR.bind_fwdE (bI (k+1) 1 q).le (fun a m=>PR.bind_fwdE (aI (l:=[bB])) fun _ _=>PR.fwdE_ok (a:=[a]) (j8 _)) _ _ e
       have h3:=PR.bind_fwd (bI (k+1) 1 q) (fun a m=>PR.bind_fwdE (aI (l:=[bB])) fun _ _=>PR.fwdE_ok (a:=[a]) (j8 _)) _ _ e
       omega
    refine PR.bind_cong (lh k m a6) fun _ q e'=>?_
    have:=lB _ _ _ _ e'
    split
    ·rw[lh k (q+1) a6]
    ·rfl
   split
   ·rename_i hp
    have:=bc hp a7
    refine PR.bind_cong (nJ a6) fun _ m e=>?_
    have:=js _ _ e
    rw[lh k m a6]
   ·by_cases hn:n<ts.length
    ·exact U7
    ·have ht:takeN ts 1 n=.no n:=by unfold takeN;rw[A5 a6]
     unfold eT
     rw[ht]
     rfl
theorem lh:∀(k n:Nat),4*(ts.length-n)+3≤k→fN ts k n=fN ts (k+1) n
 |0,_,h=>absurd h a6
 |k+1,n,h=>by
   rw[fN.eq_2,fN.eq_2]
   refine PR.bind_cong rfl fun _ m e=>lj k [] m ?_
   have:=aI _ _ e
   omega
theorem lj:∀(k:Nat) (l:List Stm) (n:Nat),4*(ts.length-n)+2≤k→cB ts k l n=cB ts (k+1) l n
 |0,_,_,h=>absurd h a6
 |k+1,l,n,h=>by
   rw[cB.eq_2,cB.eq_2]
   split
   ·rfl
   refine PR.bind_cong (xw k n a6) fun a m e=>lj k _ m ?_
   have:=nW _ _ _ _ e
   have:=ub _ _ _ _ e
   omega
end
theorem ni:∀(k:Nat) (l:List Str) (n:Nat),4*(ts.length-n)+1≤k→cI ts k l n=cI ts (k+1) l n
 |0,_,_,h=>absurd h a6
 |k+1,l,n,h=>by
   rw[cI.eq_2,cI.eq_2]
   split
   ·rename_i hp
    have:=bc hp YS
    refine PR.bind_cong rfl fun t m e=>ni k _ m ?_
    have:=cn _ _ e
    omega
   ·rfl
theorem ll (h:4*(ts.length-n)+1≤k):dr ts k n=dr ts (k+1) n:=by
 unfold dr
 refine PR.bind_cong rfl fun t m e=>ni k _ m ?_
 have:=cn _ _ e
 omega
theorem oV:∀(k:Nat) (l:List Str) (n:Nat),4*(ts.length-n)+1≤k→cD ts k l n=cD ts (k+1) l n
 |0,_,_,h=>absurd h a6
 |k+1,l,n,h=>by
   rw[cD.eq_2,cD.eq_2]
   split
   ·rename_i hp
    have:=bc hp a7
    refine PR.bind_cong (ll a6) fun t m e=>PR.bind_cong rfl fun _ q e'=>oV k _ q ?_
    have:=jt _ _ e
    have:=aI _ _ e'
    omega
   ·rfl
theorem AW (h:4*(ts.length-n)+2≤k):ky ts k n=ky ts (k+1) n:=by
 unfold ky
 refine PR.bind_cong rfl fun _ m1 e1=>PR.bind_cong rfl fun t m2 e2=>PR.bind_cong rfl fun _ m3 e3=>?_
 have:=aI _ _ e1
 have:=cn _ _ e2
 have:=aI _ _ e3
 refine PR.bind_cong (by rw[ll (k:=k) (n:=m3) a6]) fun ps m4 e4=>PR.bind_cong rfl fun _ m5 e5=>?_
 have h4:m3≤m4:=by
  split at e4
  ·exact Q6 (jt _ _ e4)
  ·cases e4;exact j8 _
 have:=aI _ _ e5
 refine PR.bind_cong rfl fun _ m6 e6=>?_
 have h6:m5≤m6:=by
  have:=aI _ _ e6
  split at this <;> omega
 refine PR.bind_cong (oV k [] m6 a6) fun ls m7 e7=>?_
 have:=kI _ _ e7
 rw[lj k [] m7 a6]
theorem pM:∀(k:Nat) (vs:List Str) (ars:List (Str×Int)) (n:Nat),4*(ts.length-n)+1≤k→jh ts k vs ars n=jh ts (k+1) vs ars n
 |0,_,_,_,h=>absurd h a6
 |k+1,vs,ars,n,h=>by
   rw[jh.eq_2,jh.eq_2]
   split
   ·rename_i hp
    have:=bc hp a7
    refine PR.bind_cong (ll a6) fun t m e=>PR.bind_cong rfl fun _ q e'=>pM k _ _ q ?_
    have:=jt _ _ e
    have:=aI _ _ e'
    omega
   split
   ·rename_i hp
    have:=bc hp a7
    refine PR.bind_cong rfl fun t m1 e1=>PR.bind_cong rfl fun _ m2 e2=>PR.bind_cong rfl fun z m3 e3=>PR.bind_cong rfl fun _ m4 e4=>PR.bind_cong rfl fun _ m5 e5=>pM k _ _ m5 ?_
    have:=cn _ _ e1
    have:=aI _ _ e2
    have:=cn _ _ e3
    have:=aI _ _ e4
    have:=aI _ _ e5
    omega
   ·rfl
theorem xx:∀(k:Nat) (l:List Fn) (n:Nat),4*(ts.length-n)+3≤k→ji ts k l n=ji ts (k+1) l n
 |0,_,_,h=>absurd h a6
 |k+1,l,n,h=>by
   rw[ji.eq_2,ji.eq_2]
   split
   ·refine PR.bind_cong (AW a6) fun t m e=>xx k _ m ?_
    have:=Gj _ _ e
    omega
   ·rfl
end
def kk (ts:List Tok):Nat:=4*ts.length+7
section
variable (ts:List Tok)
def eZ (least n:Nat):PR Ex:=cA ts (kk ts) least n
def rZ (least:Nat) (left:Ex) (n:Nat):PR Ex:=fc ts (kk ts) least left n
def aZ (n:Nat):PR Ex:=eq ts (kk ts) n
def gZ (n:Nat):PR (List Ex):=eL ts (kk ts) n
def mZ (l:List Ex) (n:Nat):PR (List Ex):=fd ts (kk ts) l n
def cZ (n:Nat):PR (List Ex):=fJ ts (kk ts) n
def stZ (n:Nat):PR Stm:=gy ts (kk ts) n
def bZ (n:Nat):PR (List Stm):=fN ts (kk ts) n
def ssZ (l:List Stm) (n:Nat):PR (List Stm):=cB ts (kk ts) l n
def ngZ (l:List Str) (n:Nat):PR (List Str):=cI ts (kk ts) l n
def nZ (n:Nat):PR (List Str):=dr ts (kk ts) n
def lZ (l:List Str) (n:Nat):PR (List Str):=cD ts (kk ts) l n
def fZ (n:Nat):PR Fn:=ky ts (kk ts) n
def hZ (vs:List Str) (ars:List (Str×Int)) (n:Nat):PR (List Str×List (Str×Int)):=jh ts (kk ts) vs ars n
def fsZ (l:List Fn) (n:Nat):PR (List Fn):=ji ts (kk ts) l n
def cw (s:Str) (n:Nat):PR Unit:=if ah ts n=s then .ok () (n+1) else .no n
end
section
variable {ts:List Tok}
theorem eO {s:Str}{n:Nat}:bC ts [s] n=cw ts s n:=by simp only[bC,cw]
theorem uY {s t:Str}{n:Nat}:bC ts [s,t] n=(cw ts s n).bind fun _ n=>cw ts t n:=by
 simp only[bC,cw];split <;> rfl
theorem mr:kk ts=(4*ts.length+6)+1:=rfl
theorem AX (least n:Nat) (h0:0<least):eZ ts least n=(aZ ts n).bind fun left n=>rZ ts least left n:=by
 unfold eZ aZ rZ
 rw[mr,cA.eq_2]
 exact PR.bind_cong (pJ _ n a6) fun a m _=>pI _ least a m h0 a6
theorem sY (least:Nat) (left:Ex) (n:Nat) (h0:0<least):rZ ts least left n=if (ew (ah ts n)).2.2<least then .ok left n
  else(eZ ts ((ew (ah ts n)).2.2+1) (n+1)).bind fun right m=>rZ ts least (.mk (ew (ah ts n)).1 (ew (ah ts n)).2.1 0 [] [left,right]) m:=by
 unfold rZ eZ
 rw[mr,fc.eq_2]
 split
 ·rfl
 ·exact PR.bind_cong (cT _ _ _ a6 a6) fun a m _=>pI _ least _ m h0 a6
theorem Py (n:Nat):aZ ts n=if bO ts n=2 then(takeN ts 2 n).bind fun t n=>.ok (.mk 1 0 t.num [] []) n
  else if ah ts n=[103,101,116] then(cw ts bL (n+1)).bind fun _ n=>(cw ts bB n).bind fun _ n=>.ok (.mk 5 0 0 [] []) n
  else if ah ts n=[33] then(aZ ts (n+1)).bind fun e n=>.ok (.mk 7 0 0 [] [e]) n
  else if ah ts n=bL then(eZ ts 1 (n+1)).bind fun e n=>(cw ts bB n).bind fun _ n=>.ok e n
  else(takeN ts 1 n).bind fun t n=>
   if ah ts n=[91] then(eZ ts 1 (n+1)).bind fun e n=>(cw ts [93] n).bind fun _ n=>.ok (.mk 3 0 0 t.text [e]) n
   else if ah ts n=bL then(gZ ts (n+1)).bind fun l n=>.ok (.mk 4 0 0 t.text l) n
   else .ok (.mk 2 0 0 t.text []) n:=by
 unfold aZ eZ gZ
 rw[mr,eq.eq_2]
 simp only[eO,uY,PR.bind_assoc]
 rw[cT _ 1 (n+1) a6 a6,pJ _ (n+1) a6]
 split
 ·rfl
 split
 ·rfl
 by_cases h1:ah ts n=bL
 ·rw[if_pos h1,if_neg (by rw[h1];simp[bL]),if_pos h1]
 rw[if_neg h1]
 split
 ·rfl
 refine PR.bind_cong rfl fun t m _=>?_
 rw[cT _ 1 (m+1) a6 a6,pK _ (m+1) a6]
theorem Pz (n:Nat):gZ ts n=if ah ts n=bB then .ok [] (n+1) else(eZ ts 1 n).bind fun e n=>mZ ts [e] n:=by
 unfold gZ eZ mZ
 rw[mr,eL.eq_2]
 split
 ·rfl
 ·exact PR.bind_cong (cT _ _ _ a6 a6) fun a m _=>pL _ _ m a6
theorem PA (l:List Ex) (n:Nat):mZ ts l n=if ah ts n=ja then(eZ ts 1 (n+1)).bind fun e n=>mZ ts (l++[e]) n else(cw ts bB n).bind fun _ n=>.ok l n:=by
 unfold eZ mZ
 rw[mr,fd.eq_2]
 split
 ·exact PR.bind_cong (cT _ _ _ a6 a6) fun a m _=>pL _ _ m a6
 ·rw[eO]
theorem PB (n:Nat):cZ ts n=(cw ts bL n).bind fun _ n=>(eZ ts 1 n).bind fun e n=>(cw ts bB n).bind fun _ n=>.ok [e] n:=by
 unfold cZ eZ fJ
 simp only[eO]
def nmZ (ts:List Tok) (n:Nat):PR Stm:=
 (takeN ts 1 n).bind fun t n=>
   (if ah ts n=bL then(gZ ts (n+1)).bind fun l n=>.ok (Stm.mk 6 t.text l [] []) n
    else if ah ts n=[91] then(eZ ts 1 (n+1)).bind fun i n=>(cw ts [93] n).bind fun _ n=>(cw ts [61] n).bind fun _ n=>(eZ ts 1 n).bind fun e n=>.ok (Stm.mk 2 t.text [i,e] [] []) n
    else(cw ts [61] n).bind fun _ n=>(eZ ts 1 n).bind fun e n=>.ok (Stm.mk 1 t.text [e] [] []) n).bind fun s n=>(cw ts cp n).bind fun _ n=>.ok s n
theorem Ll (n:Nat):eT ts (kk ts) n=nmZ ts n:=by
 unfold eT nmZ eZ gZ
 refine PR.bind_cong rfl fun t m _=>?_
 simp only[eO,uY,PR.bind_assoc]
 by_cases h1:ah ts m=bL
 ·rw[if_neg (by rw[h1];simp[bL]),if_neg (by rw[h1];simp[bL]),if_pos h1,if_pos h1]
 by_cases h2:ah ts m=[91]
 ·rw[if_neg (by rw[h2];simp),if_pos h2,if_neg h1,if_pos h2]
 rw[if_neg h1,if_neg h2,if_neg h1,if_neg h2]
 unfold cw
 by_cases h3:ah ts m=[61]
 ·rw[if_pos h3,if_pos h3];rfl
 ·rw[if_neg h3,if_neg h3];rfl
theorem Ln (n:Nat):stZ ts n =
  if ah ts n=[112,117,116] then(cZ ts (n+1)).bind fun e n=>(cw ts cp n).bind fun _ n=>.ok (.mk 3 [] e [] []) n
  else if ah ts n=[114,101,116,117,114,110] then
   (if ah ts (n+1)=cp then .ok (.mk 7 [] [] [] []) (n+2)
    else(eZ ts 1 (n+1)).bind fun e n=>(cw ts cp n).bind fun _ n=>.ok (.mk 7 [] [e] [] []) n)
  else if ah ts n=[105,102] then
   (cZ ts (n+1)).bind fun e n=>(bZ ts n).bind fun th n=>
     if ah ts n=[101,108,115,101] then(bZ ts (n+1)).bind fun el n=>.ok (.mk 4 [] e th el) n
     else .ok (.mk 4 [] e th []) n
  else if ah ts n=[119,104,105,108,101] then
   (cZ ts (n+1)).bind fun e n=>(bZ ts n).bind fun th n=>.ok (.mk 5 [] e th []) n
  else nmZ ts n:=by
 rw[←Ll]
 unfold stZ cZ eZ bZ
 rw[mr,gy.eq_2]
 simp only[eO]
 rw[nJ (n:=n+1) a6,cT _ 1 (n+1) a6 a6,Ct (n:=n) a6]
 split
 ·rfl
 split
 ·rfl
 split
 ·refine PR.bind_cong rfl fun e m _=>PR.bind_cong (lh _ m a6) fun th q _=>?_
  rw[lh _ (q+1) a6]
 split
 ·refine PR.bind_cong rfl fun e m _=>PR.bind_cong (lh _ m a6) fun th q _=>rfl
 ·rfl
theorem PD (n:Nat):bZ ts n=(cw ts [123] n).bind fun _ n=>ssZ ts [] n:=by
 unfold bZ ssZ
 rw[mr,fN.eq_2,eO]
 exact PR.bind_cong rfl fun _ m _=>lj _ _ m a6
theorem Lo (l:List Stm) (n:Nat):ssZ ts l n=if ah ts n=[125] then .ok l (n+1) else(stZ ts n).bind fun s n=>ssZ ts (l++[s]) n:=by
 unfold stZ ssZ
 rw[mr,cB.eq_2]
 split
 ·rfl
 ·exact PR.bind_cong (xw _ _ a6) fun _ m _=>lj _ _ m a6
theorem Lp (l:List Str) (n:Nat):ngZ ts l n=if ah ts n=ja then(takeN ts 1 (n+1)).bind fun t n=>ngZ ts (l++[t.text]) n else .ok l n:=by
 unfold ngZ
 rw[mr,cI.eq_2]
 split
 ·exact PR.bind_cong rfl fun _ m _=>ni _ _ m a6
 ·rfl
theorem PE (n:Nat):nZ ts n=(takeN ts 1 n).bind fun t n=>ngZ ts [t.text] n:=rfl
theorem PF (l:List Str) (n:Nat):lZ ts l n=if ah ts n=[118,97,114] then(nZ ts (n+1)).bind fun m n=>(cw ts cp n).bind fun _ n=>lZ ts (l++m) n else .ok l n:=by
 unfold lZ nZ
 rw[mr,cD.eq_2]
 simp only[eO]
 split
 ·exact PR.bind_cong (ll a6) fun _ m _=>PR.bind_cong rfl fun _ q _=>oV _ _ q a6
 ·rfl
def fnZ (ts:List Tok) (n:Nat):PR Fn:=
 (takeN ts 1 n).bind fun t n=>(cw ts bL n).bind fun _ n=>
   (if ah ts n=bB then .ok [] (n+1) else(nZ ts n).bind fun ps n=>(cw ts bB n).bind fun _ n=>.ok ps n).bind fun ps n=>
     (cw ts [123] (if ah ts n=[119,111,114,100] then n+1 else n)).bind fun _ m=>(lZ ts [] m).bind fun ls m=>
       (ssZ ts [] m).bind fun b m=>.ok ⟨t.text,ps,ls,decide (ah ts n=[119,111,114,100]),b⟩ m
theorem JQ (n:Nat):fZ ts n=(cw ts [102,117,110,99] n).bind fun _ n=>fnZ ts n:=by
 unfold fZ ky fnZ nZ lZ ssZ
 simp only[eO,PR.bind_assoc]
 refine PR.bind_cong rfl fun _ m1 _=>PR.bind_cong rfl fun t m2 _=>PR.bind_cong rfl fun _ m3 _=>?_
 by_cases hc:ah ts m3=bB
 ·have hk:bO ts m3≠1:=by
   unfold ah at hc
   unfold bO
   split at hc
   ·split at hc
    ·omega
    ·cases hc
   ·cases hc
  rw[if_neg hk,if_pos hc]
  simp only[PR.bind_ok,cw,if_pos hc]
 ·rw[if_neg hc]
  by_cases hk:bO ts m3=1
  ·rw[if_pos hk,PR.bind_assoc]
   simp only[PR.bind_assoc,PR.bind_ok]
  ·rw[if_neg hk]
   have ht:takeN ts 1 m3=.no m3:=by
    unfold bO at hk
    unfold takeN
    split
    ·rename_i t h
     rw[h] at hk
     rw[if_neg hk]
    ·rfl
   simp only[PR.bind_ok,cw,if_neg hc,dr,ht,PR.bind_no]
theorem PG (vs:List Str) (ars:List (Str×Int)) (n:Nat):hZ ts vs ars n =
  if ah ts n=[118,97,114] then(nZ ts (n+1)).bind fun m n=>(cw ts cp n).bind fun _ n=>hZ ts (vs++m) ars n
  else if ah ts n=[97,114,114,97,121] then
   (takeN ts 1 (n+1)).bind fun t n=>(cw ts [91] n).bind fun _ n=>(takeN ts 2 n).bind fun z n=>(cw ts [93] n).bind fun _ n=>(cw ts cp n).bind fun _ n=>hZ ts vs (ars++[(t.text,(z.num:Int))]) n
  else .ok (vs,ars) n:=by
 unfold hZ nZ
 rw[mr,jh.eq_2]
 simp only[eO]
 split
 ·exact PR.bind_cong (ll a6) fun _ m _=>PR.bind_cong rfl fun _ q _=>pM _ _ _ q a6
 split
 ·exact PR.bind_cong rfl fun _ _ _=>PR.bind_cong rfl fun _ _ _=>PR.bind_cong rfl fun _ _ _=>PR.bind_cong rfl fun _ _ _=>PR.bind_cong rfl fun _ q _=>pM _ _ _ q a6
 ·rfl
theorem DW (l:List Fn) (n:Nat):fsZ ts l n=if n<ts.length then(fZ ts n).bind fun f n=>fsZ ts (l++[f]) n else .ok l n:=by
 unfold fsZ fZ
 rw[mr,ji.eq_2]
 split
 ·exact PR.bind_cong (AW a6) fun _ m _=>xx _ _ m a6
 ·rfl
theorem DX (n:Nat):jI ts (kk ts) n=(hZ ts [] [] n).bind fun h n=>(fZ ts n).bind fun f n=>(fsZ ts [f] n).bind fun fs n=>.ok ⟨h.1,h.2,fs⟩ n:=rfl
theorem vV (s:Str):(ew s).2.2≤9:=by
 have key:∀(c:Prop) [Decidable c] (x y:Int×Int×Nat),x.2.2≤9→y.2.2≤9→(if c then x else y).2.2≤9:=by
  intro c _ x y hx hy
  by_cases h:c
  ·rw[if_pos h];exact hx
  ·rw[if_neg h];exact hy
 unfold ew
 repeat refine key _ _ _ (by decide) ?_
 decide
theorem rY {least n:Nat} (h0:0<least) (hs:¬(ew (ah ts n)).2.2<least):n<ts.length:=by
 refine F7 fun hc=>hs ?_
 unfold ah
 rw[A5 a6]
 simpa[ew] using h0
theorem JR {least:Nat} (h0:0<least):∀(d:Nat) (left:Ex) (n:Nat),ts.length-n≤d→rZ ts least left n=(rZ ts (least+1) left n).bind fun l m=>rZ ts least l m
 |d,left,n,hd=>by
   by_cases hs:(ew (ah ts n)).2.2<least+1
   ·rw[sY (least+1) _ _ a6,if_pos hs];rfl
   rw[sY (least+1) _ _ a6,if_neg hs,sY least _ _ h0,if_neg a6,PR.bind_assoc]
   refine PR.bind_cong rfl fun a m e=>?_
   have hm:=bI _ _ _ _ _ e
   have hn:=rY a6 hs
   cases d with
   |zero=>omega
   |succ d=>exact JR h0 d _ m a6
theorem PH {least:Nat} (h0:0<least) (n:Nat):eZ ts least n=(eZ ts (least+1) n).bind fun l m=>rZ ts least l m:=by
 rw[AX _ _ h0,AX (least+1) _ a6,PR.bind_assoc]
 exact PR.bind_cong rfl fun a m _=>JR h0 _ a m (j8 _)
theorem AY {least:Nat} (h0:0<least):∀(d:Nat) (left:Ex) (n:Nat),ts.length-n≤d→∀a m,rZ ts least left n=.ok a m→(ew (ah ts m)).2.2<least
 |d,left,n,hd,a,m,e=>by
   rw[sY _ _ _ h0] at e
   by_cases hs:(ew (ah ts n)).2.2<least
   ·rw[if_pos hs] at e;cases e;exact hs
   rw[if_neg hs] at e
   have hn:=rY h0 hs
   cases he:eZ ts ((ew (ah ts n)).2.2+1) (n+1) with
   |no _=>rw[he] at e;cases e
   |ok b q=>
     rw[he] at e
     have hm:=bI _ _ _ _ _ he
     cases d with
     |zero=>omega
     |succ d=>exact AY h0 d _ q a6 a m e
theorem AZ {least n m:Nat}{a:Ex} (h0:0<least) (e:eZ ts least n=.ok a m):(ew (ah ts m)).2.2<least:=by
 rw[AX _ _ h0] at e
 cases h:aZ ts n with
 |no _=>rw[h] at e;cases e
 |ok b q=>rw[h] at e;exact AY h0 _ b q (j8 _) a m e
theorem Lq (n:Nat):eZ ts 10 n=aZ ts n:=by
 rw[AX _ _ a6]
 have:(fun left n=>rZ ts 10 left n)=PR.ok:=by
  funext a m
  rw[sY _ _ _ a6,if_pos (by have:=vV (ah ts m);omega)]
 rw[this,PR.bind_id]
end
end
section
abbrev RQ (α:Type):=α×Nat×Bool
def oW:Tok:=⟨0,[],0,0⟩
section
variable (ts:List Tok)
abbrev isR (s:Str) (q:Nat×Bool):Prop:=q.2=false∧ah ts q.1=s
def am (s:Str) (q:Nat×Bool):Nat×Bool:=if isR ts s q then(q.1+1,false) else(q.1,true)
def bS (k:Nat) (q:Nat×Bool):RQ Tok:=if q.2=false∧bO ts q.1=k then((ts[q.1]?).getD oW,q.1+1,false) else(oW,q.1,true)
mutual
def eR:Nat→Nat→Nat×Bool→RQ Ex
 |0,_,q=>(.mk 0 0 0 [] [],q.1,true)
 |k+1,least,q=>if 9<least then aR k q else loR k least (eR k (least+1) q)
def loR:Nat→Nat→RQ Ex→RQ Ex
 |0,_,q=>(q.1,q.2.1,true)
 |k+1,least,q=>
   if q.2.2=false∧(ew (ah ts q.2.1)).2.2=least then
    let r:=eR k (least+1) (q.2.1+1,false)
    loR k least (.mk (ew (ah ts q.2.1)).1 (ew (ah ts q.2.1)).2.1 0 [] [q.1,r.1],r.2)
   else q
def aR:Nat→Nat×Bool→RQ Ex
 |0,q=>(.mk 0 0 0 [] [],q.1,true)
 |k+1,q=>
   if q.2=false∧bO ts q.1=2 then(.mk 1 0 (bS ts 2 q).1.num [] [],(bS ts 2 q).2)
   else if isR ts [103,101,116] q then(.mk 5 0 0 [] [],am ts bB (am ts bL (q.1+1,false)))
   else if isR ts [33] q then let r:=aR k (q.1+1,false);(.mk 7 0 0 [] [r.1],r.2)
   else if isR ts bL q then let r:=eR k 1 (q.1+1,false);(r.1,am ts bB r.2)
   else if isR ts [91] (bS ts 1 q).2 then let r:=eR k 1 ((bS ts 1 q).2.1+1,false);(.mk 3 0 0 (bS ts 1 q).1.text [r.1],am ts [93] r.2)
   else if isR ts bL (bS ts 1 q).2 then let r:=gR k ((bS ts 1 q).2.1+1,false);(.mk 4 0 0 (bS ts 1 q).1.text r.1,r.2)
   else(.mk 2 0 0 (bS ts 1 q).1.text [],(bS ts 1 q).2)
def gR:Nat→Nat×Bool→RQ (List Ex)
 |0,q=>([],q.1,true)
 |k+1,q=>if isR ts bB q then([],q.1+1,false) else let r:=eR k 1 q;goR k ([r.1],r.2)
def goR:Nat→RQ (List Ex)→RQ (List Ex)
 |0,q=>(q.1,q.2.1,true)
 |k+1,q=>if isR ts ja q.2 then let r:=eR k 1 (q.2.1+1,false);goR k (q.1++[r.1],r.2) else(q.1,am ts bB q.2)
end
def kE:Nat:=13*ts.length+40
def cR (q:Nat×Bool):RQ (List Ex):=let r:=eR ts (kE ts) 1 (am ts bL q);([r.1],am ts bB r.2)
def nsR (q:Nat×Bool):RQ Stm:=
 let t:=bS ts 1 q
 if isR ts bL t.2 then let r:=gR ts (kE ts) (t.2.1+1,false);(.mk 6 t.1.text r.1 [] [],r.2)
 else if isR ts [91] t.2 then
  let i:=eR ts (kE ts) 1 (t.2.1+1,false)
  let e:=eR ts (kE ts) 1 (am ts [61] (am ts [93] i.2))
  (.mk 2 t.1.text [i.1,e.1] [] [],e.2)
 else let e:=eR ts (kE ts) 1 (am ts [61] t.2);(.mk 1 t.1.text [e.1] [] [],e.2)
def nmR (q:Nat×Bool):RQ Stm:=((nsR ts q).1,am ts cp (nsR ts q).2)
mutual
def stR:Nat→Nat×Bool→RQ Stm
 |0,q=>(.mk 0 [] [] [] [],q.1,true)
 |k+1,q=>
   if isR ts [112,117,116] q then let c:=cR ts (q.1+1,false);(.mk 3 [] c.1 [] [],am ts cp c.2)
   else if isR ts [114,101,116,117,114,110] q then
    if isR ts cp (q.1+1,false) then(.mk 7 [] [] [] [],q.1+1+1,false)
    else let e:=eR ts (kE ts) 1 (q.1+1,false);(.mk 7 [] [e.1] [] [],am ts cp e.2)
   else if isR ts [105,102] q then
    let c:=cR ts (q.1+1,false);let b:=bR k c.2
    if isR ts [101,108,115,101] b.2 then let l:=bR k (b.2.1+1,false);(.mk 4 [] c.1 b.1 l.1,l.2)
    else(.mk 4 [] c.1 b.1 [],b.2)
   else if isR ts [119,104,105,108,101] q then let c:=cR ts (q.1+1,false);let b:=bR k c.2;(.mk 5 [] c.1 b.1 [],b.2)
   else nmR ts q
def bR:Nat→Nat×Bool→RQ (List Stm)
 |0,q=>([],q.1,true)
 |k+1,q=>ssR k ([],am ts [123] q)
def ssR:Nat→RQ (List Stm)→RQ (List Stm)
 |0,q=>(q.1,q.2.1,true)
 |k+1,q=>
   if q.2.2=true then q
   else if isR ts [125] q.2 then(q.1,q.2.1+1,false)
   else let s:=stR k q.2;ssR k (q.1++[s.1],s.2)
end
def ngR:Nat→RQ (List Str)→RQ (List Str)
 |0,q=>(q.1,q.2.1,true)
 |k+1,q=>if isR ts ja q.2 then ngR k (q.1++[(bS ts 1 (q.2.1+1,false)).1.text],(bS ts 1 (q.2.1+1,false)).2) else q
def nR (q:Nat×Bool):RQ (List Str):=ngR ts (kE ts) ([(bS ts 1 q).1.text],(bS ts 1 q).2)
def lR:Nat→RQ (List Str)→RQ (List Str)
 |0,q=>(q.1,q.2.1,true)
 |k+1,q=>if isR ts [118,97,114] q.2 then let m:=nR ts (q.2.1+1,false);lR k (q.1++m.1,am ts cp m.2) else q
def psR (q:Nat×Bool):RQ (List Str):=if isR ts bB q then([],q.1+1,false) else let m:=nR ts q;(m.1,am ts bB m.2)
def fR (q:Nat×Bool):RQ Fn:=
 let t:=bS ts 1 q
 let p:=psR ts (am ts bL t.2)
 let l:=lR ts (kE ts) ([],am ts [123] (if isR ts [119,111,114,100] p.2 then(p.2.1+1,false) else p.2))
 let b:=ssR ts (kE ts) ([],l.2)
 (⟨t.1.text,p.1,l.1,decide (isR ts [119,111,114,100] p.2),b.1⟩,b.2)
def hR:Nat→RQ (List Str×List (Str×Int))→RQ (List Str×List (Str×Int))
 |0,q=>(q.1,q.2.1,true)
 |k+1,q=>
   if q.2.2=true then q
   else if isR ts [118,97,114] q.2 then let m:=nR ts (q.2.1+1,false);hR k ((q.1.1++m.1,q.1.2),am ts cp m.2)
   else if isR ts [97,114,114,97,121] q.2 then
    let t:=bS ts 1 (q.2.1+1,false)
    let z:=bS ts 2 (am ts [91] t.2)
    hR k ((q.1.1,q.1.2++[(t.1.text,(z.1.num:Int))]),am ts cp (am ts [93] z.2))
   else q
def fsR:Nat→RQ (List Fn)→RQ (List Fn)
 |0,q=>(q.1,q.2.1,true)
 |k+1,q=>
   if q.2.2=true then q
   else let f:=fR ts q.2
    if f.2.2=true∨f.2.1=ts.length then(q.1++[f.1],f.2) else fsR k (q.1++[f.1],am ts [102,117,110,99] f.2)
def pR:RQ Prog:=
 let h:=hR ts (kE ts) (([],[]),0,false)
 let f:=fsR ts (kE ts) ([],am ts [102,117,110,99] h.2)
 (⟨h.1.1,h.1.2,f.1⟩,f.2)
end
def Goes {α:Type} (q:Nat×Bool) (p:PR α) (r:RQ α):Prop:=
 if q.2=true then r.2=(q.1,true) else match p with|.ok a m=>r=(a,m,false)|.no m=>r.2=(m,true)
variable {q:Nat×Bool}{n:Nat}{α:Type}{s:Str}{p:PR α}{r:RQ α}
section
variable {ts:List Tok}
theorem Goes.wrong (h:r.2=(n,true)):Goes (n,true) p r:=by unfold Goes;rw[if_pos rfl];exact h
theorem Goes.ret{a:α}:Goes q (.ok a q.1) (a,q):=by
 obtain⟨n,w⟩:=q
 cases w
 ·rfl
 ·rfl
theorem Goes.bind {α β:Type}{q:Nat×Bool}{p:PR α}{r:RQ α}{f:α→Nat→PR β}{r':RQ β} (h:Goes q p r) (h':Goes r.2 (f r.1 r.2.1) r'):Goes q (p.bind f) r':=by
 obtain⟨n,w⟩:=q
 obtain⟨a,m,v⟩:=r
 cases w
 ·cases p with
  |ok b k=>cases h;exact h'
  |no k=>cases h;exact h'
 ·cases h;exact h'
theorem Goes.ite{c c':Prop} [Decidable c] [Decidable c']{p p':PR α}{r r':RQ α} (hc:q.2=false→(c'↔c)) (h0:q.2=true→¬c') (h1:q.2=false→c→Goes q p r) (h2:¬c'→Goes q p' r'):Goes q (if c then p else p') (if c' then r else r'):=by
 obtain⟨n,w⟩:=q
 cases w
 ·have hi:=hc rfl
  by_cases h:c
  ·rw[if_pos h,if_pos (hi.2 h)];exact h1 rfl h
  ·rw[if_neg h,if_neg (mt hi.1 h)];exact h2 (mt hi.1 h)
 ·rw[if_neg (h0 rfl)]
  exact h2 (h0 rfl)
theorem bA:Goes q (cw ts s q.1) ((),am ts s q):=by
 obtain⟨n,w⟩:=q
 unfold am cw
 cases w
 ·by_cases h:ah ts n=s
  ·rw[if_pos h,if_pos ⟨rfl,h⟩];rfl
  ·rw[if_neg h,if_neg (fun x=>h x.2)];rfl
 ·rw[if_neg (c:=isR ts s (n,true)) (fun x=>by cases x.1)];exact .wrong rfl
theorem gu {k:Nat} (hk:0<k):Goes q (takeN ts k q.1) (bS ts k q):=by
 obtain⟨n,w⟩:=q
 unfold bS takeN bO
 cases w
 ·cases h:ts[n]? with
  |none=>simp[Goes,h,show ¬0=k by omega]
  |some t=>
    by_cases hc:t.kind=k
    ·simp[Goes,h,hc]
    ·simp[Goes,h,hc]
 ·simp[Goes]
theorem Goes.ok {α:Type}{q:Nat×Bool}{p:PR α}{r:RQ α} (h:Goes q p r) (hr:r.2.2=false):q.2=false∧p=.ok r.1 r.2.1:=by
 obtain⟨n,w⟩:=q
 obtain⟨a,m,v⟩:=r
 cases w
 ·cases p with
  |ok b k=>cases h;exact⟨rfl,rfl⟩
  |no k=>cases h;cases hr
 ·cases h;cases hr
def rem (ts:List Tok) (q:Nat×Bool):Nat:=if q.2=true then 0 else ts.length-q.1
theorem jJ (h:Goes q p r) (hp:p.FwdE q.1):rem ts r.2≤rem ts q:=by
 unfold rem
 by_cases hr:r.2.2=true
 ·rw[if_pos hr];omega
 ·obtain⟨h1,h2⟩:=h.ok (by simpa using hr)
  have:=hp _ _ h2
  rw[if_neg hr,if_neg (by simp[h1])];omega
theorem jK (hs:s≠[]) (h:isR ts s q):rem ts (q.1+1,false)+1=rem ts q:=by
 have:=bc h.2 hs
 unfold rem
 rw[if_neg a7,if_neg (by simp[h.1])]
 simp only
 omega
theorem nK:(cw ts s n).FwdE n:=by rw[←eO];exact aI
theorem lm:rem ts (am ts s q)≤rem ts q:=jJ (r:=((),am ts s q)) bA nK
theorem sd {k:Nat} (hk:0<k):rem ts (bS ts k q).2≤rem ts q:=jJ (gu hk) cn.le
theorem Goes.may{p p':PR α}{r r':RQ α} (h1:isR ts s q→Goes (q.1,false) p r) (h2:¬isR ts s q→Goes q p' r'):Goes q (if ah ts q.1=s then p else p') (if isR ts s q then r else r'):=
 Goes.ite (fun hq=>⟨fun h=>h.2,fun h=>⟨hq,h⟩⟩) (fun hq h=>by have h:=h.1;rw[hq] at h;cases h) (fun hq h=>by have:=h1 ⟨hq,h⟩;rwa [show (q.1,false)=q from by rw[←hq]] at this) h2
theorem Goes.at{n m:Nat} (h:Goes (m,false) p r):Goes (n,false) p r:=h
mutual
theorem lU:∀(k least:Nat) (q:Nat×Bool),1≤least→least≤10→13*rem ts q+12≤k+least→Goes q (eZ ts least q.1) (eR ts k least q)
 |0,least,q,_,_,h=>absurd h a6
 |k+1,least,q,h1,h2,h=>by
   rw[eR]
   by_cases hl:9<least
   ·obtain rfl:least=10:=a6
    rw[if_pos hl,Lq]
    exact Ba k q a6
   ·rw[if_neg hl,PH h1]
    have hg:=lU k (least+1) q a6 a6 a6
    have:=jJ (ts:=ts) hg (bI _ _ _).le
    exact hg.bind (xy k least _ h1 a6 a6 fun hv=>by have:=AZ a6 (hg.ok hv).2;omega)
theorem xy:∀(k least:Nat) (r:RQ Ex),1≤least→least≤9→13*rem ts r.2+1≤k→(r.2.2=false→(ew (ah ts r.2.1)).2.2≤least)→Goes r.2 (rZ ts least r.1 r.2.1) (loR ts k least r)
 |0,_,_,_,_,h,_=>absurd h a6
 |k+1,least,r,h1,h2,h,hs=>by
   obtain⟨a,n,w⟩:=r
   rw[loR]
   cases w with
   |true=>rw[if_neg (fun x=>by cases x.1)];exact .wrong rfl
   |false=>
     have hs:=hs rfl
     by_cases hc:(ew (ah ts n)).2.2=least
     ·rw[if_pos ⟨rfl,hc⟩,sY _ _ _ h1,if_neg XR]
      have hn:n<ts.length:=rY h1 a6
      have hr:rem ts (n+1,false)+1=rem ts (n,false):=by unfold rem;rw[if_neg a7,if_neg a7];simp only;omega
      have hg:=lU k (least+1) (n+1,false) a6 a6 (by simp only at h;omega)
      have:=jJ (ts:=ts) hg (bI _ _ _).le
      simp only[hc]
      have hh:13*rem ts (eR ts k (least+1) (n+1,false)).2+1≤k:=by simp only at h;omega
      exact Goes.at (hg.bind (xy k least (Ex.mk (ew (ah ts n)).1 (ew (ah ts n)).2.1 0 [] [a,(eR ts k (least+1) (n+1,false)).1],(eR ts k (least+1) (n+1,false)).2) h1 h2 hh fun hv=>by have:=AZ a6 (hg.ok hv).2;simp only at this ⊢;omega))
     ·rw[if_neg (fun x=>hc x.2),sY _ _ _ h1,if_pos (by simp only;simp only at hs;omega)]
      exact .ret
theorem Ba:∀(k:Nat) (q:Nat×Bool),13*rem ts q+1≤k→Goes q (aZ ts q.1) (aR ts k q)
 |0,_,h=>absurd h a6
 |k+1,q,h=>by
   rw[aR,Py]
   refine Goes.ite (fun hq=>⟨fun x=>x.2,fun x=>⟨hq,x⟩⟩) (fun hq x=>by rw[hq] at x;cases x.1) (fun _ _=>(gu a6).bind .ret) fun _=>?_
   refine Goes.may (fun hi=>Goes.at ((bA (q:=(q.1+1,false))).bind (bA.bind .ret))) fun _=>?_
   refine Goes.may (fun hi=>?_) fun _=>?_
   ·have:=jK a7 hi
    exact Goes.at ((Ba k (q.1+1,false) a6).bind .ret)
   refine Goes.may (fun hi=>?_) fun _=>?_
   ·have:=jK Yf hi
    exact Goes.at ((lU k 1 (q.1+1,false) a6 a6 a6).bind (bA.bind .ret))
   refine(gu a6).bind ?_
   have ht:=sd (ts:=ts) (k:=1) a6 (q:=q)
   refine Goes.may (fun hi=>?_) fun _=>?_
   ·have:=jK a7 hi
    exact Goes.at ((lU k 1 ((bS ts 1 q).2.1+1,false) a6 a6 a6).bind (bA.bind .ret))
   refine Goes.may (fun hi=>?_) fun _=>.ret
   ·have:=jK Yf hi
    exact Goes.at ((Bb k ((bS ts 1 q).2.1+1,false) a6).bind .ret)
theorem Bb:∀(k:Nat) (q:Nat×Bool),13*rem ts q+12≤k→Goes q (gZ ts q.1) (gR ts k q)
 |0,_,h=>absurd h a6
 |k+1,q,h=>by
   rw[gR,Pz]
   refine Goes.may (fun hi=>rfl) fun _=>?_
   have hg:=lU k 1 q a6 a6 a6
   have:=jJ (ts:=ts) hg (bI _ _ _).le
   have hh:13*rem ts (eR ts k 1 q).2+1≤k:=a6
   exact hg.bind (xz k ([(eR ts k 1 q).1],(eR ts k 1 q).2) hh)
theorem xz:∀(k:Nat) (r:RQ (List Ex)),13*rem ts r.2+1≤k→Goes r.2 (mZ ts r.1 r.2.1) (goR ts k r)
 |0,_,h=>absurd h a6
 |k+1,r,h=>by
   rw[goR,PA]
   refine Goes.may (fun hi=>?_) fun _=>bA.bind .ret
   have:=jK YS hi
   have hg:=lU k 1 (r.2.1+1,false) a6 a6 a6
   have:=jJ (ts:=ts) hg (bI _ _ _).le
   have hh:13*rem ts (eR ts k 1 (r.2.1+1,false)).2+1≤k:=a6
   exact Goes.at (hg.bind (xz k (r.1++[(eR ts k 1 (r.2.1+1,false)).1],(eR ts k 1 (r.2.1+1,false)).2) hh))
end
theorem sZ (q:Nat×Bool):Goes q (eZ ts 1 q.1) (eR ts (kE ts) 1 q):=lU _ 1 q a6 a6 YZ
theorem Lr (q:Nat×Bool):Goes q (gZ ts q.1) (gR ts (kE ts) q):=Bb _ q YZ
theorem pN (q:Nat×Bool):Goes q (cZ ts q.1) (cR ts q):=by
 rw[PB]
 exact bA.bind ((sZ _).bind (bA.bind .ret))
theorem DY (q:Nat×Bool):Goes q (nmZ ts q.1) (nmR ts q):=by
 have hs:Goes q ((takeN ts 1 q.1).bind fun t n=>
   if ah ts n=bL then(gZ ts (n+1)).bind fun l n=>.ok (Stm.mk 6 t.text l [] []) n
   else if ah ts n=[91] then(eZ ts 1 (n+1)).bind fun i n=>(cw ts [93] n).bind fun _ n=>(cw ts [61] n).bind fun _ n=>(eZ ts 1 n).bind fun e n=>.ok (Stm.mk 2 t.text [i,e] [] []) n
   else(cw ts [61] n).bind fun _ n=>(eZ ts 1 n).bind fun e n=>.ok (Stm.mk 1 t.text [e] [] []) n) (nsR ts q):=by
  unfold nsR
  refine(gu a6).bind ?_
  refine Goes.may (fun hi=>Goes.at ((Lr ((bS ts 1 q).2.1+1,false)).bind .ret)) fun _=>?_
  refine Goes.may (fun hi=>Goes.at ((sZ ((bS ts 1 q).2.1+1,false)).bind (bA.bind (bA.bind ((sZ _).bind .ret))))) fun _=>?_
  exact bA.bind ((sZ _).bind .ret)
 have:=hs.bind (r':=nmR ts q) (f:=fun s n=>(cw ts cp n).bind fun _ n=>.ok s n) (bA.bind .ret)
 rwa [PR.bind_assoc] at this
theorem DZ:(cZ ts n).FwdE n:=js
mutual
theorem Ea:∀(k:Nat) (q:Nat×Bool),4*rem ts q+1≤k→Goes q (stZ ts q.1) (stR ts k q)
 |0,_,h=>absurd h a6
 |k+1,q,h=>by
   rw[stR,Ln]
   refine Goes.may (fun hi=>Goes.at ((pN (q.1+1,false)).bind (bA.bind .ret))) fun _=>?_
   refine Goes.may (fun hi=>?_) fun _=>?_
   ·exact Goes.at (Goes.may (q:=(q.1+1,false)) (fun _=>rfl) fun _=>(sZ (q.1+1,false)).bind (bA.bind .ret))
   refine Goes.may (fun hi=>?_) fun _=>?_
   ·have h1:=jK a7 hi
    have h2:=jJ (ts:=ts) (pN (ts:=ts) (q.1+1,false)) DZ
    have hb:=vW k (cR ts (q.1+1,false)).2 a6
    have h3:=jJ (ts:=ts) hb (lB _ _)
    refine Goes.at ((pN (q.1+1,false)).bind (hb.bind (Goes.may (fun hj=>?_) fun _=>.ret)))
    have h4:=jK a7 hj
    exact Goes.at ((vW k (_,false) a6).bind .ret)
   refine Goes.may (fun hi=>?_) fun _=>DY q
   ·have h1:=jK a7 hi
    have h2:=jJ (ts:=ts) (pN (ts:=ts) (q.1+1,false)) DZ
    have hb:=vW k (cR ts (q.1+1,false)).2 a6
    exact Goes.at ((pN (q.1+1,false)).bind (hb.bind .ret))
theorem vW:∀(k:Nat) (q:Nat×Bool),4*rem ts q+3≤k→Goes q (bZ ts q.1) (bR ts k q)
 |0,_,h=>absurd h a6
 |k+1,q,h=>by
   rw[bR,PD]
   have h1:=lm (ts:=ts) (s:=[123]) (q:=q)
   exact bA.bind (nj k ([],am ts [123] q) (.inl XR))
theorem nj:∀(k:Nat) (r:RQ (List Stm)),4*rem ts r.2+2≤k∨r.2.2=true∧1≤k→Goes r.2 (ssZ ts r.1 r.2.1) (ssR ts k r)
 |0,_,h=>absurd h a6
 |k+1,r,h=>by
   rw[ssR,Lo]
   obtain⟨l,n,w⟩:=r
   cases w with
   |true=>rw[if_pos rfl];exact .wrong rfl
   |false=>
     rw[if_neg (c:=((l,n,false):RQ (List Stm)).2.2=true) a7]
     refine Goes.may (q:=(n,false)) (fun hi=>rfl) fun _=>?_
     have h:4*rem ts (n,false)+2≤k+1:=h.resolve_right fun x=>by cases x.1
     have hg:=Ea k (n,false) a6
     have h1:=jJ (ts:=ts) hg (nW _ _).le
     have hh:4*rem ts (stR ts k (n,false)).2+2≤k∨(stR ts k (n,false)).2.2=true∧1≤k:=by
      by_cases hr:(stR ts k (n,false)).2.2=true
      ·exact .inr ⟨hr,a6⟩
      ·refine .inl ?_
       have h2:=(hg.ok (by simpa using hr)).2
       have h3:=nW _ _ _ _ h2
       have h4:=ub _ _ _ _ h2
       unfold rem at h ⊢
       rw[if_neg a7] at h
       rw[if_neg hr]
       simp only at h h3 h4
       omega
     exact hg.bind (nj k (l++[(stR ts k (n,false)).1],(stR ts k (n,false)).2) hh)
end
theorem xA:∀(k:Nat) (r:RQ (List Str)),4*rem ts r.2+1≤k→Goes r.2 (ngZ ts r.1 r.2.1) (ngR ts k r)
 |0,_,h=>absurd h a6
 |k+1,r,h=>by
   rw[ngR,Lp]
   refine Goes.may (fun hi=>?_) fun _=>.ret
   have h1:=jK YS hi
   have h2:=sd (ts:=ts) (k:=1) a6 (q:=(r.2.1+1,false))
   exact Goes.at ((gu a6 (q:=(r.2.1+1,false))).bind (xA k (_++[_],(bS ts 1 (r.2.1+1,false)).2) XR))
theorem rv {a:Nat} (ha:a≤40) (q:Nat×Bool):4*rem ts q+a≤kE ts:=by unfold kE rem;split <;> omega
theorem pO (q:Nat×Bool):Goes q (nZ ts q.1) (nR ts q):=by
 rw[PE]
 exact(gu a6).bind (xA _ ([_],(bS ts 1 q).2) (rv a6 _))
theorem zI:(nZ ts n).FwdE n:=jt.le
theorem se:∀(k:Nat) (r:RQ (List Str)),4*rem ts r.2+1≤k→Goes r.2 (lZ ts r.1 r.2.1) (lR ts k r)
 |0,_,h=>absurd h a6
 |k+1,r,h=>by
   rw[lR,PF]
   refine Goes.may (fun hi=>?_) fun _=>.ret
   have h1:=jK a7 hi
   have h2:=jJ (ts:=ts) (pO (ts:=ts) (r.2.1+1,false)) zI
   have h3:=lm (ts:=ts) (s:=cp) (q:=(nR ts (r.2.1+1,false)).2)
   exact Goes.at ((pO (r.2.1+1,false)).bind (bA.bind (se k (r.1++(nR ts (r.2.1+1,false)).1,am ts cp (nR ts (r.2.1+1,false)).2) XR)))
theorem Hz (q:Nat×Bool):Goes q (fnZ ts q.1) (fR ts q):=by
 unfold fnZ fR
 refine(gu a6).bind (bA.bind ?_)
 have hp:Goes (am ts bL (bS ts 1 q).2) (if ah ts (am ts bL (bS ts 1 q).2).1=bB then .ok [] ((am ts bL (bS ts 1 q).2).1+1) else(nZ ts (am ts bL (bS ts 1 q).2).1).bind fun ps n=>(cw ts bB n).bind fun _ n=>.ok ps n) (psR ts (am ts bL (bS ts 1 q).2)):=by
  unfold psR
  exact Goes.may (fun _=>rfl) fun _=>(pO _).bind (bA.bind .ret)
 refine hp.bind (?_:Goes (psR ts (am ts bL (bS ts 1 q).2)).2 _ _)
 have key:∀(x:Str) (p:RQ (List Str)),Goes p.2 ((cw ts [123] (if ah ts p.2.1=[119,111,114,100] then p.2.1+1 else p.2.1)).bind fun _ m=>(lZ ts [] m).bind fun ls m=>
    (ssZ ts [] m).bind fun b m=>.ok (Fn.mk x p.1 ls (decide (ah ts p.2.1=[119,111,114,100])) b) m)
   (Fn.mk x p.1 (lR ts (kE ts) ([],am ts [123] (if isR ts [119,111,114,100] p.2 then(p.2.1+1,false) else p.2))).1 (decide (isR ts [119,111,114,100] p.2)) (ssR ts (kE ts) ([],(lR ts (kE ts) ([],am ts [123] (if isR ts [119,111,114,100] p.2 then(p.2.1+1,false) else p.2))).2)).1,
    (ssR ts (kE ts) ([],(lR ts (kE ts) ([],am ts [123] (if isR ts [119,111,114,100] p.2 then(p.2.1+1,false) else p.2))).2)).2):=by
  rintro x ⟨ps,n,w⟩
  cases w with
  |true=>
    refine .wrong ?_
    have h0:(if isR ts [119,111,114,100] (n,true) then(n+1,false) else(n,true))=(n,true):=if_neg fun h=>by cases h.1
    have h1:am ts [123] (n,true)=(n,true):=by unfold am;rw[if_neg (fun h=>by cases h.1)]
    have h2:(lR ts (kE ts) ([],n,true)).2=(n,true):=by
     have:=se (ts:=ts) (kE ts) ([],n,true) (rv a6 _)
     unfold Goes at this;rwa [if_pos rfl] at this
    have h3:(ssR ts (kE ts) ([],n,true)).2=(n,true):=by
     have:=nj (ts:=ts) (kE ts) ([],n,true) (.inl (rv a6 _))
     unfold Goes at this;rwa [if_pos rfl] at this
    simp only[h0,h1,h2,h3]
  |false=>
    by_cases hw:ah ts n=[119,111,114,100]
    ·have hi:isR ts [119,111,114,100] (n,false):=⟨rfl,hw⟩
     simp only[if_pos hw,if_pos hi,A6 hi,A6 hw]
     exact Goes.at ((bA (q:=(n+1,false))).bind ((se _ ([],am ts [123] (n+1,false)) (rv a6 _)).bind ((nj _ ([],(lR ts (kE ts) ([],am ts [123] (n+1,false))).2) (.inl (rv a6 _))).bind .ret)))
    ·have hi:¬isR ts [119,111,114,100] (n,false):=fun h=>hw h.2
     simp only[if_neg hw,if_neg hi,x8 hi,x8 hw]
     exact Goes.at ((bA (q:=(n,false))).bind ((se _ ([],am ts [123] (n,false)) (rv a6 _)).bind ((nj _ ([],(lR ts (kE ts) ([],am ts [123] (n,false))).2) (.inl (rv a6 _))).bind .ret)))
 exact key _ _
theorem vX:∀(k:Nat) (r:RQ (List Str×List (Str×Int))),4*rem ts r.2+1≤k→Goes r.2 (hZ ts r.1.1 r.1.2 r.2.1) (hR ts k r)
 |0,_,h=>absurd h a6
 |k+1,r,h=>by
   rw[hR,PG]
   by_cases hw:r.2.2=true
   ·rw[if_pos hw]
    obtain⟨⟨vs,ars⟩,n,w⟩:=r
    cases hw
    exact .wrong rfl
   rw[if_neg hw]
   refine Goes.may (fun hi=>?_) fun _=>?_
   ·have h1:=jK a7 hi
    have h2:=jJ (ts:=ts) (pO (ts:=ts) (r.2.1+1,false)) zI
    have h3:=lm (ts:=ts) (s:=cp) (q:=(nR ts (r.2.1+1,false)).2)
    exact Goes.at ((pO (r.2.1+1,false)).bind (bA.bind (vX k ((r.1.1++(nR ts (r.2.1+1,false)).1,r.1.2),am ts cp (nR ts (r.2.1+1,false)).2) XR)))
   refine Goes.may (fun hi=>?_) fun _=>.ret
   have h1:=jK a7 hi
   have h2:=sd (ts:=ts) (k:=1) a6 (q:=(r.2.1+1,false))
   have h3:=lm (ts:=ts) (s:=[91]) (q:=(bS ts 1 (r.2.1+1,false)).2)
   have h4:=sd (ts:=ts) (k:=2) a6 (q:=am ts [91] (bS ts 1 (r.2.1+1,false)).2)
   have h5:=lm (ts:=ts) (s:=[93]) (q:=(bS ts 2 (am ts [91] (bS ts 1 (r.2.1+1,false)).2)).2)
   have h6:=lm (ts:=ts) (s:=cp) (q:=am ts [93] (bS ts 2 (am ts [91] (bS ts 1 (r.2.1+1,false)).2)).2)
   exact Goes.at ((gu a6 (q:=(r.2.1+1,false))).bind (bA.bind ((gu a6).bind (bA.bind (bA.bind (vX k ((r.1.1,r.1.2++[((bS ts 1 (r.2.1+1,false)).1.text,((bS ts 2 (am ts [91] (bS ts 1 (r.2.1+1,false)).2)).1.num:Int))]),am ts cp (am ts [93] (bS ts 2 (am ts [91] (bS ts 1 (r.2.1+1,false)).2)).2)) XR))))))
theorem ta (hs:s≠[]):(cw ts s n).In ts.length n:=by
 rw[←eO]
 exact cq (by simpa using hs)
theorem PI:(nZ ts n).In ts.length n:=nY
theorem HA:(fnZ ts n).Fwd n:=by
 refine PR.bind_fwd cn fun t m1=>PR.bind_fwdE nK fun _ m2=>PR.bind_fwdE ?_ fun ps m3=>?_
 ·split
  ·exact PR.fwdE_ok a6
  ·exact PR.bind_fwdE zI fun _ _=>PR.bind_fwdE nK fun _ _=>PR.fwdE_ok (j8 _)
 ·intro a m e
  have h:∀x,m3≤x→((cw ts [123] x).bind fun _ m=>(lZ ts [] m).bind fun ls m=>(ssZ ts [] m).bind fun b m=>.ok (Fn.mk t.text ps ls (decide (ah ts m3=[119,111,114,100])) b) m).FwdE m3:=fun x hx a m e=>by
   have:=PR.bind_fwdE nK (fun _ q=>PR.bind_fwdE (kI (k:=kk ts) (l:=[])) fun ls q=>PR.bind_fwdE (mj (kk ts) [] q).le fun b q=>PR.fwdE_ok (j8 _)) a m e
   omega
  exact h _ (by split <;> omega) a m e
theorem Ls:(fnZ ts n).In ts.length n:=by
 refine PR.bind_in jb fun t m1=>PR.bind_in (ta Yf) fun _ m2=>PR.bind_in ?_ fun ps m3=>?_
 ·split
  ·rename_i h;have:=bc h Ym;exact PR.in_ok a6
  ·exact PR.bind_in PI fun _ _=>PR.bind_in (ta Ym) fun _ _=>PR.in_here
 ·intro a m e
  have h:∀x,x≤max m3 ts.length→((cw ts [123] x).bind fun _ m=>(lZ ts [] m).bind fun ls m=>(ssZ ts [] m).bind fun b m=>.ok (Fn.mk t.text ps ls (decide (ah ts m3=[119,111,114,100])) b) m).In ts.length m3:=fun x hx a m e=>by
   have:=PR.bind_in (ta a7) (fun _ q=>PR.bind_in pp fun ls q=>PR.bind_in (nX (kk ts) [] q) fun b q=>PR.in_here) a m e
   omega
  refine h _ ?_ a m e
  split
  ·rename_i h;have:=bc h a7;omega
  ·omega
theorem xB:∀(k:Nat) (l:List Fn) (q:Nat×Bool),rem ts q+1≤k→Goes q ((fnZ ts q.1).bind fun f n=>fsZ ts (l++[f]) n) (fsR ts k (l,q))
 |0,_,_,h=>absurd h a6
 |k+1,l,(n,w),h=>by
   rw[fsR]
   cases w with
   |true=>rw[if_pos rfl];exact .wrong rfl
   |false=>
     rw[if_neg (c:=((l,n,false):RQ (List Fn)).2.2=true) a7]
     simp only
     have hg:=Hz (ts:=ts) (n,false)
     by_cases hw:(fR ts (n,false)).2.2=true
     ·rw[if_pos (.inl hw)]
      refine hg.bind ?_
      generalize fR ts (n,false)=r at hw
      obtain⟨f,m,v⟩:=r
      cases hw
      exact .wrong rfl
     have hv:(fR ts (n,false)).2.2=false:=by simpa using hw
     have he:=(hg.ok hv).2
     have h1:=HA _ _ he
     have h2:=Ls _ _ he
     simp only at h1 h2
     by_cases hl:(fR ts (n,false)).2.1=ts.length
     ·rw[if_pos (.inr hl)]
      refine hg.bind ?_
      rw[DW,if_neg a6]
      exact .ret
     ·rw[if_neg (fun x=>x.elim hw hl)]
      refine hg.bind ?_
      rw[DW,if_pos a6,JQ,PR.bind_assoc]
      refine bA.bind (xB k (l++[_]) _ ?_)
      unfold rem am at *
      rw[if_neg a7] at h
      simp only at h
      split
      ·rw[if_neg a7];simp only;omega
      ·rw[if_pos rfl];omega
theorem RO:Goes (0,false) (jI ts (kk ts) 0) (pR ts):=by
 rw[DX]
 unfold pR
 refine(vX (ts:=ts) (kE ts) (([],[]),0,false) (rv a6 _)).bind ?_
 have:=(xB (ts:=ts) (kE ts) [] (am ts [102,117,110,99] (hR ts (kE ts) (([],[]),0,false)).2) YZ)
 have h2:=bA.bind (f:=fun _ n=>(fnZ ts n).bind fun f n=>fsZ ts ([]++[f]) n) this
 have h3:=h2.bind (f:=fun fs n=>PR.ok (Prog.mk (hR ts (kE ts) (([],[]),0,false)).1.1 (hR ts (kE ts) (([],[]),0,false)).1.2 fs) n) .ret
 simp only[PR.bind_assoc] at h3 ⊢
 simp only[JQ,PR.bind_assoc]
 exact h3
end
end
end
end Go.Src
namespace Go.Proofs.YthnomjfdcidgbaaGreatDoor
section
attribute [local congr] Go.Am.ite_cc
open Go Go.Am Go.Asm
open Go.Src (bO ah takeN Ex Stm RQ isR am bS oW)
section
def rdW (ts:List Src.Tok) (q:Nat×Bool):List C:=[.d (cF ts),.d (.int .i64 (q.1:Nat)),.d (.bool q.2)]
def mb {α:Type} (f:FuncId) (xs:List AV) (ts:List Src.Tok) (q:Nat×Bool) (r:RQ α) (enc:α→AV):Prop:=
 ∀(B:Nat) (g:Nat→Nat) (ob:Obs),200≤B→(∀i,B≤i→ob i=none)→ob 125=some (rdW ts q)→
  iN Tryz.prog f (.one (.ptr 125 (g 125) 0)::xs) g ob (fun v g' ob'=>v=enc r.1∧g'=g∧ob'=upd ob 125 (some (rdW ts r.2)))
variable {ts:List Src.Tok}{q:Nat×Bool}{g:Nat→Nat}{ob:Obs}{s:St}{o:Oper}{K:St→Prop}{args:Array Operand}{tys:Array TypeId}{B0:Nat}{Ψ:fO}{k:Box K}
theorem InF.endsW {B:Nat}{g g1:Nat→Nat}{ob ob1:Obs} (h:InF B g ob g1 ob1) (ho:ob1 125=some (rdW ts q)):Co B [125] g ob g1 ob1∧jz [125] g g1=g∧fA [125] ob ob1=upd ob 125 (some (rdW ts q)):=by
 refine⟨⟨fun i hi h5=>h.same i hi (by simpa using h5),fun i hi cells hc c hcc=>?_⟩,xm h.rd,by rw[xn,ho]⟩
 obtain rfl:=C5.1 hi
 rw[ho] at hc
 cases hc
 simp only[rdW,y2,z7,D6] at hcc
 rcases hcc with rfl|rfl|rfl <;> trivial
theorem InF.retW {α:Type}{B:Nat}{p r:RQ α}{enc:α→AV}{avs rs:List AV} (h:InF B g ob s.gen s.obj) (hp:p=r) (ho:s.obj 125=some (rdW ts r.2)) (hf:eK B s avs rs) (hr:pack rs=enc r.1) :
  bi B [125] g ob (fun v g' ob'=>v=enc p.1∧g'=g∧ob'=upd ob 125 (some (rdW ts p.2))) s avs:=by
 subst hp
 obtain⟨h1,h2,h3⟩:=h.endsW ho
 exact⟨h1,rs,hf,hr,h2,h3⟩
section
variable {b₀:Bs}{rd:Option Nat}{Φ:St→Am.Loc→List Deferred→World→Prop}
theorem aQ {α:Type} (hΦ:aY b₀ Φ){f:FuncId} (ho:o.op=.call ⟨.value (.func f),args,tys⟩) {xs:List AV}{r:RQ α}{enc:α→AV}
  (hr:mb f xs ts q r enc) (hx:args.toList.map s.ev=.one (.ptr 125 (s.gen 125) 0)::xs) (Bc:Nat) (hB:200≤Bc) (hfree:∀i,Bc≤i→s.obj i=none) (hob:s.obj 125=some (rdW ts q))
  (hk:K (St.put ⟨s.f,s.gen,upd s.obj 125 (some (rdW ts r.2))⟩ o.dst (enc r.1))):bh (spF Tryz.prog rd b₀ Φ B0 Ψ) o s k:=
 da hΦ ho (by rw[hx];exact hr Bc s.gen s.obj hB hfree hob) (by rintro _ _ _ ⟨rfl,rfl,rfl⟩;exact hk)
end
theorem Ah (ho:ob 125=some (rdW ts q)) :
  iN Tryz.prog 90 [.one (.ptr 125 (g 125) 0)] g ob (fun r g' ob'=>r=sv (ah ts q.1)∧g'=g∧ob'=ob):=by
 obtain⟨n,w⟩:=q
 show iN Tryz.prog 90 _ g ob (fun r g' ob'=>r=sv (ah ts n)∧g'=g∧ob'=ob)
 generalize hz:ah ts n=z
 refine hdF 9000 Tryz.func90 rfl [2] ?_
 unfold rdW cF at ho
 have hn0:(0:Int)≤(n:Int):=a6
 unfold ah at hz
 simp only[go_sem]
 refine bP b9 ?_
 by_cases hlt:n<ts.length
 case neg=>
  exact WQ
 have hlti:(n:Int)<(ts.length:Int):=a6
 obtain⟨t,ht⟩:=getq hlt
 have htg:=jD ht
 rw[ht] at hz
 simp only at hz
 by_cases h3:t.kind=3
 ·have h3i:(t.kind:Int)=3:=a6
  rw[if_pos (.inl h3)] at hz
  subst hz
  simp only[go_sem,ho,j4,hlti,hn0,htg,h3i]
  exact Wj
 have h3i:¬(t.kind:Int)=3:=a6
 by_cases h4:t.kind=4
 ·have h4i:(t.kind:Int)=4:=a6
  rw[if_pos (.inr h4)] at hz
  subst hz
  simp only[go_sem,ho,j4,hlti,hn0,htg,h3i,h4i]
  exact Wj
 ·have h4i:¬(t.kind:Int)=4:=a6
  rw[if_neg (by simp[h3,h4])] at hz
  subst hz
  simp only[go_sem,ho,j4,hlti,hn0,htg,h3i,h4i]
  exact VA
theorem wJ{k:Nat} (hk:0<k) (ho:ob 125=some (rdW ts q)) {z:Bool} (hz:decide (q.2=false∧bO ts q.1=k)=z) :
  iN Tryz.prog 91 [.one (.ptr 125 (g 125) 0),iv .i64 k] g ob (fun r g' ob'=>r=bv z∧g'=g∧ob'=ob):=by
 obtain⟨n,w⟩:=q
 refine hdF 9000 Tryz.func91 rfl [4] ?_
 unfold rdW cF at ho
 have hn0:(0:Int)≤(n:Int):=a6
 simp only[go_sem]
 refine bP b9 ?_
 unfold bO at hz
 cases w with
 |true=>
   simp only[go_sem,ho]
   refine⟨_,ab.refl _,?_,rfl,rfl⟩
   rw[←hz];rfl
 |false=>
   by_cases hlt:n<ts.length
   case neg=>
    have hlti:¬(n:Int)<(ts.length:Int):=a6
    rw[A5 a6] at hz
    simp only[go_sem,ho,j4,hlti]
    obtain rfl:z=false:=by rw[←hz];simp;intro h;omega
    exact VA
   have hlti:(n:Int)<(ts.length:Int):=a6
   obtain⟨t,ht⟩:=getq hlt
   have htg:=jD ht
   rw[ht] at hz
   simp only at hz
   by_cases hk:t.kind=k
   ·have hki:(t.kind:Int)=(k:Int):=a6
    simp only[go_sem,ho,j4,hlti,hn0,htg,hki]
    obtain rfl:z=true:=by rw[←hz];simp[hk]
    exact VA
   ·have hki:¬(t.kind:Int)=(k:Int):=a6
    simp only[go_sem,ho,j4,hlti,hn0,htg,hki]
    obtain rfl:z=false:=by rw[←hz];simp[hk]
    exact VA
def IsW (ts:List Src.Tok) (q:Nat×Bool) (s:Str) (g:Nat→Nat) (ob:Obs) (r:AV) (g':Nat→Nat) (ob':Obs):Prop:=
 g'=g∧((isR ts s q∧r=bv true∧ob'=upd ob 125 (some (rdW ts (q.1+1,false))))∨(¬isR ts s q∧r=bv false∧ob'=ob))
theorem Rc (ho:ob 125=some (rdW ts q)) (hn:q.1≤1000000) (s:Str) :
  iN Tryz.prog 46 [.one (.ptr 125 (g 125) 0),sv s] g ob (IsW ts q s g ob):=by
 obtain⟨n,w⟩:=q
 refine hdF 9000 Tryz.func46 rfl [4] ?_
 have hw:=ae (k:=n) (by simp only at hn;omega)
 have ho':=ho
 unfold rdW cF at ho
 cases w with
 |true=>
   simp only[go_sem,ho]
   exact⟨_,ab.refl _,rfl,.inr ⟨fun h=>(by cases h.1),rfl,rfl⟩⟩
 |false=>
   simp only[go_sem,ho]
   refine ez rfl (by simp only[go_sem];exact Ah ho') ?_
   rintro _ g1 ob1 ⟨rfl,rfl,rfl⟩
   by_cases he:ah ts n=s
   ·simp only[go_sem,he,ho,hw]
    refine⟨_,ab.refl _,rfl,.inl ⟨⟨rfl,he⟩,rfl,?_⟩⟩
    simp only[go_sem,rdW,cF]
   ·simp only[go_sem,he]
    exact⟨_,ab.refl _,rfl,.inr ⟨fun h=>he h.2,rfl,rfl⟩⟩
theorem MC (ts:List Src.Tok) (q:Nat×Bool) (s:Str) (hn:q.1≤1000000):mb 48 [sv s] ts q ((),am ts s q) (fun _=>uv):=by
 intro B g ob hB hf ho
 refine hdF 9000 Tryz.func48 rfl [] ?_
 simp only[go_sem]
 refine ez rfl (by simp only[go_sem];exact Rc ho hn s) ?_
 rintro _ g1 ob1 ⟨rfl,⟨hi,rfl,rfl⟩|⟨hi,rfl,rfl⟩⟩
 ·simp only[go_sem]
  exact⟨_,ab.refl _,rfl,rfl,by simp only[am];rw[if_pos hi]⟩
 ·unfold rdW at ho
  simp only[go_sem,ho]
  exact⟨_,ab.refl _,rfl,rfl,by simp only[am];rw[if_neg hi];rfl⟩
section
variable {b₀:Bs}{rd:Option Nat}{Φ:St→Am.Loc→List Deferred→World→Prop}
theorem cC (ts:List Src.Tok) (q:Nat×Bool) (x:Str) (hΦ:aY b₀ Φ) (ho:o.op=.call ⟨.value (.func 46),args,tys⟩)
  (hx:args.toList.map s.ev=[.one (.ptr 125 (s.gen 125) 0),sv x]) (hob:s.obj 125=some (rdW ts q)) (hn:q.1≤1000000)
  (h1:isR ts x q→K (St.put ⟨s.f,s.gen,upd s.obj 125 (some (rdW ts (q.1+1,false)))⟩ o.dst (bv true))) (h2:¬isR ts x q→K (St.put s o.dst (bv false))):bh (spF Tryz.prog rd b₀ Φ B0 Ψ) o s k:=by
 refine da hΦ ho (by rw[hx];exact Rc hob hn x) ?_
 rintro _ _ _ ⟨rfl,⟨hi,rfl,rfl⟩|⟨hi,rfl,rfl⟩⟩
 ·exact h1 hi
 ·exact h2 hi
theorem ba (ts:List Src.Tok) (q:Nat×Bool) (x:Str) (hΦ:aY b₀ Φ) (ho:o.op=.call ⟨.value (.func 48),args,tys⟩)
  (hx:args.toList.map s.ev=[.one (.ptr 125 (s.gen 125) 0),sv x]) (hob:s.obj 125=some (rdW ts q)) (hn:q.1≤1000000) (Bc:Nat) (hB:200≤Bc) (hfree:∀i,Bc≤i→s.obj i=none)
  (h1:K (St.put ⟨s.f,s.gen,upd s.obj 125 (some (rdW ts (am ts x q)))⟩ o.dst uv)):bh (spF Tryz.prog rd b₀ Φ B0 Ψ) o s k:=aQ hΦ ho (MC ts q x hn) hx Bc hB hfree hob h1
end
end
end
end Go.Proofs.YthnomjfdcidgbaaGreatDoor
namespace Go.Src
section
open Go.Asm (Str)
section
variable {q:Nat×Bool}{s:Str}
section
variable {ts:List Tok}
theorem eG (h:isR ts s q) (hs:s≠[]):q.1+1≤ts.length:=bc h.2 hs
theorem cY (hs:s≠[]) (h:q.1≤ts.length):q.1≤(am ts s q).1∧(am ts s q).1≤ts.length:=by
 unfold am
 split
 ·rename_i hi
  exact⟨P5 _,eG hi hs⟩
 ·exact⟨j8 _,h⟩
theorem nL {k:Nat} (hk:0<k) (h:q.1≤ts.length):q.1≤(bS ts k q).2.1∧(bS ts k q).2.1≤ts.length:=by
 unfold bS
 split
 ·rename_i hi
  exact⟨P5 _,Je hi.2 a6⟩
 ·exact⟨j8 _,h⟩
mutual
theorem nk:∀(k least:Nat) (q:Nat×Bool),0<least→q.1≤ts.length→q.1≤(eR ts k least q).2.1∧(eR ts k least q).2.1≤ts.length
 |0,_,_,_,h=>⟨j8 _,h⟩
 |k+1,least,q,h0,h=>by
   rw[eR]
   split
   ·exact JS k q h
   ·have h1:=nk k (least+1) q a6 h
    have h2:=Eb k least _ h0 h1.2
    omega
theorem Eb:∀(k least:Nat) (r:RQ Ex),0<least→r.2.1≤ts.length→r.2.1≤(loR ts k least r).2.1∧(loR ts k least r).2.1≤ts.length
 |0,_,_,_,h=>⟨j8 _,h⟩
 |k+1,least,r,h0,h=>by
   rw[loR]
   split
   ·rename_i hs
    have hn:r.2.1<ts.length:=rY h0 a6
    ·have h1:=nk k (least+1) (r.2.1+1,false) a6 hn
     have h2:=Eb k least (.mk (ew (ah ts r.2.1)).1 (ew (ah ts r.2.1)).2.1 0 [] [r.1,(eR ts k (least+1) (r.2.1+1,false)).1],(eR ts k (least+1) (r.2.1+1,false)).2) h0 h1.2
     exact VY
   ·exact⟨j8 _,h⟩
theorem JS:∀(k:Nat) (q:Nat×Bool),q.1≤ts.length→q.1≤(aR ts k q).2.1∧(aR ts k q).2.1≤ts.length
 |0,_,h=>⟨j8 _,h⟩
 |k+1,q,h=>by
   rw[aR]
   split
   ·exact nL a6 h
   split
   ·rename_i hi
    have h0:=eG hi a7
    have h1:=cY (ts:=ts) (s:=bL) (q:=(q.1+1,false)) Yf h0
    have h2:=cY (ts:=ts) (s:=bB) Ym h1.2
    exact VY
   split
   ·rename_i hi
    have h1:=JS k (q.1+1,false) (eG hi a7)
    exact Xn
   split
   ·rename_i hi
    have h1:=nk k 1 (q.1+1,false) a6 (eG hi Yf)
    have h2:=cY (ts:=ts) (s:=bB) Ym h1.2
    exact VY
   have h0:=nL (ts:=ts) (k:=1) a6 h
   split
   ·rename_i hi
    have h1:=nk k 1 ((bS ts 1 q).2.1+1,false) a6 (eG hi a7)
    have h2:=cY (ts:=ts) (s:=[93]) a7 h1.2
    exact VY
   split
   ·rename_i hi
    have h1:=JT k ((bS ts 1 q).2.1+1,false) (eG hi Yf)
    exact Xn
   ·exact h0
theorem JT:∀(k:Nat) (q:Nat×Bool),q.1≤ts.length→q.1≤(gR ts k q).2.1∧(gR ts k q).2.1≤ts.length
 |0,_,h=>⟨j8 _,h⟩
 |k+1,q,h=>by
   rw[gR]
   split
   ·rename_i hi
    have h0:=eG hi Ym
    exact⟨P5 _,h0⟩
   ·have h1:=nk k 1 q a6 h
    have h2:=Ec k ([(eR ts k 1 q).1],(eR ts k 1 q).2) h1.2
    exact VY
theorem Ec:∀(k:Nat) (r:RQ (List Ex)),r.2.1≤ts.length→r.2.1≤(goR ts k r).2.1∧(goR ts k r).2.1≤ts.length
 |0,_,h=>⟨j8 _,h⟩
 |k+1,r,h=>by
   rw[goR]
   split
   ·rename_i hi
    have h1:=nk k 1 (r.2.1+1,false) a6 (eG hi YS)
    have h2:=Ec k (r.1++[(eR ts k 1 (r.2.1+1,false)).1],(eR ts k 1 (r.2.1+1,false)).2) h1.2
    exact VY
   ·exact cY Ym h
end
theorem Ed (h:q.1≤ts.length):q.1≤(cR ts q).2.1∧(cR ts q).2.1≤ts.length:=by
 have h1:=cY (ts:=ts) (s:=bL) Yf h
 have h2:=nk (kE ts) 1 _ a6 h1.2
 have h3:=cY (ts:=ts) (s:=bB) Ym h2.2
 unfold cR
 simp only
 omega
theorem Lt (h:q.1≤ts.length):q.1≤(nsR ts q).2.1∧(nsR ts q).2.1≤ts.length:=by
 have h0:=nL (ts:=ts) (k:=1) a6 h
 unfold nsR
 simp only
 split
 ·rename_i hi
  have h1:=JT (kE ts) ((bS ts 1 q).2.1+1,false) (eG hi Yf)
  exact Xn
 split
 ·rename_i hi
  have h1:=nk (kE ts) 1 ((bS ts 1 q).2.1+1,false) a6 (eG hi a7)
  have h2:=cY (ts:=ts) (s:=[93]) a7 h1.2
  have h3:=cY (ts:=ts) (s:=[61]) a7 h2.2
  have h4:=nk (kE ts) 1 _ a6 h3.2
  exact Xn
 ·have h3:=cY (ts:=ts) (s:=[61]) a7 h0.2
  have h4:=nk (kE ts) 1 _ a6 h3.2
  simp only
  omega
theorem Lu (h:q.1≤ts.length):q.1≤(nmR ts q).2.1∧(nmR ts q).2.1≤ts.length:=by
 have h1:=Lt h
 have h2:=cY (ts:=ts) (s:=cp) Yr h1.2
 unfold nmR
 simp only
 omega
mutual
theorem Lv:∀(k:Nat) (q:Nat×Bool),q.1≤ts.length→q.1≤(stR ts k q).2.1∧(stR ts k q).2.1≤ts.length
 |0,_,h=>⟨j8 _,h⟩
 |k+1,q,h=>by
   rw[stR]
   split
   ·rename_i hi
    have h1:=Ed (ts:=ts) (q:=(q.1+1,false)) (eG hi a7)
    have h2:=cY (ts:=ts) (s:=cp) Yr h1.2
    exact VY
   split
   ·rename_i hi
    have h0:=eG hi a7
    split
    ·rename_i hj
     have h1:=eG hj Yr
     exact Xn
    ·have h1:=nk (kE ts) 1 (q.1+1,false) a6 h0
     have h2:=cY (ts:=ts) (s:=cp) Yr h1.2
     exact VY
   split
   ·rename_i hi
    have h1:=Ed (ts:=ts) (q:=(q.1+1,false)) (eG hi a7)
    have h2:=Ee k _ h1.2
    simp only at h1 h2 ⊢
    split
    ·rename_i hj
     have h3:=Ee k (_+1,false) (eG hj a7)
     simp only at h3 ⊢
     omega
    ·simp only;omega
   split
   ·rename_i hi
    have h1:=Ed (ts:=ts) (q:=(q.1+1,false)) (eG hi a7)
    have h2:=Ee k _ h1.2
    exact VY
   ·exact Lu h
theorem Ee:∀(k:Nat) (q:Nat×Bool),q.1≤ts.length→q.1≤(bR ts k q).2.1∧(bR ts k q).2.1≤ts.length
 |0,_,h=>⟨j8 _,h⟩
 |k+1,q,h=>by
   rw[bR]
   have h1:=cY (ts:=ts) (s:=[123]) a7 h
   have h2:=zJ k ([],am ts [123] q) h1.2
   simp only at h2
   omega
theorem zJ:∀(k:Nat) (r:RQ (List Stm)),r.2.1≤ts.length→r.2.1≤(ssR ts k r).2.1∧(ssR ts k r).2.1≤ts.length
 |0,_,h=>⟨j8 _,h⟩
 |k+1,r,h=>by
   rw[ssR]
   split
   ·exact⟨j8 _,h⟩
   split
   ·rename_i hi
    have:=eG hi a7
    exact⟨P5 _,this⟩
   ·have h1:=Lv k r.2 h
    have h2:=zJ k (r.1++[(stR ts k r.2).1],(stR ts k r.2).2) h1.2
    simp only at h2 ⊢
    omega
end
theorem Ef:∀(k:Nat) (r:RQ (List Str)),r.2.1≤ts.length→r.2.1≤(ngR ts k r).2.1∧(ngR ts k r).2.1≤ts.length∧(ngR ts k r).1.length+r.2.1≤r.1.length+(ngR ts k r).2.1
 |0,_,h=>⟨j8 _,h,j8 _⟩
 |k+1,r,h=>by
   rw[ngR]
   split
   ·rename_i hi
    have h1:=nL (ts:=ts) (k:=1) (q:=(r.2.1+1,false)) a6 (eG hi YS)
    have h2:=Ef k (r.1++[(bS ts 1 (r.2.1+1,false)).1.text],(bS ts 1 (r.2.1+1,false)).2) h1.2
    simp only[j5,j6,j7] at h1 h2 ⊢
    omega
   ·exact⟨j8 _,h,j8 _⟩
theorem JU (h:q.1≤ts.length):q.1≤(nR ts q).2.1∧(nR ts q).2.1≤ts.length∧(nR ts q).1.length+q.1≤(nR ts q).2.1+1:=by
 have h1:=nL (ts:=ts) (k:=1) a6 h
 have h2:=Ef (kE ts) ([(bS ts 1 q).1.text],(bS ts 1 q).2) h1.2
 unfold nR
 simp only[j6,j7] at h2
 omega
theorem JV:∀(k:Nat) (r:RQ (List Str)),r.2.1≤ts.length→r.2.1≤(lR ts k r).2.1∧(lR ts k r).2.1≤ts.length∧(lR ts k r).1.length+r.2.1≤r.1.length+(lR ts k r).2.1
 |0,_,h=>⟨j8 _,h,j8 _⟩
 |k+1,r,h=>by
   rw[lR]
   split
   ·rename_i hi
    have h1:=JU (ts:=ts) (q:=(r.2.1+1,false)) (eG hi a7)
    have h2:=cY (ts:=ts) (s:=cp) Yr h1.2.1
    have h3:=JV k (r.1++(nR ts (r.2.1+1,false)).1,am ts cp (nR ts (r.2.1+1,false)).2) h2.2
    simp only[j5] at h1 h2 h3 ⊢
    omega
   ·exact⟨j8 _,h,j8 _⟩
theorem Lx (h:q.1≤ts.length):q.1≤(psR ts q).2.1∧(psR ts q).2.1≤ts.length:=by
 unfold psR
 split
 ·rename_i hi
  exact⟨P5 _,eG hi Ym⟩
 ·have h1:=JU h
  have h2:=cY (ts:=ts) (s:=bB) Ym h1.2.1
  simp only
  omega
theorem Eg (hs:s≠[]) (h:q.1≤ts.length):q.1≤(if isR ts s q then(q.1+1,false) else q).1∧(if isR ts s q then(q.1+1,false) else q).1≤ts.length:=by
 split
 ·rename_i hi
  exact⟨P5 _,eG hi hs⟩
 ·exact⟨j8 _,h⟩
theorem TO (h:q.1≤ts.length):q.1≤(fR ts q).2.1∧(fR ts q).2.1≤ts.length:=by
 have h1:=nL (ts:=ts) (k:=1) a6 h
 have h2:=cY (ts:=ts) (s:=bL) Yf h1.2
 have h3:=Lx h2.2
 have h4:=Eg (ts:=ts) (s:=[119,111,114,100]) a7 h3.2
 have h5:=cY (ts:=ts) (s:=[123]) a7 h4.2
 generalize hx:(if isR ts [119,111,114,100] (psR ts (am ts bL (bS ts 1 q).2)).2 then((psR ts (am ts bL (bS ts 1 q).2)).2.1+1,false) else(psR ts (am ts bL (bS ts 1 q).2)).2)=x at h4 h5
 have h6:=JV (kE ts) ([],am ts [123] x) h5.2
 have h7:=zJ (kE ts) ([],(lR ts (kE ts) ([],am ts [123] x)).2) h6.2.1
 unfold fR
 simp only[hx] at h6 h7 ⊢
 omega
end
end
end
end Go.Src
namespace Go.Proofs.YthnomjfdcidgbaaGreatDoor
section
attribute [local congr] Go.Am.ite_cc
open Go Go.Am Go.Asm
open Go.Src (PR bO ah takeN bC Ex)
def BA (s:Str):AV:=.tup [.agg [.d (.int .i64 (Src.ew s).1),.d (.int .i64 (Src.ew s).2.1),.d (.int .u32 0),.d (.str []),.d (.sl [])],iv .i64 ((Src.ew s).2.2:Nat)]
theorem ed {s:Str}{k op:Int}{n:Nat} (h:Src.ew s=(k,op,n)):BA s=.tup [.agg [.d (.int .i64 k),.d (.int .i64 op),.d (.int .u32 0),.d (.str []),.d (.sl [])],iv .i64 (n:Nat)]:=by unfold BA;rw[h]
theorem ee {s:St}{k op n:Int}{x:D} (hx:ge x=.sl []):oK s [.agg [.d (.int .i64 k),.d (.int .i64 op),.d (.int .u32 0),.d (.str []),.d x],iv .i64 n] (.tup [.agg [.d (.int .i64 k),.d (.int .i64 op),.d (.int .u32 0),.d (.str []),.d (.sl [])],iv .i64 n]):=by
 have h:=mu (s:=s) [.int .i64 k,.int .i64 op,.int .u32 0,.str [],x]
 simp only[l6,v7,hx] at h
 exact⟨_,⟨_,_,rfl,h,_,_,rfl,dv _,rfl⟩,rfl⟩
theorem Mb (s:Str):aA Tryz.prog 254 [sv s] (· = BA s):=by
 refine hdR Tryz.func254 rfl [.cell 2 210,.tmp 3] fun g=>?_
 by_cases h0:s=[124,124]
 ·have hv:Src.ew s=(9,0,1):=by subst h0;rfl
  rw[ed hv]
  simp only[go_sem,l8 h0]
  exact⟨_,ee rfl,rfl⟩
 by_cases h1:s=[38,38]
 ·have hv:Src.ew s=(8,0,2):=by subst h1;rfl
  rw[ed hv]
  simp only[go_sem,h0,l8 h1]
  exact⟨_,ee rfl,rfl⟩
 by_cases h2:s=[61,61]
 ·have hv:Src.ew s=(6,15,3):=by subst h2;rfl
  rw[ed hv]
  simp only[go_sem,h0,h1,l8 h2]
  exact Uv
 by_cases h3:s=[60]
 ·have hv:Src.ew s=(6,14,4):=by subst h3;rfl
  rw[ed hv]
  simp only[go_sem,h0,h1,h2,l8 h3]
  exact Uv
 by_cases h4:s=[124]
 ·have hv:Src.ew s=(6,10,5):=by subst h4;rfl
  rw[ed hv]
  simp only[go_sem,h0,h1,h2,h3,l8 h4]
  exact Uv
 by_cases h5:s=[94]
 ·have hv:Src.ew s=(6,11,5):=by subst h5;rfl
  rw[ed hv]
  simp only[go_sem,h0,h1,h2,h3,h4,l8 h5]
  exact Uv
 by_cases h6:s=[38]
 ·have hv:Src.ew s=(6,9,6):=by subst h6;rfl
  rw[ed hv]
  simp only[go_sem,h0,h1,h2,h3,h4,h5,l8 h6]
  exact Uv
 by_cases h7:s=[60,60]
 ·have hv:Src.ew s=(6,12,7):=by subst h7;rfl
  rw[ed hv]
  simp only[go_sem,h0,h1,h2,h3,h4,h5,h6,l8 h7]
  exact Uv
 by_cases h8:s=[62,62]
 ·have hv:Src.ew s=(6,13,7):=by subst h8;rfl
  rw[ed hv]
  simp only[go_sem,h0,h1,h2,h3,h4,h5,h6,h7,l8 h8]
  exact Uv
 by_cases h9:s=[43]
 ·have hv:Src.ew s=(6,4,8):=by subst h9;rfl
  rw[ed hv]
  simp only[go_sem,h0,h1,h2,h3,h4,h5,h6,h7,h8,l8 h9]
  exact Uv
 by_cases h10:s=[45]
 ·have hv:Src.ew s=(6,5,8):=by subst h10;rfl
  rw[ed hv]
  simp only[go_sem,h0,h1,h2,h3,h4,h5,h6,h7,h8,h9,l8 h10]
  exact Uv
 by_cases h11:s=[42]
 ·have hv:Src.ew s=(6,6,9):=by subst h11;rfl
  rw[ed hv]
  simp only[go_sem,h0,h1,h2,h3,h4,h5,h6,h7,h8,h9,h10,l8 h11]
  exact Uv
 by_cases h12:s=[47]
 ·have hv:Src.ew s=(6,7,9):=by subst h12;rfl
  rw[ed hv]
  simp only[go_sem,h0,h1,h2,h3,h4,h5,h6,h7,h8,h9,h10,h11,l8 h12]
  exact Uv
 by_cases h13:s=[37]
 ·have hv:Src.ew s=(6,8,9):=by subst h13;rfl
  rw[ed hv]
  simp only[go_sem,h0,h1,h2,h3,h4,h5,h6,h7,h8,h9,h10,h11,h12,l8 h13]
  exact Uv
 have hv:Src.ew s=(0,0,0):=by unfold Src.ew;simp only[h0,h1,h2,h3,h4,h5,h6,h7,h8,h9,h10,h11,h12,h13,A4]
 rw[ed hv]
 simp only[go_sem,h0,h1,h2,h3,h4,h5,h6,h7,h8,h9,h10,h11,h12,h13]
 exact⟨_,ee rfl,rfl⟩
end
end Go.Proofs.YthnomjfdcidgbaaGreatDoor

/- A part of the proof; no conditions. -/
import Derived.Test.YtlglgadejgdpcaaGreatDoorPart9
set_option linter.unusedSimpArgs false
set_option linter.unusedVariables false
set_option maxHeartbeats 64000000
set_option maxRecDepth 100000
namespace Go.Am
section
attribute [local congr] Go.Am.ite_cc
theorem nu {P:Prop} (h:P:=by (try simp only[upd]);(repeat rw[if_neg (by omega)])):P:=h
theorem nt {P Q:Prop} (q:Q) (h:P=Q:=by (try simp only[upd]);(repeat rw[if_neg (by omega)])):P:=h▸q
theorem fi {ob1 ob2:Obs}{B B2:Nat} (hf:∀i,B≤i→ob1 i=none) (h:∀i,B2≤i→B≤i∧ob2 i=ob1 i:=by (intro i hi;refine⟨by omega,?_⟩;(try simp only[upd]);(repeat rw[if_neg (by omega)]))):∀i,B2≤i→ob2 i=none:=fun i hi=>(h i hi).2.trans (hf i (h i hi).1)
end
end Go.Am
namespace Go.Proofs.YtlglgadejgdpcaaGreatDoor
section
attribute [local congr] Go.Am.ite_cc
open Go Go.Am Go.Asm
open Go.Src (PR cV az takeN br)
section
def rdC (ts:List Src.Tok) (n fin:Nat):List C:=[.d (gL ts),.d (.int .i64 (n:Nat)),.d (.int .i64 (fin:Nat))]
def kf (ts:List Src.Tok) (fin n:Nat):Nat:=match ts[n]? with|some t=>t.place|none=>fin
def rn (k:Nat):List PanicEntry:=[{ v:=.iface 103 (.agg #[.int .i64 (k:Nat)]),recovered:=false }]
variable {ts:List Src.Tok}{g:Nat→Nat}{ob:Obs}{B:Nat}{s:St}{n fin:Nat}{y:Option (List C)}
theorem nO{n:Nat}{t:Src.Tok} (h:ts[n]? = some t):(ts.map kN)[n]? = some [.int .i64 (t.kind:Nat),.str t.text,.int .u32 (t.num:Nat),.int .i64 (t.place:Nat)]:=by rw[x7,h];rfl
def OkR {α:Type} (ts:List Src.Tok) (fin:Nat) (p:PR α) (enc:α→AV) (g:Nat→Nat) (ob:Obs) (r:AV) (g':Nat→Nat) (ob':Obs):Prop:=
 g'=g∧∃a m,p=.ok a m∧r=enc a∧ob'=upd ob 125 (some (rdC ts m fin))
def NoR {α:Type} (ts:List Src.Tok) (fin:Nat) (p:PR α) (g:Nat→Nat) (ob:Obs):Pan:=fun ch g' ob'=>
 g'=g∧∃m,p=.no m∧ch=rn (kf ts fin m)∧ob'=upd ob 125 (some (rdC ts m fin))
def eb {α:Type} (f:FuncId) (xs:List AV) (ts:List Src.Tok) (n fin:Nat) (p:PR α) (enc:α→AV):Prop:=
 ∀(B:Nat) (g:Nat→Nat) (ob:Obs),200≤B→(∀i,B≤i→ob i=none)→ob 125=some (rdC ts n fin)→
  dF Tryz.prog f (.one (.ptr 125 (g 125) 0)::xs) g ob (OkR ts fin p enc g ob) (NoR ts fin p g ob)
structure InF (B:Nat) (g:Nat→Nat) (ob:Obs) (g':Nat→Nat) (ob':Obs):Prop where
 same:∀i,i<B→i≠125→g' i=g i∧ob' i=ob i
 rd:g' 125=g 125
theorem InF.refl:InF B g ob g ob:=⟨fun _ _ _=>⟨rfl,rfl⟩,rfl⟩
theorem InF.go{g g1 g2:Nat→Nat}{ob ob1 ob2:Obs} (h:InF B g ob g1 ob1) (q:(∀i,i<B→i≠125→g2 i=g1 i∧ob2 i=ob1 i)∧g2 125=g1 125:=by (refine⟨fun i hi h5=>⟨?_,?_⟩,?_⟩ <;> ((try simp only[upd]);(repeat rw[if_neg (by omega)]);first|done|rfl))):InF B g ob g2 ob2:=
 ⟨fun i hi h5=>⟨(q.1 i hi h5).1.trans (h.same i hi h5).1,(q.1 i hi h5).2.trans (h.same i hi h5).2⟩,q.2.trans h.rd⟩
theorem InF.put {B j:Nat}{g g1:Nat→Nat}{ob ob1:Obs} (h:InF B g ob g1 ob1) (hj:B≤j):InF B g ob g1 (upd ob1 j y):=⟨fun i hi h5=>⟨(h.same i hi h5).1,by simp only[upd];rw[if_neg a7];exact(h.same i hi h5).2⟩,h.rd⟩
theorem InF.newG {B j x:Nat}{g g1:Nat→Nat}{ob ob1:Obs} (h:InF B g ob g1 ob1) (hj:B≤j) (hB:125<B):InF B g ob (upd g1 j x) ob1:=⟨fun i hi h5=>⟨by simp only[upd];rw[if_neg a7];exact(h.same i hi h5).1,(h.same i hi h5).2⟩,by simp only[upd];rw[if_neg a7];exact h.rd⟩
theorem InF.rdr{g g1:Nat→Nat}{ob ob1:Obs} (h:InF B g ob g1 ob1):InF B g ob g1 (upd ob1 125 y):=⟨fun i hi h5=>⟨(h.same i hi h5).1,by simp only[upd];rw[if_neg h5];exact(h.same i hi h5).2⟩,h.rd⟩
theorem InF.ends {B n fin:Nat}{g g1:Nat→Nat}{ob ob1:Obs} (h:InF B g ob g1 ob1) (ho:ob1 125=some (rdC ts n fin)):BE B [125] g ob g1 ob1∧iD [125] g g1=g∧eD [125] ob ob1=upd ob 125 (some (rdC ts n fin)):=by
 refine⟨⟨fun i hi h5=>h.same i hi (by simpa using h5),fun i hi cells hc c hcc=>?_⟩,BF h.rd,by rw[BG,ho]⟩
 obtain rfl:=D0.1 hi
 rw[ho] at hc
 cases hc
 simp only[rdC,x8,z7,E4] at hcc
 rcases hcc with rfl|rfl|rfl <;> trivial
theorem InF.ret {α:Type}{B n fin:Nat}{p:PR α}{enc:α→AV}{avs rs:List AV}{a:α} (h:InF B g ob s.gen s.obj) (ho:s.obj 125=some (rdC ts n fin)) (hp:p=.ok a n) (hf:ej B s avs rs) (hr:pack rs=enc a):aQ B [125] g ob (OkR ts fin p enc g ob) s avs:=by
 obtain⟨h1,h2,h3⟩:=h.ends ho
 exact⟨h1,rs,hf,h2,a,n,hp,hr,h3⟩
theorem InF.pan {α:Type}{B n fin:Nat}{g g1:Nat→Nat}{ob ob1:Obs}{p:PR α}{ch:List PanicEntry} (h:InF B g ob g1 ob1) (ho:ob1 125=some (rdC ts n fin)) (hp:p=.no n) (hc:ch=rn (kf ts fin n)) :
  BE B [125] g ob g1 ob1∧NoR ts fin p g ob ch (iD [125] g g1) (eD [125] ob ob1):=by
 obtain⟨h1,h2,h3⟩:=h.ends ho
 exact⟨h1,h2,n,hp,hc,h3⟩
section
variable {b₀:Bs}{rd:Option Nat}{Φ:St→Am.Loc→List Deferred→World→Prop}
theorem ay {α α':Type} (hΦ:aE b₀ Φ) {o:Oper}{K:St→Prop}{k:Box K}{f:FuncId}{args:Array Operand}{tys:Array TypeId} (ho:o.op=.call ⟨.value (.func f),args,tys⟩) {xs:List AV}{p:PR α}{enc:α→AV}
  (hr:eb f xs ts n fin p enc) (hx:args.toList.map s.ev=.one (.ptr 125 (s.gen 125) 0)::xs) (Bc:Nat) (hB:200≤Bc) (hfree:∀i,Bc≤i→s.obj i=none) (hob:s.obj 125=some (rdC ts n fin)) {B B0:Nat}{p':PR α'} (hin:InF B g ob s.gen s.obj)
  (hno:∀m,p=.no m→p'=.no m) (hk:∀a m,p=.ok a m→K (St.put ⟨s.f,s.gen,upd s.obj 125 (some (rdC ts m fin))⟩ o.dst (enc a))):aS (spF Tryz.prog rd b₀ Φ B0 (EZ B [125] g ob (NoR ts fin p' g ob))) o s k:=by
 refine bp (R:=OkR ts fin p enc s.gen s.obj) (Ψ0:=NoR ts fin p s.gen s.obj) hΦ ho (by rw[hx];exact hr Bc s.gen s.obj hB hfree hob) ?_ ?_
 ·rintro ch g' ob' ⟨rfl,m,hp,hc,rfl⟩
  exact hin.rdr.pan (by simp[upd]) (hno m hp) hc
 ·rintro r g' ob' ⟨rfl,a,m,hp,rfl,rfl⟩
  exact hk a m hp
end
theorem ro (xs:List D):kc s (.agg (xs.map .d)) (.agg ((xs.map fg).map .d)):=by
 refine⟨xs.map fg,a8,fun i c hc=>?_,rfl⟩
 rw[x7] at hc ⊢
 cases hq:xs[i]? with
 |none=>rw[hq] at hc;cases hc
 |some x=>rw[hq] at hc;cases hc;exact⟨_,rfl,.d x⟩
theorem nlo (hB:200≤B) (k:Nat):(125=B+k)=False:=by simp;omega
theorem nhi (hB:200≤B) (k:Nat):(B+k=125)=False:=by simp;omega
theorem CA (ho:ob 125=some (rdC ts n fin)) :
  gf Tryz.prog 79 [.one (.ptr 125 (g 125) 0)] g ob (fun r g' ob'=>r=iv .i64 (cV ts n:Nat)∧g'=g∧ob'=ob):=by
 refine bQ 9000 ae mixed Tryz.func79 rfl b9 [2] rfl c9 (by simp[Tryz.ntmps79]) ?_
 unfold rdC gL at ho
 have hn0:(0:Int)≤(n:Int):=a7
 simp only[go_sem]
 refine fL j0 ?_
 unfold cV
 by_cases hlt:n<ts.length
 ·have hlti:(n:Int)<(ts.length:Int):=a7
  obtain⟨t,ht⟩:=getq hlt
  have htg:=nO ht
  rw[ht]
  simp only[go_sem,ho,j6,hlti]
  refine fL j0 ?_
  simp only[go_sem,ho,hn0,htg]
  exact⟨_,ah.refl _,rfl,rfl,rfl⟩
 ·have hlti:¬(n:Int)<(ts.length:Int):=a7
  rw[D7 a7]
  simp only[go_sem,ho,j6,hlti]
  exact⟨_,ah.refl _,rfl,rfl,rfl⟩
theorem xO {B n fin:Nat} (hB:200≤B) (hf:∀i,B≤i→ob i=none) (ho:ob 125=some (rdC ts n fin)) :
  gf Tryz.prog 78 [.one (.ptr 125 (g 125) 0)] g ob (fun r g' ob'=>r=sv (az ts n)∧g'=g∧ob'=ob):=by
 refine xp B ae mixed Tryz.func78 rfl b9 [2] rfl c9 (by simp[Tryz.ntmps78]) hf ?_
 have n1:=nlo hB
 have n2:=nhi hB
 unfold rdC gL at ho
 have hn0:(0:Int)≤(n:Int):=a7
 simp only[go_sem]
 refine fL j0 ?_
 unfold az
 by_cases hlt:n<ts.length
 case neg=>
  have hlti:¬(n:Int)<(ts.length:Int):=a7
  rw[D7 a7]
  simp only[go_sem,ho,j6,hlti]
 have hlti:(n:Int)<(ts.length:Int):=a7
 obtain⟨t,ht⟩:=getq hlt
 have htg:=nO ht
 rw[ht]
 simp only[go_sem,ho,j6,hlti]
 refine ir ae mixed [B+3] [([0],[0],[],false),([14],[0],[],false),([15],[0],[],false),([16],[0],[],false),([0],[0],[],false),([18],[0],[],false),([19],[0],[],false),([20],[0],[],false),([17,21],[0],[],false),([22],[0],[],false),([],[],[0],false),([3,23],[],[],true)] 1 j0 rfl a8 ?_
 simp only[go_sem]
 iterate 10 (apply aO;· (intro fa ga oa K' hK;simp only[go_sem,ho,hn0,htg,n1,n2] at hK ⊢;exact hK))
 (apply dR;· (intro fa ga oa K' hK;simp only[go_sem] at hK ⊢;exact hK))
 apply cY
 intro K' hK'
 simp only[go_sem]
 refine hK' _ ?_
 clear hK' K'
 have hw:(t.kind=3∨t.kind=4)↔((t.kind:Int)=3∨(t.kind:Int)=4):=a7
 have hS:∀(x:Nat) (y z:Option (List C)),(∀i,i<B→upd g (B+3) x i=g i)∧∀i,i<B→upd (upd ob (B+3) y) (B+3) z i=ob i:=fun x y z=>⟨fun i hi=>by simp only[upd];rw[if_neg a7],fun i hi=>by simp only[upd];rw[if_neg a7,if_neg a7]⟩
 by_cases h3:(t.kind:Int)=3
 ·rw[if_pos (hw.2 (.inl h3))]
  simp only[go_sem,h3]
  exact hS _ _ _
 by_cases h4:(t.kind:Int)=4
 ·rw[if_pos (hw.2 (.inr h4))]
  simp only[go_sem,h3,h4]
  exact hS _ _ _
 ·rw[if_neg (fun h=>(hw.1 h).elim h3 h4)]
  simp only[go_sem,h3,h4]
  exact hS _ _ _
def QK (ts:List Src.Tok) (n fin:Nat) (s:Str) (g:Nat→Nat) (ob:Obs) (r:AV) (g':Nat→Nat) (ob':Obs):Prop:=
 g'=g∧((az ts n=s∧r=bv true∧ob'=upd ob 125 (some (rdC ts (n+1) fin)))∨(az ts n≠s∧r=bv false∧ob'=ob))
theorem NY {B n fin:Nat} (hB:200≤B) (hf:∀i,B≤i→ob i=none) (ho:ob 125=some (rdC ts n fin)) (hn:n≤1000000) (s:Str) :
  gf Tryz.prog 47 [.one (.ptr 125 (g 125) 0),sv s] g ob (QK ts n fin s g ob):=by
 refine bQ B ae mixed Tryz.func47 rfl b9 [4] rfl c9 (by simp[Tryz.ntmps47]) ?_
 have hw:=am (k:=n) a7
 have ho':=ho
 unfold rdC gL at ho
 simp only[go_sem]
 refine ei rfl (by simp only[go_sem];exact xO hB hf ho') ?_
 rintro _ g1 ob1 ⟨rfl,rfl,rfl⟩
 by_cases he:az ts n=s
 ·simp only[go_sem,he,ho,hw]
  refine⟨_,ah.refl _,rfl,.inl ⟨he,rfl,?_⟩⟩
  simp only[go_sem,rdC,gL]
 ·simp only[go_sem,he]
  exact⟨_,ah.refl _,rfl,.inr ⟨he,rfl,rfl⟩⟩
theorem uE (ho:ob 125=some (rdC ts n fin)) :
  dF Tryz.prog 46 [.one (.ptr 125 (g 125) 0)] g ob (fun _ _ _=>False) (fun ch g' ob'=>ch=rn (kf ts fin n)∧g'=g∧ob'=ob):=by
 refine dU 9000 ae mixed Tryz.func46 rfl b9 [] rfl c9 c9 (by simp[Tryz.ntmps46]) fun b₀ β0 s0 w0=>?_
 unfold rdC gL at ho
 have hn0:(0:Int)≤(n:Int):=a7
 simp only[go_sem]
 refine aI j0 ?_
 unfold kf
 by_cases hlt:n<ts.length
 ·have hlti:(n:Int)<(ts.length:Int):=a7
  obtain⟨t,ht⟩:=getq hlt
  have htg:=nO ht
  rw[ht]
  simp only[go_sem,ho,j6,hlti]
  refine aI j0 ?_
  simp only[go_sem,ho,hn0,htg]
  refine qW (k:=bx _) aa rfl (ae 103 rfl).desc (by simp only[go_sem];exact⟨rfl,rfl⟩) ?_
  simp only[go_sem]
  refine qX (k:=bx _) (t:=103) (u:=.agg #[.int .i64 (t.place:Nat)]) rfl (by simp only[go_sem]) ?_
  exact⟨rfl,rfl,rfl⟩
 ·have hlti:¬(n:Int)<(ts.length:Int):=a7
  rw[D7 a7]
  simp only[go_sem,ho,j6,hlti]
  refine qW (k:=bx _) aa rfl (ae 103 rfl).desc (by simp only[go_sem];exact⟨rfl,rfl⟩) ?_
  simp only[go_sem]
  refine qX (k:=bx _) (t:=103) (u:=.agg #[.int .i64 (fin:Nat)]) rfl (by simp only[go_sem]) ?_
  exact⟨rfl,rfl,rfl⟩
end
end
section
attribute [local congr] Go.Am.ite_cc
open Go Go.Am Go.Asm
open Go.Src (PR cV az takeN br Ex)
section
variable {ts:List Src.Tok}
theorem FA{kd n:Nat}{t:Src.Tok} (ht:ts[n]? = some t) (hk:t.kind=kd):takeN ts kd n=.ok t (n+1):=by unfold takeN;rw[ht];simp[hk]
theorem lN (ts:List Src.Tok) (n fin kd:Nat) (hn:n≤1000000) (hk:0<kd):eb 49 [iv .i64 kd] ts n fin (takeN ts kd n) mF:=by
 intro B g ob hB hf ho
 refine al B [125] ae mixed Tryz.func49 rfl b9 [.cell 4 108] rfl c9 c9 (by simp[Tryz.ntmps49]) (by simp;omega) hf fun b₀ β0 s0 w0=>?_
 have hw:=am (k:=n) a7
 have hn0:(0:Int)≤(n:Int):=a7
 have n1:=nlo hB
 have n2:=nhi hB
 have hO:∀y,upd ob (B+4) y 125=some (rdC ts n fin):=fun y=>by simp only[upd];rw[if_neg a7];exact ho
 have hG:∀x,upd g (B+4) x 125=g 125:=fun x=>by simp only[upd];rw[if_neg a7]
 simp only[go_sem,n1,n2]
 refine bL aa rfl (by simp only[go_sem,n1,n2];rw[←hG (nxC 109 (g (B+4)))];exact CA (hO _)) ?_
 rintro _ g1 ob1 ⟨rfl,rfl,rfl⟩
 by_cases hk1:cV ts n=kd
 case neg=>
  have hki:¬(cV ts n:Int)=(kd:Int):=a7
  have hp:takeN ts kd n=.no n:=by
   unfold takeN
   unfold cV at hk1
   cases hq:ts[n]? with
   |none=>rfl
   |some t=>rw[hq] at hk1;simp only at hk1;simp[hk1]
  simp only[go_sem,hki]
  refine bp (R:=fun _ _ _=>False) aa rfl (by simp only[go_sem,n1,n2];rw[←hG (nxC 109 (g (B+4)))];exact uE (hO _)) ?_ (fun _ _ _ h=>h.elim)
  rintro ch g' ob' ⟨rfl,rfl,rfl⟩
  exact((InF.refl.newG a7 a7).put a7).pan (hO _) hp rfl
 have hki:(cV ts n:Int)=(kd:Int):=a7
 obtain⟨t,ht⟩:∃t,ts[n]? = some t:=by
  unfold cV at hk1
  cases hq:ts[n]? with
  |some t=>exact⟨t,rfl⟩
  |none=>rw[hq] at hk1;simp only at hk1;omega
 have htg:=nO ht
 have hkt:t.kind=kd:=by unfold cV at hk1;rw[ht] at hk1;exact hk1
 have hp:=FA ht hkt
 unfold rdC gL at ho
 simp only[go_sem,hki]
 refine ml (B:=B) ae mixed aa [B+5] [([0],[0],[],false),([12],[0],[],false),([13],[0],[],false),([14],[0],[],false),([0],[0],[],false),([16],[0],[],false),([17],[0],[],false),([18],[0],[],false),([15,19],[0],[],false),([20],[0],[],false),([],[],[0],false),([5,21],[],[],true)] 1 rfl j0 rfl a8 ?_
 simp only[go_sem]
 iterate 10 (apply aO;· (intro fa ga oa K' hK;simp only[go_sem,ho,hn0,htg,n1,n2] at hK ⊢;exact hK))
 (apply dR;· (intro fa ga oa K' hK;simp only[go_sem] at hK ⊢;exact hK))
 apply cY
 intro K' hK'
 simp only[go_sem]
 refine hK' _ ?_
 clear hK' K'
 simp only[go_sem,ho,hw,n1,n2]
 refine⟨_,ah.refl _,?_⟩
 simp only[go_sem,n1,n2]
 refine InF.ret (rs:=[mF t]) (B:=B) (n:=n+1) (p:=takeN ts kd n) (enc:=mF) ?_ ?_ hp ?_ rfl
 ·exact(((((InF.refl.newG a7 a7).newG a7 a7).put a7).put a7).put a7).rdr.put a7
 ·simp only[go_sem,n1,n2,rdC,gL]
 ·exact⟨_,_,rfl,.agg (xs:=kN t) rfl (fun i c hc=>by
   match i,hc with
   |0,hc=>cases hc;exact⟨_,rfl,.d _⟩
   |1,hc=>cases hc;exact⟨_,rfl,.d _⟩
   |2,hc=>cases hc;exact⟨_,rfl,.d _⟩
   | 3,hc=>cases hc;exact⟨_,rfl,.d _⟩),rfl⟩
def bD (l:List Str):List C:=l.map fun s=>.d (.str s)
theorem Jy {B n fin j:Nat}{g:Nat→Nat}{ob:Obs} (l:List Str) (hB:200≤B) (hf:∀i,B≤i→ob i=none) (ho:ob 125=some (rdC ts n fin)) (hn:n+l.length≤1000000) (hj:j<B) (hj1:j≠125) (hjo:ob j=some (bD l)) :
  dF Tryz.prog 50 [.one (.ptr 125 (g 125) 0),.one (.osl j (g j) 1 0 l.length)] g ob (OkR ts fin (br ts l n) (fun _=>uv) g ob) (NoR ts fin (br ts l n) g ob):=by
 refine al B [125] ae mixed Tryz.func50 rfl b9 [] rfl c9 c9 (by simp[Tryz.ntmps50]) (by simp;omega) hf fun b₀ β0 s0 w0=>?_
 have n1:=nlo hB
 have n2:=nhi hB
 obtain⟨p,hp⟩:∃p,br ts l n=p:=⟨_,rfl⟩
 rw[hp]
 simp only[go_sem]
 refine⟨by rw[hjo];rfl,?_⟩
 refine ak (fun m st=>∃k:Nat,m+k=l.length∧st.f 0=.one (.ptr 125 (g 125) 0)∧st.f 6=.one (.osl j (g j) 1 0 l.length)∧st.f 7=iv .i64 l.length∧st.f 8=iv .i64 k∧st.gen=g∧st.obj=upd ob 125 (some (rdC ts (n+k) fin))∧br ts (l.drop k) (n+k)=p) l.length ?_ ?_
 ·refine⟨0,rfl,?_⟩
  simp only[go_sem]
  refine⟨?_,by simpa using hp⟩
  funext i
  simp only[upd,I3]
  split
  ·rename_i e;subst e;exact ho
  ·rfl
 rintro m f g1 ob1 ⟨k,hk,q0,q6,q7,q8,rfl,rfl,hpk⟩
 simp only at q0 q6 q7 q8
 have hw:=am (k:=k) a7
 have hwn:=am (k:=n+k) a7
 have hO:upd ob 125 (some (rdC ts (n+k) fin)) 125=some (rdC ts (n+k) fin):=by simp[upd]
 have hF:∀i,B≤i→upd ob 125 (some (rdC ts (n+k) fin)) i=none:=fun i hi=>by simp only[upd];rw[if_neg a7];exact hf i hi
 by_cases hlt:k<l.length
 case neg=>
  have hki:¬(k:Int)<(l.length:Int):=a7
  obtain rfl:k=l.length:=a7
  rw[E8 (l4 _)] at hpk
  simp only[go_sem,q7,q8,hki]
  refine⟨_,ah.refl _,?_⟩
  simp only[go_sem]
  exact InF.ret (rs:=[]) (a:=()) InF.refl.rdr hO hpk.symm rfl rfl
 have hki:(k:Int)<(l.length:Int):=a7
 have hk0:(0:Int)≤(k:Int):=a7
 obtain⟨s,hs⟩:=getq hlt
 have hjs:(bD l)[k]? = some (.d (.str s)):=by unfold bD;rw[x7,hs];rfl
 have hjk:upd ob 125 (some (rdC ts (n+k) fin)) j=some (bD l):=by simp only[upd];rw[if_neg hj1];exact hjo
 have hjS:(bD l).length=l.length:=j6 _
 have hkk:(k:Int).toNat=k:=a7
 have hd:l.drop k=s::l.drop (k+1):=by rw[A0 hlt];rw[u3 hlt] at hs;cases hs;rfl
 rw[hd] at hpk
 simp only[go_sem,q0,q6,q7,q8,hki,hjk,hk0,hjs,hkk]
 refine bL aa rfl (by simp only[go_sem,q0];exact xO hB hF hO) ?_
 rintro _ g2 ob2 ⟨rfl,rfl,rfl⟩
 by_cases he:az ts (n+k)=s
 case neg=>
  rw[br,if_neg he] at hpk
  simp only[go_sem,he,q0]
  refine bp (R:=fun _ _ _=>False) aa rfl (by simp only[go_sem,q0];exact uE hO) ?_ (fun _ _ _ h=>h.elim)
  rintro ch g' ob' ⟨rfl,rfl,rfl⟩
  exact InF.refl.rdr.pan hO hpk.symm rfl
 rw[br,if_pos he] at hpk
 simp only[go_sem,he,q0,rdC,gL,hwn,q8,hw]
 refine ai (m-1) a7 ⟨k+1,a7,?_⟩
 simp only[go_sem,q0,q6,q7]
 refine⟨?_,hpk⟩
 funext i
 simp only[upd]
 split <;> rfl
theorem fy (op:Int):ba Tryz.prog 193 [iv .i64 op] (· = .agg [.d (.int .i64 6),.d (.int .i64 op),.d (.int .u32 0),.d (.str []),.d (.sl [])]):=by
 refine bO ae mixed Tryz.func193 rfl b9 [.cell 2 215] rfl c9 (by simp[Tryz.ntmps193]) fun g=>?_
 simp only[go_sem]
 refine⟨_,ro [.int .i64 6,.int .i64 op,.int .u32 0,.str [],.nsl],rfl⟩
end
def zj (s:Str):AV:=.tup [.agg [.d (.int .i64 (Src.tO s).1),.d (.int .i64 (Src.tO s).2.1),.d (.int .u32 0),.d (.str []),.d (.sl [])],iv .i64 ((Src.tO s).2.2:Nat)]
theorem de {s:Str}{k op:Int}{n:Nat} (h:Src.tO s=(k,op,n)):zj s=.tup [.agg [.d (.int .i64 k),.d (.int .i64 op),.d (.int .u32 0),.d (.str []),.d (.sl [])],iv .i64 (n:Nat)]:=by unfold zj;rw[h]
theorem df {s:St}{k op n:Int}{x:D} (hx:fg x=.sl []):mZ s [.agg [.d (.int .i64 k),.d (.int .i64 op),.d (.int .u32 0),.d (.str []),.d x],iv .i64 n] (.tup [.agg [.d (.int .i64 k),.d (.int .i64 op),.d (.int .u32 0),.d (.str []),.d (.sl [])],iv .i64 n]):=by
 have h:=ro (s:=s) [.int .i64 k,.int .i64 op,.int .u32 0,.str [],x]
 simp only[l7,v7,hx] at h
 exact⟨_,⟨_,_,rfl,h,_,_,rfl,dy _,rfl⟩,rfl⟩
theorem JA (s:Str):ba Tryz.prog 184 [sv s] (· = zj s):=by
 refine bO ae mixed Tryz.func184 rfl b9 [.cell 2 215,.tmp 3] rfl c9 (by simp[Tryz.ntmps184]) fun g=>?_
 by_cases h0:s=[124,124]
 ·have hv:Src.tO s=(9,0,1):=by subst h0;rfl
  rw[de hv]
  simp only[go_sem,r0 h0]
  exact⟨_,df rfl,rfl⟩
 by_cases h1:s=[38,38]
 ·have hv:Src.tO s=(8,0,2):=by subst h1;rfl
  rw[de hv]
  simp only[go_sem,h0,r0 h1]
  exact⟨_,df rfl,rfl⟩
 by_cases h2:s=[61,61]
 ·have hv:Src.tO s=(6,15,3):=by subst h2;rfl
  rw[de hv]
  simp only[go_sem,h0,h1,r0 h2]
  refine dr (f:=193) rfl (by simp only[go_sem]) (by simp only[go_sem];exact fy _) (by simp only[go_sem];rfl) ?_
  rintro _ rfl
  simp only[go_sem]
  exact⟨_,df rfl,rfl⟩
 by_cases h3:s=[60]
 ·have hv:Src.tO s=(6,14,4):=by subst h3;rfl
  rw[de hv]
  simp only[go_sem,h0,h1,h2,r0 h3]
  refine dr (f:=193) rfl (by simp only[go_sem]) (by simp only[go_sem];exact fy _) (by simp only[go_sem];rfl) ?_
  rintro _ rfl
  simp only[go_sem]
  exact⟨_,df rfl,rfl⟩
 by_cases h4:s=[124]
 ·have hv:Src.tO s=(6,10,5):=by subst h4;rfl
  rw[de hv]
  simp only[go_sem,h0,h1,h2,h3,r0 h4]
  refine dr (f:=193) rfl (by simp only[go_sem]) (by simp only[go_sem];exact fy _) (by simp only[go_sem];rfl) ?_
  rintro _ rfl
  simp only[go_sem]
  exact⟨_,df rfl,rfl⟩
 by_cases h5:s=[94]
 ·have hv:Src.tO s=(6,11,5):=by subst h5;rfl
  rw[de hv]
  simp only[go_sem,h0,h1,h2,h3,h4,r0 h5]
  refine dr (f:=193) rfl (by simp only[go_sem]) (by simp only[go_sem];exact fy _) (by simp only[go_sem];rfl) ?_
  rintro _ rfl
  simp only[go_sem]
  exact⟨_,df rfl,rfl⟩
 by_cases h6:s=[38]
 ·have hv:Src.tO s=(6,9,6):=by subst h6;rfl
  rw[de hv]
  simp only[go_sem,h0,h1,h2,h3,h4,h5,r0 h6]
  refine dr (f:=193) rfl (by simp only[go_sem]) (by simp only[go_sem];exact fy _) (by simp only[go_sem];rfl) ?_
  rintro _ rfl
  simp only[go_sem]
  exact⟨_,df rfl,rfl⟩
 by_cases h7:s=[60,60]
 ·have hv:Src.tO s=(6,12,7):=by subst h7;rfl
  rw[de hv]
  simp only[go_sem,h0,h1,h2,h3,h4,h5,h6,r0 h7]
  refine dr (f:=193) rfl (by simp only[go_sem]) (by simp only[go_sem];exact fy _) (by simp only[go_sem];rfl) ?_
  rintro _ rfl
  simp only[go_sem]
  exact⟨_,df rfl,rfl⟩
 by_cases h8:s=[62,62]
 ·have hv:Src.tO s=(6,13,7):=by subst h8;rfl
  rw[de hv]
  simp only[go_sem,h0,h1,h2,h3,h4,h5,h6,h7,r0 h8]
  refine dr (f:=193) rfl (by simp only[go_sem]) (by simp only[go_sem];exact fy _) (by simp only[go_sem];rfl) ?_
  rintro _ rfl
  simp only[go_sem]
  exact⟨_,df rfl,rfl⟩
 by_cases h9:s=[43]
 ·have hv:Src.tO s=(6,4,8):=by subst h9;rfl
  rw[de hv]
  simp only[go_sem,h0,h1,h2,h3,h4,h5,h6,h7,h8,r0 h9]
  refine dr (f:=193) rfl (by simp only[go_sem]) (by simp only[go_sem];exact fy _) (by simp only[go_sem];rfl) ?_
  rintro _ rfl
  simp only[go_sem]
  exact⟨_,df rfl,rfl⟩
 by_cases h10:s=[45]
 ·have hv:Src.tO s=(6,5,8):=by subst h10;rfl
  rw[de hv]
  simp only[go_sem,h0,h1,h2,h3,h4,h5,h6,h7,h8,h9,r0 h10]
  refine dr (f:=193) rfl (by simp only[go_sem]) (by simp only[go_sem];exact fy _) (by simp only[go_sem];rfl) ?_
  rintro _ rfl
  simp only[go_sem]
  exact⟨_,df rfl,rfl⟩
 by_cases h11:s=[42]
 ·have hv:Src.tO s=(6,6,9):=by subst h11;rfl
  rw[de hv]
  simp only[go_sem,h0,h1,h2,h3,h4,h5,h6,h7,h8,h9,h10,r0 h11]
  refine dr (f:=193) rfl (by simp only[go_sem]) (by simp only[go_sem];exact fy _) (by simp only[go_sem];rfl) ?_
  rintro _ rfl
  simp only[go_sem]
  exact⟨_,df rfl,rfl⟩
 by_cases h12:s=[47]
 ·have hv:Src.tO s=(6,7,9):=by subst h12;rfl
  rw[de hv]
  simp only[go_sem,h0,h1,h2,h3,h4,h5,h6,h7,h8,h9,h10,h11,r0 h12]
  refine dr (f:=193) rfl (by simp only[go_sem]) (by simp only[go_sem];exact fy _) (by simp only[go_sem];rfl) ?_
  rintro _ rfl
  simp only[go_sem]
  exact⟨_,df rfl,rfl⟩
 by_cases h13:s=[37]
 ·have hv:Src.tO s=(6,8,9):=by subst h13;rfl
  rw[de hv]
  simp only[go_sem,h0,h1,h2,h3,h4,h5,h6,h7,h8,h9,h10,h11,h12,r0 h13]
  refine dr (f:=193) rfl (by simp only[go_sem]) (by simp only[go_sem];exact fy _) (by simp only[go_sem];rfl) ?_
  rintro _ rfl
  simp only[go_sem]
  exact⟨_,df rfl,rfl⟩
 have hv:Src.tO s=(0,0,0):=by unfold Src.tO;simp only[h0,h1,h2,h3,h4,h5,h6,h7,h8,h9,h10,h11,h12,h13,A3]
 rw[de hv]
 simp only[go_sem,h0,h1,h2,h3,h4,h5,h6,h7,h8,h9,h10,h11,h12,h13]
 exact⟨_,df rfl,rfl⟩
end
end Go.Proofs.YtlglgadejgdpcaaGreatDoor
namespace Go.Src
section
open Go.Asm (Str)
section
def PR.In {α:Type} (L n:Nat) (p:PR α):Prop:=∀a m,p=.ok a m→m≤max n L
theorem PR.bind_in {α β:Type}{L n:Nat}{p:PR α}{f:α→Nat→PR β} (h:p.In L n) (h':∀a m,(f a m).In L m):(p.bind f).In L n:=by
 intro b m hb
 cases p with
 |ok a k=>
   have h1:=h a k rfl
   have h2:=h' a k b m hb
   omega
 |no k=>cases hb
variable {k n:Nat}{α:Type}
theorem PR.in_ok{L n m:Nat}{a:α} (h:m≤max n L):(PR.ok a m).In L n:=fun b k e=>by cases e;exact h
theorem PR.in_no{L n m:Nat}:(PR.no m:PR α).In L n:=fun _ _ e=>by cases e
theorem PR.In.up{L n:Nat}{p:PR α} (h:p.In L (n+1)) (hn:n<L):p.In L n:=fun a m e=>by have:=h a m e;omega
theorem PR.in_here{L n:Nat}{a:α}:(PR.ok a n).In L n:=PR.in_ok a7
section
variable {ts:List Tok}
theorem bZ {n:Nat}{s:Str} (h:az ts n=s) (hs:s≠[]):n<ts.length:=by
 unfold az at h
 split at h
 ·rename_i t ht
  exact(l5.1 ht).1
 ·exact absurd h.symm hs
theorem iC:(takeN ts k n).In ts.length n:=by
 intro a m h
 unfold takeN at h
 split at h
 ·rename_i t ht
  have:=(l5.1 ht).1
  split at h
  ·cases h;omega
  ·cases h
 ·cases h
theorem bU:∀{l:List Str}{n:Nat},(∀s∈l,s≠[])→(br ts l n).In ts.length n
 |[],n,_=>PR.in_here
 |s::l,n,h=>by
   unfold br
   split
   ·rename_i hp
    exact(bU (fun x hx=>h x (by simp[hx]))).up (bZ hp (h s a8))
   ·exact PR.in_no
mutual
theorem fp:∀(k least n:Nat),(cj ts k least n).In ts.length n
 |0,_,_=>by unfold cj;exact PR.in_no
 |k+1,least,n=>by
   unfold cj
   exact PR.bind_in (wS k n) fun a m=>wR k least a m
theorem wR:∀(k least:Nat) (left:Ex) (n:Nat),(fU ts k least left n).In ts.length n
 |0,_,_,_=>by unfold fU;exact PR.in_no
 |k+1,least,left,n=>by
   unfold fU
   split
   ·exact PR.in_here
   ·rename_i h
    by_cases hn:n<ts.length
    ·exact(PR.bind_in (fp k _ (n+1)) fun b q=>wR k least _ q).up hn
    ·intro a m e
     have h1:=PR.bind_fwdE (dK (ts:=ts) k ((tO (az ts n)).2.2+1) (n+1)).le (fun b q=>pt k least _ q) a m e
     exfalso
     have hex:∀(k least n:Nat),ts.length≤n→∃q,cj ts k least n=.no q:=by
      intro k least n hl
      cases k with
      |zero=>exact⟨n,by unfold cj;rfl⟩
      |succ k=>
        have:∃q,eu ts k n=.no q:=by
         cases k with
         |zero=>exact⟨n,by unfold eu;rfl⟩
         |succ k=>
           have hg:ts[n]? = none:=D7 hl
           refine⟨n,?_⟩
           unfold eu
           have h1:cV ts n=0:=by unfold cV;rw[hg]
           have h2:az ts n=[]:=by unfold az;rw[hg]
           have h3:takeN ts 1 n=.no n:=by unfold takeN;rw[hg]
           rw[h1,h2,h3]
           simp[jH]
        obtain⟨q,hq⟩:=this
        exact⟨q,by unfold cj;rw[hq];rfl⟩
     obtain⟨q,hq⟩:=hex k ((tO (az ts n)).2.2+1) (n+1) a7
     rw[hq] at e
     cases e
theorem wS:∀(k n:Nat),(eu ts k n).In ts.length n
 |0,_=>by unfold eu;exact PR.in_no
 |k+1,n=>by
   unfold eu
   split
   ·exact PR.bind_in iC fun a m=>PR.in_here
   split
   ·rename_i h
    exact(PR.bind_in (bU (by simp[jH,ig])) fun a m=>PR.in_here).up (bZ h a8)
   split
   ·rename_i h
    exact(PR.bind_in (fp k 1 (n+1)) fun a m=>PR.bind_in (bU (by simp[ig])) fun b q=>PR.in_here).up (bZ h (by simp[jH]))
   split
   ·rename_i h
    exact(PR.bind_in (wS k (n+1)) fun a m=>PR.in_here).up (bZ h a8)
   refine PR.bind_in iC fun a m=>?_
   split
   ·rename_i h
    exact(PR.bind_in (fp k 1 (m+1)) fun a m=>PR.bind_in (bU a8) fun b q=>PR.in_here).up (bZ h a8)
   split
   ·rename_i h
    exact(PR.bind_in (wT k (m+1)) fun a m=>PR.in_here).up (bZ h (by simp[jH]))
   ·exact PR.in_here
theorem wT:∀(k n:Nat),(eU ts k n).In ts.length n
 |0,_=>by unfold eU;exact PR.in_no
 |k+1,n=>by
   unfold eU
   split
   ·rename_i h
    exact PR.in_here.up (bZ h (by simp[ig]))
   ·exact PR.bind_in (fp k 1 n) fun a m=>wU k [a] m
theorem wU:∀(k:Nat) (l:List Ex) (n:Nat),(fV ts k l n).In ts.length n
 |0,_,_=>by unfold fV;exact PR.in_no
 |k+1,l,n=>by
   unfold fV
   split
   ·rename_i h
    exact(PR.bind_in (fp k 1 (n+1)) fun a m=>wU k (l++[a]) m).up (bZ h (by simp[uZ]))
   ·exact PR.bind_in (bU (by simp[ig])) fun b q=>PR.in_here
end
theorem pv:(iE ts k n).In ts.length n:=PR.bind_in (bU (by simp[jH])) fun _ m=>PR.bind_in (fp k 1 m) fun _ m=>PR.bind_in (bU (by simp[ig])) fun _ _=>PR.in_here
theorem AQ:(ij ts k n).In ts.length n:=by
 unfold ij
 refine PR.bind_in iC fun t m=>PR.bind_in ?_ fun s q=>PR.bind_in (bU (by simp[jI])) fun _ _=>PR.in_here
 split
 ·rename_i h
  exact(PR.bind_in (fp k 1 (m+1)) fun _ _=>PR.in_here).up (bZ h a8)
 split
 ·rename_i h
  exact(PR.bind_in (fp k 1 (m+1)) fun _ _=>PR.bind_in (bU a8) fun _ q=>PR.bind_in (fp k 1 q) fun _ _=>PR.in_here).up (bZ h a8)
 split
 ·rename_i h
  exact(PR.bind_in (wT k (m+1)) fun _ _=>PR.in_here).up (bZ h (by simp[jH]))
 ·exact PR.in_no
mutual
theorem DR:∀(k n:Nat),(iS ts k n).In ts.length n
 |0,_=>by unfold iS;exact PR.in_no
 |k+1,n=>by
   unfold iS
   split
   ·rename_i h
    exact(PR.bind_in pv fun _ _=>PR.bind_in (bU (by simp[jI])) fun _ _=>PR.in_here).up (bZ h a8)
   split
   ·rename_i h
    split
    ·rename_i h2
     have:=bZ h2 (by simp[jI])
     exact PR.in_ok a7
    ·exact(PR.bind_in (fp k 1 (n+1)) fun _ _=>PR.bind_in (bU (by simp[jI])) fun _ _=>PR.in_here).up (bZ h a8)
   split
   ·rename_i h
    refine(PR.bind_in pv fun _ m=>PR.bind_in (rP k m) fun _ q=>?_).up (bZ h a8)
    split
    ·rename_i h2
     exact(PR.bind_in (rP k (q+1)) fun _ _=>PR.in_here).up (bZ h2 a8)
    ·exact PR.in_here
   split
   ·rename_i h
    exact(PR.bind_in pv fun _ m=>PR.bind_in (rP k m) fun _ _=>PR.in_here).up (bZ h a8)
   ·exact AQ
theorem rP:∀(k n:Nat),(gN ts k n).In ts.length n
 |0,_=>by unfold gN;exact PR.in_no
 |k+1,n=>by
   unfold gN
   exact PR.bind_in (bU a8) fun _ m=>pw k [] m
theorem pw:∀(k:Nat) (l:List Stm) (n:Nat),(ct ts k l n).In ts.length n
 |0,_,_=>by unfold ct;exact PR.in_no
 |k+1,l,n=>by
   unfold ct
   split
   ·rename_i h
    exact PR.in_here.up (bZ h a8)
   ·exact PR.bind_in (DR k n) fun a m=>pw k _ m
end
theorem qd:∀{k:Nat}{l:List Str}{n:Nat},(dv ts k l n).In ts.length n
 |0,_,_=>by unfold dv;exact PR.in_no
 |k+1,l,n=>by
   unfold dv
   split
   ·rename_i h
    exact(PR.bind_in iC fun _ _=>qd).up (bZ h (by simp[uZ]))
   ·exact PR.in_here
theorem px:(dD ts k n).In ts.length n:=PR.bind_in iC fun _ _=>qd
theorem oh:∀{k:Nat}{l:List Str}{n:Nat}{l':List Str}{m:Nat},dv ts k l n=.ok l' m→l'.length+n≤l.length+m
 |0,_,_,_,_,h=>by unfold dv at h;cases h
 |k+1,l,n,l',m,h=>by
   unfold dv at h
   split at h
   ·cases ht:takeN ts 1 (n+1) with
    |no q=>rw[ht] at h;cases h
    |ok t q=>
      rw[ht,PR.bind_ok] at h
      have h1:=eT (ts:=ts) t q ht
      have h2:=oh h
      rw[j5,J4] at h2
      omega
   ·cases h;omega
theorem yu{l:List Str}{m:Nat} (h:dD ts k n=.ok l m):l.length+n≤m:=by
 unfold dD at h
 cases ht:takeN ts 1 n with
 |no q=>rw[ht] at h;cases h
 |ok t q=>
   rw[ht,PR.bind_ok] at h
   have h1:=eT (ts:=ts) t q ht
   have h2:=oh h
   rw[J4] at h2
   omega
theorem rQ:∀{k:Nat}{l:List Str}{n:Nat},(cP ts k l n).In ts.length n
 |0,_,_=>by unfold cP;exact PR.in_no
 |k+1,l,n=>by
   unfold cP
   split
   ·rename_i h
    exact(PR.bind_in px fun _ _=>PR.bind_in (bU (by simp[jI])) fun _ _=>rQ).up (bZ h a8)
   ·exact PR.in_here
theorem zC:(lm ts k n).In ts.length n:=by
 unfold lm
 refine PR.bind_in (bU a8) fun _ m=>PR.bind_in iC fun t m=>PR.bind_in (bU (by simp[jH])) fun _ m=>PR.bind_in ?_ fun ps m=>PR.bind_in (bU (by simp[ig])) fun _ m=>?_
 ·split
  ·exact px
  ·exact PR.in_here
 ·have hb:∀v,((br ts [[123]] v).bind fun _ m'=>(cP ts k [] m').bind fun ls m'=>(ct ts k [] m').bind fun b m'=>(PR.ok (Fn.mk t.text ps ls (decide (az ts m=[119,111,114,100])) b) m')).In ts.length v:=fun v=>
   PR.bind_in (bU a8) fun _ m'=>PR.bind_in rQ fun ls m'=>PR.bind_in (pw k [] m') fun b m'=>PR.in_here
  split
  ·rename_i h
   exact(hb (m+1)).up (bZ h a8)
  ·exact hb m
theorem rR:∀{k:Nat}{l:List Str}{ars:List (Str×Int)}{n:Nat},(kY ts k l ars n).In ts.length n
 |0,_,_,_=>by unfold kY;exact PR.in_no
 |k+1,l,ars,n=>by
   unfold kY
   split
   ·rename_i h
    exact(PR.bind_in px fun _ _=>PR.bind_in (bU (by simp[jI])) fun _ _=>rR).up (bZ h a8)
   split
   ·rename_i h
    exact(PR.bind_in iC fun _ _=>PR.bind_in (bU a8) fun _ _=>PR.bind_in iC fun _ _=>PR.bind_in (bU a8) fun _ _=>PR.bind_in (bU (by simp[jI])) fun _ _=>rR).up (bZ h a8)
   ·exact PR.in_here
end
end
end
end Go.Src

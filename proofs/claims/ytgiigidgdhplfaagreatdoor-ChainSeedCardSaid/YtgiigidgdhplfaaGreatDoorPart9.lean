/- A part of the proof; no conditions. -/
import Derived.Test.YtgiigidgdhplfaaGreatDoorPart8
set_option linter.unusedSimpArgs false
set_option linter.unusedVariables false
set_option maxHeartbeats 64000000
set_option maxRecDepth 100000
namespace Go.Am
section
attribute [local congr] Go.Am.ite_cc
theorem nu {P:Prop} (h:P:=by (try simp only[upd]);(repeat rw[if_neg (by omega)])):P:=h
theorem nt {P Q:Prop} (q:Q) (h:P=Q:=by (try simp only[upd]);(repeat rw[if_neg (by omega)])):P:=h▸q
theorem fi {ob1 ob2:Obs}{B B2:Nat} (hf:∀i,B≤i→ob1 i=none) (h:∀i,B2≤i→B≤i∧ob2 i=ob1 i:=by (intro i hi;refine⟨by omega,?_⟩;(try simp only[upd]);(repeat rw[if_neg (by omega)]))):∀i,B2≤i→ob2 i=none:=fun i hi=>(h i hi).2.trans (hf i (h i hi).1)
end
end Go.Am
namespace Go.Proofs.YtgiigidgdhplfaaGreatDoor
section
attribute [local congr] Go.Am.ite_cc
open Go Go.Am Go.Asm
open Go.Src (PR bO ap takeN bt)
section
def rdC (ts:List Src.Tok) (n fin:Nat):List C:=[.d (dF ts),.d (.int .i64 (n:Nat)),.d (.int .i64 (fin:Nat))]
def kw (ts:List Src.Tok) (fin n:Nat):Nat:=match ts[n]? with|some t=>t.place|none=>fin
def rR (k:Nat):List PanicEntry:=[{ v:=.iface 117 (.agg #[.int .i64 (k:Nat)]),recovered:=false }]
variable {ts:List Src.Tok}{g:Nat→Nat}{ob:Obs}{B:Nat}{s:St}{n fin:Nat}{y:Option (List C)}
theorem ow{n:Nat}{t:Src.Tok} (h:ts[n]? = some t):(ts.map jJ)[n]? = some [.int .i64 (t.kind:Nat),.str t.text,.int .u32 (t.num:Nat),.int .i64 (t.place:Nat)]:=by rw[w8,h];rfl
def OkR {α:Type} (ts:List Src.Tok) (fin:Nat) (p:PR α) (enc:α→AV) (g:Nat→Nat) (ob:Obs) (r:AV) (g':Nat→Nat) (ob':Obs):Prop:=
 g'=g∧∃a m,p=.ok a m∧r=enc a∧ob'=upd ob 125 (some (rdC ts m fin))
def NoR {α:Type} (ts:List Src.Tok) (fin:Nat) (p:PR α) (g:Nat→Nat) (ob:Obs):Pan:=fun ch g' ob'=>
 g'=g∧∃m,p=.no m∧ch=rR (kw ts fin m)∧ob'=upd ob 125 (some (rdC ts m fin))
def ew {α:Type} (f:FuncId) (xs:List AV) (ts:List Src.Tok) (n fin:Nat) (p:PR α) (enc:α→AV):Prop:=
 ∀(B:Nat) (g:Nat→Nat) (ob:Obs),200≤B→(∀i,B≤i→ob i=none)→ob 125=some (rdC ts n fin)→
  cB Tryz.prog f (.one (.ptr 125 (g 125) 0)::xs) g ob (OkR ts fin p enc g ob) (NoR ts fin p g ob)
structure InF (B:Nat) (g:Nat→Nat) (ob:Obs) (g':Nat→Nat) (ob':Obs):Prop where
 same:∀i,i<B→i≠125→g' i=g i∧ob' i=ob i
 rd:g' 125=g 125
theorem InF.refl:InF B g ob g ob:=⟨fun _ _ _=>⟨rfl,rfl⟩,rfl⟩
theorem InF.go{g g1 g2:Nat→Nat}{ob ob1 ob2:Obs} (h:InF B g ob g1 ob1) (q:(∀i,i<B→i≠125→g2 i=g1 i∧ob2 i=ob1 i)∧g2 125=g1 125:=by (refine⟨fun i hi h5=>⟨?_,?_⟩,?_⟩ <;> ((try simp only[upd]);(repeat rw[if_neg (by omega)]);first|done|rfl))):InF B g ob g2 ob2:=
 ⟨fun i hi h5=>⟨(q.1 i hi h5).1.trans (h.same i hi h5).1,(q.1 i hi h5).2.trans (h.same i hi h5).2⟩,q.2.trans h.rd⟩
theorem InF.put {B j:Nat}{g g1:Nat→Nat}{ob ob1:Obs} (h:InF B g ob g1 ob1) (hj:B≤j):InF B g ob g1 (upd ob1 j y):=⟨fun i hi h5=>⟨(h.same i hi h5).1,by simp only[upd];rw[if_neg a6];exact(h.same i hi h5).2⟩,h.rd⟩
theorem InF.newG {B j x:Nat}{g g1:Nat→Nat}{ob ob1:Obs} (h:InF B g ob g1 ob1) (hj:B≤j) (hB:125<B):InF B g ob (upd g1 j x) ob1:=⟨fun i hi h5=>⟨by simp only[upd];rw[if_neg a6];exact(h.same i hi h5).1,(h.same i hi h5).2⟩,by simp only[upd];rw[if_neg a6];exact h.rd⟩
theorem InF.rdr{g g1:Nat→Nat}{ob ob1:Obs} (h:InF B g ob g1 ob1):InF B g ob g1 (upd ob1 125 y):=⟨fun i hi h5=>⟨(h.same i hi h5).1,by simp only[upd];rw[if_neg h5];exact(h.same i hi h5).2⟩,h.rd⟩
theorem InF.ends {B n fin:Nat}{g g1:Nat→Nat}{ob ob1:Obs} (h:InF B g ob g1 ob1) (ho:ob1 125=some (rdC ts n fin)):Db B [125] g ob g1 ob1∧iO [125] g g1=g∧eL [125] ob ob1=upd ob 125 (some (rdC ts n fin)):=by
 refine⟨⟨fun i hi h5=>h.same i hi (by simpa using h5),fun i hi cells hc c hcc=>?_⟩,Dd h.rd,by rw[De,ho]⟩
 obtain rfl:=C7.1 hi
 rw[ho] at hc
 cases hc
 simp only[rdC,x9,A1,E7] at hcc
 rcases hcc with rfl|rfl|rfl <;> trivial
theorem InF.ret {α:Type}{B n fin:Nat}{p:PR α}{enc:α→AV}{avs rs:List AV}{a:α} (h:InF B g ob s.gen s.obj) (ho:s.obj 125=some (rdC ts n fin)) (hp:p=.ok a n) (hf:eE B s avs rs) (hr:pack rs=enc a):aT B [125] g ob (OkR ts fin p enc g ob) s avs:=by
 obtain⟨h1,h2,h3⟩:=h.ends ho
 exact⟨h1,rs,hf,h2,a,n,hp,hr,h3⟩
theorem InF.pan {α:Type}{B n fin:Nat}{g g1:Nat→Nat}{ob ob1:Obs}{p:PR α}{ch:List PanicEntry} (h:InF B g ob g1 ob1) (ho:ob1 125=some (rdC ts n fin)) (hp:p=.no n) (hc:ch=rR (kw ts fin n)) :
  Db B [125] g ob g1 ob1∧NoR ts fin p g ob ch (iO [125] g g1) (eL [125] ob ob1):=by
 obtain⟨h1,h2,h3⟩:=h.ends ho
 exact⟨h1,h2,n,hp,hc,h3⟩
section
variable {b₀:Bs}{rd:Option Nat}{Φ:St→Am.Loc→List Deferred→World→Prop}
theorem ax {α α':Type} (hΦ:aQ b₀ Φ) {o:Oper}{K:St→Prop}{k:Box K}{f:FuncId}{args:Array Operand}{tys:Array TypeId} (ho:o.op=.call ⟨.value (.func f),args,tys⟩) {xs:List AV}{p:PR α}{enc:α→AV}
  (hr:ew f xs ts n fin p enc) (hx:args.toList.map s.ev=.one (.ptr 125 (s.gen 125) 0)::xs) (Bc:Nat) (hB:200≤Bc) (hfree:∀i,Bc≤i→s.obj i=none) (hob:s.obj 125=some (rdC ts n fin)) {B B0:Nat}{p':PR α'} (hin:InF B g ob s.gen s.obj)
  (hno:∀m,p=.no m→p'=.no m) (hk:∀a m,p=.ok a m→K (St.put ⟨s.f,s.gen,upd s.obj 125 (some (rdC ts m fin))⟩ o.dst (enc a))):aR (spF Tryz.prog rd b₀ Φ B0 (Dc B [125] g ob (NoR ts fin p' g ob))) o s k:=by
 refine bq (R:=OkR ts fin p enc s.gen s.obj) (Ψ0:=NoR ts fin p s.gen s.obj) hΦ ho (by rw[hx];exact hr Bc s.gen s.obj hB hfree hob) ?_ ?_
 ·exact XD
 ·rintro r g' ob' ⟨rfl,a,m,hp,rfl,rfl⟩
  exact hk a m hp
end
theorem rT (xs:List D):jc s (.agg (xs.map .d)) (.agg ((xs.map eQ).map .d)):=by
 refine⟨xs.map eQ,a7,fun i c hc=>?_,rfl⟩
 rw[w8] at hc ⊢
 cases hq:xs[i]? with
 |none=>rw[hq] at hc;cases hc
 |some x=>rw[hq] at hc;cases hc;exact⟨_,rfl,.d x⟩
theorem nlo (hB:200≤B) (k:Nat):(125=B+k)=False:=by simp;omega
theorem nhi (hB:200≤B) (k:Nat):(B+k=125)=False:=by simp;omega
theorem Es (ho:ob 125=some (rdC ts n fin)) :
  fg Tryz.prog 89 [.one (.ptr 125 (g 125) 0)] g ob (fun r g' ob'=>r=iv .i64 (bO ts n:Nat)∧g'=g∧ob'=ob):=by
 refine hdF 9000 Tryz.func89 rfl [2] ?_
 unfold rdC dF at ho
 have hn0:(0:Int)≤(n:Int):=a6
 simp only[go_sem]
 refine bc b9 ?_
 unfold bO
 by_cases hlt:n<ts.length
 ·have hlti:(n:Int)<(ts.length:Int):=a6
  obtain⟨t,ht⟩:=getq hlt
  have htg:=ow ht
  rw[ht]
  simp only[go_sem,ho,j5,hlti]
  refine bc b9 ?_
  simp only[go_sem,ho,hn0,htg]
  exact⟨_,ab.refl _,rfl,rfl,rfl⟩
 ·have hlti:¬(n:Int)<(ts.length:Int):=a6
  rw[B9 a6]
  simp only[go_sem,ho,j5,hlti]
  exact⟨_,ab.refl _,rfl,rfl,rfl⟩
theorem yK {B n fin:Nat} (hB:200≤B) (hf:∀i,B≤i→ob i=none) (ho:ob 125=some (rdC ts n fin)) :
  fg Tryz.prog 88 [.one (.ptr 125 (g 125) 0)] g ob (fun r g' ob'=>r=sv (ap ts n)∧g'=g∧ob'=ob):=by
 refine yg B aB mixed Tryz.func88 rfl c9 [2] rfl c8 (by simp[Tryz.ntmps88]) hf ?_
 have n1:=nlo hB
 have n2:=nhi hB
 unfold rdC dF at ho
 have hn0:(0:Int)≤(n:Int):=a6
 simp only[go_sem]
 refine bc b9 ?_
 unfold ap
 by_cases hlt:n<ts.length
 case neg=>
  have hlti:¬(n:Int)<(ts.length:Int):=a6
  rw[B9 a6]
  simp only[go_sem,ho,j5,hlti]
 have hlti:(n:Int)<(ts.length:Int):=a6
 obtain⟨t,ht⟩:=getq hlt
 have htg:=ow ht
 rw[ht]
 simp only[go_sem,ho,j5,hlti]
 refine dK aB mixed [B+3] [([0],[0],[],false),([14],[0],[],false),([15],[0],[],false),([16],[0],[],false),([0],[0],[],false),([18],[0],[],false),([19],[0],[],false),([20],[0],[],false),([17,21],[0],[],false),([22],[0],[],false),([],[],[0],false),([3,23],[],[],true)] 1 b9 rfl a7 ?_
 simp only[go_sem]
 iterate 10 (apply aw;· (intro fa ga oa K' hK;simp only[go_sem,ho,hn0,htg,n1,n2] at hK ⊢;exact hK))
 (apply bJ;· (intro fa ga oa K' hK;simp only[go_sem] at hK ⊢;exact hK))
 apply bG
 intro K' hK'
 simp only[go_sem]
 refine hK' _ ?_
 clear hK' K'
 have hw:(t.kind=3∨t.kind=4)↔((t.kind:Int)=3∨(t.kind:Int)=4):=a6
 have hS:∀(x:Nat) (y z:Option (List C)),(∀i,i<B→upd g (B+3) x i=g i)∧∀i,i<B→upd (upd ob (B+3) y) (B+3) z i=ob i:=fun x y z=>⟨fun i hi=>by simp only[upd];rw[if_neg a6],fun i hi=>by simp only[upd];rw[if_neg a6,if_neg a6]⟩
 by_cases h3:(t.kind:Int)=3
 ·rw[if_pos (hw.2 (.inl h3))]
  simp only[go_sem,h3]
  exact hS _ _ _
 by_cases h4:(t.kind:Int)=4
 ·rw[if_pos (hw.2 (.inr h4))]
  simp only[go_sem,h3,h4]
  exact hS _ _ _
 ·rw[if_neg (fun h=>(hw.1 h).elim h3 h4)]
  simp only[go_sem,h3,h4]
  exact hS _ _ _
def Ud (ts:List Src.Tok) (n fin:Nat) (s:Str) (g:Nat→Nat) (ob:Obs) (r:AV) (g':Nat→Nat) (ob':Obs):Prop:=
 g'=g∧((ap ts n=s∧r=bv true∧ob'=upd ob 125 (some (rdC ts (n+1) fin)))∨(ap ts n≠s∧r=bv false∧ob'=ob))
theorem Rk {B n fin:Nat} (hB:200≤B) (hf:∀i,B≤i→ob i=none) (ho:ob 125=some (rdC ts n fin)) (hn:n≤1000000) (s:Str) :
  fg Tryz.prog 58 [.one (.ptr 125 (g 125) 0),sv s] g ob (Ud ts n fin s g ob):=by
 refine hdF B Tryz.func58 rfl [4] ?_
 have hw:=ah (k:=n) a6
 have ho':=ho
 unfold rdC dF at ho
 simp only[go_sem]
 refine bp rfl (by simp only[go_sem];exact yK hB hf ho') ?_
 rintro _ g1 ob1 ⟨rfl,rfl,rfl⟩
 by_cases he:ap ts n=s
 ·simp only[go_sem,he,ho,hw]
  refine⟨_,ab.refl _,rfl,.inl ⟨he,rfl,?_⟩⟩
  simp only[go_sem,rdC,dF]
 ·simp only[go_sem,he]
  exact⟨_,ab.refl _,rfl,.inr ⟨he,rfl,rfl⟩⟩
theorem vt (ho:ob 125=some (rdC ts n fin)) :
  cB Tryz.prog 57 [.one (.ptr 125 (g 125) 0)] g ob (fun _ _ _=>False) (fun ch g' ob'=>ch=rR (kw ts fin n)∧g'=g∧ob'=ob):=by
 refine hdX 9000 Tryz.func57 rfl [] fun b₀ β0 s0 w0=>?_
 unfold rdC dF at ho
 have hn0:(0:Int)≤(n:Int):=a6
 simp only[go_sem]
 refine aJ b9 ?_
 unfold kw
 by_cases hlt:n<ts.length
 ·have hlti:(n:Int)<(ts.length:Int):=a6
  obtain⟨t,ht⟩:=getq hlt
  have htg:=ow ht
  rw[ht]
  simp only[go_sem,ho,j5,hlti]
  refine aJ b9 ?_
  simp only[go_sem,ho,hn0,htg]
  refine kX (k:=bx _) aa rfl (aB 117 rfl).desc Yz ?_
  simp only[go_sem]
  refine kY (k:=bx _) (t:=117) (u:=.agg #[.int .i64 (t.place:Nat)]) rfl XP ?_
  exact⟨rfl,rfl,rfl⟩
 ·have hlti:¬(n:Int)<(ts.length:Int):=a6
  rw[B9 a6]
  simp only[go_sem,ho,j5,hlti]
  refine kX (k:=bx _) aa rfl (aB 117 rfl).desc Yz ?_
  simp only[go_sem]
  refine kY (k:=bx _) (t:=117) (u:=.agg #[.int .i64 (fin:Nat)]) rfl XP ?_
  exact⟨rfl,rfl,rfl⟩
end
end
section
attribute [local congr] Go.Am.ite_cc
open Go Go.Am Go.Asm
open Go.Src (PR bO ap takeN bt Ex)
section
variable {ts:List Src.Tok}
theorem HN{kd n:Nat}{t:Src.Tok} (ht:ts[n]? = some t) (hk:t.kind=kd):takeN ts kd n=.ok t (n+1):=by unfold takeN;rw[ht];simp[hk]
theorem mm (ts:List Src.Tok) (n fin kd:Nat) (hn:n≤1000000) (hk:0<kd):ew 60 [iv .i64 kd] ts n fin (takeN ts kd n) lp:=by
 intro B g ob hB hf ho
 refine hdM B [125] Tryz.func60 rfl [.cell 4 122] XQ hf fun b₀ β0 s0 w0=>?_
 have hw:=ah (k:=n) a6
 have hn0:(0:Int)≤(n:Int):=a6
 have n1:=nlo hB
 have n2:=nhi hB
 have hO:∀y,upd ob (B+4) y 125=some (rdC ts n fin):=fun y=>by simp only[upd];rw[if_neg a6];exact ho
 have hG:∀x,upd g (B+4) x 125=g 125:=fun x=>by simp only[upd];rw[if_neg a6]
 simp only[go_sem,n1,n2]
 refine ba aa rfl (by simp only[go_sem,n1,n2];rw[←hG (nxC 123 (g (B+4)))];exact Es (hO _)) ?_
 rintro _ g1 ob1 ⟨rfl,rfl,rfl⟩
 by_cases hk1:bO ts n=kd
 case neg=>
  have hki:¬(bO ts n:Int)=(kd:Int):=a6
  have hp:takeN ts kd n=.no n:=by
   unfold takeN
   unfold bO at hk1
   cases hq:ts[n]? with
   |none=>rfl
   |some t=>rw[hq] at hk1;simp only at hk1;simp[hk1]
  simp only[go_sem,hki]
  refine bq (R:=fun _ _ _=>False) aa rfl (by simp only[go_sem,n1,n2];rw[←hG (nxC 123 (g (B+4)))];exact vt (hO _)) ?_ (fun _ _ _ h=>h.elim)
  rintro ch g' ob' ⟨rfl,rfl,rfl⟩
  exact((InF.refl.newG a6 a6).put a6).pan (hO _) hp rfl
 have hki:(bO ts n:Int)=(kd:Int):=a6
 obtain⟨t,ht⟩:∃t,ts[n]? = some t:=by
  unfold bO at hk1
  cases hq:ts[n]? with
  |some t=>exact⟨t,rfl⟩
  |none=>rw[hq] at hk1;simp only at hk1;omega
 have htg:=ow ht
 have hkt:t.kind=kd:=by unfold bO at hk1;rw[ht] at hk1;exact hk1
 have hp:=HN ht hkt
 unfold rdC dF at ho
 simp only[go_sem,hki]
 refine kl (B:=B) aB mixed aa [B+5] [([0],[0],[],false),([12],[0],[],false),([13],[0],[],false),([14],[0],[],false),([0],[0],[],false),([16],[0],[],false),([17],[0],[],false),([18],[0],[],false),([15,19],[0],[],false),([20],[0],[],false),([],[],[0],false),([5,21],[],[],true)] 1 rfl b9 rfl a7 ?_
 simp only[go_sem]
 iterate 10 (apply aw;· (intro fa ga oa K' hK;simp only[go_sem,ho,hn0,htg,n1,n2] at hK ⊢;exact hK))
 (apply bJ;· (intro fa ga oa K' hK;simp only[go_sem] at hK ⊢;exact hK))
 apply bG
 intro K' hK'
 simp only[go_sem]
 refine hK' _ ?_
 clear hK' K'
 simp only[go_sem,ho,hw,n1,n2]
 refine⟨_,ab.refl _,?_⟩
 simp only[go_sem,n1,n2]
 refine InF.ret (rs:=[lp t]) (B:=B) (n:=n+1) (p:=takeN ts kd n) (enc:=lp) ?_ ?_ hp ?_ rfl
 ·exact(((((InF.refl.newG a6 a6).newG a6 a6).put a6).put a6).put a6).rdr.put a6
 ·simp only[go_sem,n1,n2,rdC,dF]
 ·exact⟨_,_,rfl,.agg (xs:=jJ t) rfl (fun i c hc=>by
   match i,hc with
   |0,hc=>cases hc;exact⟨_,rfl,.d _⟩
   |1,hc=>cases hc;exact⟨_,rfl,.d _⟩
   |2,hc=>cases hc;exact⟨_,rfl,.d _⟩
   | 3,hc=>cases hc;exact⟨_,rfl,.d _⟩),rfl⟩
def bH (l:List Str):List C:=l.map fun s=>.d (.str s)
theorem LX {B n fin j:Nat}{g:Nat→Nat}{ob:Obs} (l:List Str) (hB:200≤B) (hf:∀i,B≤i→ob i=none) (ho:ob 125=some (rdC ts n fin)) (hn:n+l.length≤1000000) (hj:j<B) (hj1:j≠125) (hjo:ob j=some (bH l)) :
  cB Tryz.prog 61 [.one (.ptr 125 (g 125) 0),.one (.osl j (g j) 1 0 l.length)] g ob (OkR ts fin (bt ts l n) (fun _=>uv) g ob) (NoR ts fin (bt ts l n) g ob):=by
 refine hdM B [125] Tryz.func61 rfl [] XQ hf fun b₀ β0 s0 w0=>?_
 have n1:=nlo hB
 have n2:=nhi hB
 obtain⟨p,hp⟩:∃p,bt ts l n=p:=⟨_,rfl⟩
 rw[hp]
 simp only[go_sem]
 refine⟨by rw[hjo];rfl,?_⟩
 refine ai (fun m st=>∃k:Nat,m+k=l.length∧st.f 0=.one (.ptr 125 (g 125) 0)∧st.f 6=.one (.osl j (g j) 1 0 l.length)∧st.f 7=iv .i64 l.length∧st.f 8=iv .i64 k∧st.gen=g∧st.obj=upd ob 125 (some (rdC ts (n+k) fin))∧bt ts (l.drop k) (n+k)=p) l.length ?_ ?_
 ·refine⟨0,rfl,?_⟩
  simp only[go_sem]
  refine⟨?_,by simpa using hp⟩
  funext i
  simp only[upd,I6]
  split
  ·rename_i e;subst e;exact ho
  ·rfl
 rintro m f g1 ob1 ⟨k,hk,q0,q6,q7,q8,rfl,rfl,hpk⟩
 simp only at q0 q6 q7 q8
 have hw:=ah (k:=k) a6
 have hwn:=ah (k:=n+k) a6
 have hO:upd ob 125 (some (rdC ts (n+k) fin)) 125=some (rdC ts (n+k) fin):=by simp[upd]
 have hF:∀i,B≤i→upd ob 125 (some (rdC ts (n+k) fin)) i=none:=fun i hi=>by simp only[upd];rw[if_neg a6];exact hf i hi
 by_cases hlt:k<l.length
 case neg=>
  have hki:¬(k:Int)<(l.length:Int):=a6
  obtain rfl:k=l.length:=a6
  rw[D8 (l0 _)] at hpk
  simp only[go_sem,q7,q8,hki]
  refine⟨_,ab.refl _,?_⟩
  simp only[go_sem]
  exact InF.ret (rs:=[]) (a:=()) InF.refl.rdr hO hpk.symm rfl rfl
 have hki:(k:Int)<(l.length:Int):=a6
 have hk0:(0:Int)≤(k:Int):=a6
 obtain⟨s,hs⟩:=getq hlt
 have hjs:(bH l)[k]? = some (.d (.str s)):=by unfold bH;rw[w8,hs];rfl
 have hjk:upd ob 125 (some (rdC ts (n+k) fin)) j=some (bH l):=by simp only[upd];rw[if_neg hj1];exact hjo
 have hjS:(bH l).length=l.length:=j5 _
 have hkk:(k:Int).toNat=k:=a6
 have hd:l.drop k=s::l.drop (k+1):=by rw[A0 hlt];rw[w9 hlt] at hs;cases hs;rfl
 rw[hd] at hpk
 simp only[go_sem,q0,q6,q7,q8,hki,hjk,hk0,hjs,hkk]
 refine ba aa rfl (by simp only[go_sem,q0];exact yK hB hF hO) ?_
 rintro _ g2 ob2 ⟨rfl,rfl,rfl⟩
 by_cases he:ap ts (n+k)=s
 case neg=>
  rw[bt,if_neg he] at hpk
  simp only[go_sem,he,q0]
  refine bq (R:=fun _ _ _=>False) aa rfl (by simp only[go_sem,q0];exact vt hO) ?_ (fun _ _ _ h=>h.elim)
  rintro ch g' ob' ⟨rfl,rfl,rfl⟩
  exact InF.refl.rdr.pan hO hpk.symm rfl
 rw[bt,if_pos he] at hpk
 simp only[go_sem,he,q0,rdC,dF,hwn,q8,hw]
 refine ae (m-1) a6 ⟨k+1,a6,?_⟩
 simp only[go_sem,q0,q6,q7]
 refine⟨?_,hpk⟩
 funext i
 simp only[upd]
 split <;> rfl
theorem fD (op:Int):aG Tryz.prog 217 [iv .i64 op] (· = .agg [.d (.int .i64 6),.d (.int .i64 op),.d (.int .u32 0),.d (.str []),.d (.sl [])]):=by
 refine hdR Tryz.func217 rfl [.cell 2 224] fun g=>?_
 simp only[go_sem]
 refine⟨_,rT [.int .i64 6,.int .i64 op,.int .u32 0,.str [],.nsl],rfl⟩
end
def AB (s:Str):AV:=.tup [.agg [.d (.int .i64 (Src.uB s).1),.d (.int .i64 (Src.uB s).2.1),.d (.int .u32 0),.d (.str []),.d (.sl [])],iv .i64 ((Src.uB s).2.2:Nat)]
theorem dA {s:Str}{k op:Int}{n:Nat} (h:Src.uB s=(k,op,n)):AB s=.tup [.agg [.d (.int .i64 k),.d (.int .i64 op),.d (.int .u32 0),.d (.str []),.d (.sl [])],iv .i64 (n:Nat)]:=by unfold AB;rw[h]
theorem dC {s:St}{k op n:Int}{x:D} (hx:eQ x=.sl []):nc s [.agg [.d (.int .i64 k),.d (.int .i64 op),.d (.int .u32 0),.d (.str []),.d x],iv .i64 n] (.tup [.agg [.d (.int .i64 k),.d (.int .i64 op),.d (.int .u32 0),.d (.str []),.d (.sl [])],iv .i64 n]):=by
 have h:=rT (s:=s) [.int .i64 k,.int .i64 op,.int .u32 0,.str [],x]
 simp only[l7,v8,hx] at h
 exact⟨_,⟨_,_,rfl,h,_,_,rfl,eN _,rfl⟩,rfl⟩
theorem LZ (s:Str):aG Tryz.prog 203 [sv s] (· = AB s):=by
 refine hdR Tryz.func203 rfl [.cell 2 224,.tmp 3] fun g=>?_
 by_cases h0:s=[124,124]
 ·have hv:Src.uB s=(9,0,1):=by subst h0;rfl
  rw[dA hv]
  simp only[go_sem,s5 h0]
  exact⟨_,dC rfl,rfl⟩
 by_cases h1:s=[38,38]
 ·have hv:Src.uB s=(8,0,2):=by subst h1;rfl
  rw[dA hv]
  simp only[go_sem,h0,s5 h1]
  exact⟨_,dC rfl,rfl⟩
 by_cases h2:s=[61,61]
 ·have hv:Src.uB s=(6,15,3):=by subst h2;rfl
  rw[dA hv]
  simp only[go_sem,h0,h1,s5 h2]
  exact U9
 by_cases h3:s=[60]
 ·have hv:Src.uB s=(6,14,4):=by subst h3;rfl
  rw[dA hv]
  simp only[go_sem,h0,h1,h2,s5 h3]
  exact U9
 by_cases h4:s=[124]
 ·have hv:Src.uB s=(6,10,5):=by subst h4;rfl
  rw[dA hv]
  simp only[go_sem,h0,h1,h2,h3,s5 h4]
  exact U9
 by_cases h5:s=[94]
 ·have hv:Src.uB s=(6,11,5):=by subst h5;rfl
  rw[dA hv]
  simp only[go_sem,h0,h1,h2,h3,h4,s5 h5]
  exact U9
 by_cases h6:s=[38]
 ·have hv:Src.uB s=(6,9,6):=by subst h6;rfl
  rw[dA hv]
  simp only[go_sem,h0,h1,h2,h3,h4,h5,s5 h6]
  exact U9
 by_cases h7:s=[60,60]
 ·have hv:Src.uB s=(6,12,7):=by subst h7;rfl
  rw[dA hv]
  simp only[go_sem,h0,h1,h2,h3,h4,h5,h6,s5 h7]
  exact U9
 by_cases h8:s=[62,62]
 ·have hv:Src.uB s=(6,13,7):=by subst h8;rfl
  rw[dA hv]
  simp only[go_sem,h0,h1,h2,h3,h4,h5,h6,h7,s5 h8]
  exact U9
 by_cases h9:s=[43]
 ·have hv:Src.uB s=(6,4,8):=by subst h9;rfl
  rw[dA hv]
  simp only[go_sem,h0,h1,h2,h3,h4,h5,h6,h7,h8,s5 h9]
  exact U9
 by_cases h10:s=[45]
 ·have hv:Src.uB s=(6,5,8):=by subst h10;rfl
  rw[dA hv]
  simp only[go_sem,h0,h1,h2,h3,h4,h5,h6,h7,h8,h9,s5 h10]
  exact U9
 by_cases h11:s=[42]
 ·have hv:Src.uB s=(6,6,9):=by subst h11;rfl
  rw[dA hv]
  simp only[go_sem,h0,h1,h2,h3,h4,h5,h6,h7,h8,h9,h10,s5 h11]
  exact U9
 by_cases h12:s=[47]
 ·have hv:Src.uB s=(6,7,9):=by subst h12;rfl
  rw[dA hv]
  simp only[go_sem,h0,h1,h2,h3,h4,h5,h6,h7,h8,h9,h10,h11,s5 h12]
  exact U9
 by_cases h13:s=[37]
 ·have hv:Src.uB s=(6,8,9):=by subst h13;rfl
  rw[dA hv]
  simp only[go_sem,h0,h1,h2,h3,h4,h5,h6,h7,h8,h9,h10,h11,h12,s5 h13]
  exact U9
 have hv:Src.uB s=(0,0,0):=by unfold Src.uB;simp only[h0,h1,h2,h3,h4,h5,h6,h7,h8,h9,h10,h11,h12,h13,A4]
 rw[dA hv]
 simp only[go_sem,h0,h1,h2,h3,h4,h5,h6,h7,h8,h9,h10,h11,h12,h13]
 exact⟨_,dC rfl,rfl⟩
end
end Go.Proofs.YtgiigidgdhplfaaGreatDoor
namespace Go.Src
section
open Go.Asm (Str)
section
def PR.In {α:Type} (L n:Nat) (p:PR α):Prop:=∀a m,p=.ok a m→m≤max n L
theorem PR.bind_in {α β:Type}{L n:Nat}{p:PR α}{f:α→Nat→PR β} (h:p.In L n) (h':∀a m,(f a m).In L m):(p.bind f).In L n:=by
 intro b m hb
 cases p with
 |ok a k=>
   have h1:=h a k rfl
   have h2:=h' a k b m hb
   omega
 |no k=>cases hb
variable {k n:Nat}{α:Type}
theorem PR.in_ok{L n m:Nat}{a:α} (h:m≤max n L):(PR.ok a m).In L n:=fun b k e=>by cases e;exact h
theorem PR.in_no{L n m:Nat}:(PR.no m:PR α).In L n:=fun _ _ e=>by cases e
theorem PR.In.up{L n:Nat}{p:PR α} (h:p.In L (n+1)) (hn:n<L):p.In L n:=fun a m e=>by have:=h a m e;omega
theorem PR.in_here{L n:Nat}{a:α}:(PR.ok a n).In L n:=PR.in_ok a6
section
variable {ts:List Tok}
theorem ck {n:Nat}{s:Str} (h:ap ts n=s) (hs:s≠[]):n<ts.length:=by
 unfold ap at h
 split at h
 ·rename_i t ht
  exact(l4.1 ht).1
 ·exact absurd h.symm hs
theorem iM:(takeN ts k n).In ts.length n:=by
 intro a m h
 unfold takeN at h
 split at h
 ·rename_i t ht
  have:=(l4.1 ht).1
  split at h
  ·cases h;omega
  ·cases h
 ·cases h
theorem bX:∀{l:List Str}{n:Nat},(∀s∈l,s≠[])→(bt ts l n).In ts.length n
 |[],n,_=>PR.in_here
 |s::l,n,h=>by
   unfold bt
   split
   ·rename_i hp
    exact(bX (fun x hx=>h x YZ)).up (ck hp (h s a7))
   ·exact PR.in_no
mutual
theorem fv:∀(k least n:Nat),(cw ts k least n).In ts.length n
 |0,_,_=>by unfold cw;exact PR.in_no
 |k+1,least,n=>by
   unfold cw
   exact PR.bind_in (xI k n) fun a m=>xH k least a m
theorem xH:∀(k least:Nat) (left:Ex) (n:Nat),(fW ts k least left n).In ts.length n
 |0,_,_,_=>by unfold fW;exact PR.in_no
 |k+1,least,left,n=>by
   unfold fW
   split
   ·exact PR.in_here
   ·rename_i h
    by_cases hn:n<ts.length
    ·exact(PR.bind_in (fv k _ (n+1)) fun b q=>xH k least _ q).up hn
    ·intro a m e
     have h1:=PR.bind_fwdE (ea (ts:=ts) k ((uB (ap ts n)).2.2+1) (n+1)).le (fun b q=>pI k least _ q) a m e
     exfalso
     have hex:∀(k least n:Nat),ts.length≤n→∃q,cw ts k least n=.no q:=by
      intro k least n hl
      cases k with
      |zero=>exact⟨n,by unfold cw;rfl⟩
      |succ k=>
        have:∃q,eH ts k n=.no q:=by
         cases k with
         |zero=>exact⟨n,by unfold eH;rfl⟩
         |succ k=>
           have hg:ts[n]? = none:=B9 hl
           refine⟨n,?_⟩
           unfold eH
           have h1:bO ts n=0:=by unfold bO;rw[hg]
           have h2:ap ts n=[]:=by unfold ap;rw[hg]
           have h3:takeN ts 1 n=.no n:=by unfold takeN;rw[hg]
           rw[h1,h2,h3]
           simp[jQ]
        obtain⟨q,hq⟩:=this
        exact⟨q,by unfold cw;rw[hq];rfl⟩
     obtain⟨q,hq⟩:=hex k ((uB (ap ts n)).2.2+1) (n+1) a6
     rw[hq] at e
     cases e
theorem xI:∀(k n:Nat),(eH ts k n).In ts.length n
 |0,_=>by unfold eH;exact PR.in_no
 |k+1,n=>by
   unfold eH
   split
   ·exact PR.bind_in iM fun a m=>PR.in_here
   split
   ·rename_i h
    exact(PR.bind_in (bX (by simp[jQ,ir])) fun a m=>PR.in_here).up (ck h a7)
   split
   ·rename_i h
    exact(PR.bind_in (fv k 1 (n+1)) fun a m=>PR.bind_in (bX (by simp[ir])) fun b q=>PR.in_here).up (ck h (by simp[jQ]))
   split
   ·rename_i h
    exact(PR.bind_in (xI k (n+1)) fun a m=>PR.in_here).up (ck h a7)
   refine PR.bind_in iM fun a m=>?_
   split
   ·rename_i h
    exact(PR.bind_in (fv k 1 (m+1)) fun a m=>PR.bind_in (bX a7) fun b q=>PR.in_here).up (ck h a7)
   split
   ·rename_i h
    exact(PR.bind_in (xJ k (m+1)) fun a m=>PR.in_here).up (ck h (by simp[jQ]))
   ·exact PR.in_here
theorem xJ:∀(k n:Nat),(fb ts k n).In ts.length n
 |0,_=>by unfold fb;exact PR.in_no
 |k+1,n=>by
   unfold fb
   split
   ·rename_i h
    exact PR.in_here.up (ck h (by simp[ir]))
   ·exact PR.bind_in (fv k 1 n) fun a m=>xK k [a] m
theorem xK:∀(k:Nat) (l:List Ex) (n:Nat),(fX ts k l n).In ts.length n
 |0,_,_=>by unfold fX;exact PR.in_no
 |k+1,l,n=>by
   unfold fX
   split
   ·rename_i h
    exact(PR.bind_in (fv k 1 (n+1)) fun a m=>xK k (l++[a]) m).up (ck h (by simp[vO]))
   ·exact PR.bind_in (bX (by simp[ir])) fun b q=>PR.in_here
end
theorem pK:(iR ts k n).In ts.length n:=PR.bind_in (bX (by simp[jQ])) fun _ m=>PR.bind_in (fv k 1 m) fun _ m=>PR.bind_in (bX (by simp[ir])) fun _ _=>PR.in_here
theorem Cs:(iu ts k n).In ts.length n:=by
 unfold iu
 refine PR.bind_in iM fun t m=>PR.bind_in ?_ fun s q=>PR.bind_in (bX Y5) fun _ _=>PR.in_here
 split
 ·rename_i h
  exact(PR.bind_in (fv k 1 (m+1)) fun _ _=>PR.in_here).up (ck h a7)
 split
 ·rename_i h
  exact(PR.bind_in (fv k 1 (m+1)) fun _ _=>PR.bind_in (bX a7) fun _ q=>PR.bind_in (fv k 1 q) fun _ _=>PR.in_here).up (ck h a7)
 split
 ·rename_i h
  exact(PR.bind_in (xJ k (m+1)) fun _ _=>PR.in_here).up (ck h (by simp[jQ]))
 ·exact PR.in_no
mutual
theorem FY:∀(k n:Nat),(ja ts k n).In ts.length n
 |0,_=>by unfold ja;exact PR.in_no
 |k+1,n=>by
   unfold ja
   split
   ·rename_i h
    exact(PR.bind_in pK fun _ _=>PR.bind_in (bX Y5) fun _ _=>PR.in_here).up (ck h a7)
   split
   ·rename_i h
    split
    ·rename_i h2
     have:=ck h2 Y5
     exact PR.in_ok a6
    ·exact(PR.bind_in (fv k 1 (n+1)) fun _ _=>PR.bind_in (bX Y5) fun _ _=>PR.in_here).up (ck h a7)
   split
   ·rename_i h
    refine(PR.bind_in pK fun _ m=>PR.bind_in (sH k m) fun _ q=>?_).up (ck h a7)
    split
    ·rename_i h2
     exact(PR.bind_in (sH k (q+1)) fun _ _=>PR.in_here).up (ck h2 a7)
    ·exact PR.in_here
   split
   ·rename_i h
    exact(PR.bind_in pK fun _ m=>PR.bind_in (sH k m) fun _ _=>PR.in_here).up (ck h a7)
   ·exact Cs
theorem sH:∀(k n:Nat),(gX ts k n).In ts.length n
 |0,_=>by unfold gX;exact PR.in_no
 |k+1,n=>by
   unfold gX
   exact PR.bind_in (bX a7) fun _ m=>pL k [] m
theorem pL:∀(k:Nat) (l:List Stm) (n:Nat),(cN ts k l n).In ts.length n
 |0,_,_=>by unfold cN;exact PR.in_no
 |k+1,l,n=>by
   unfold cN
   split
   ·rename_i h
    exact PR.in_here.up (ck h a7)
   ·exact PR.bind_in (FY k n) fun a m=>pL k _ m
end
theorem qr:∀{k:Nat}{l:List Str}{n:Nat},(dN ts k l n).In ts.length n
 |0,_,_=>by unfold dN;exact PR.in_no
 |k+1,l,n=>by
   unfold dN
   split
   ·rename_i h
    exact(PR.bind_in iM fun _ _=>qr).up (ck h (by simp[vO]))
   ·exact PR.in_here
theorem pM:(dR ts k n).In ts.length n:=PR.bind_in iM fun _ _=>qr
theorem oS:∀{k:Nat}{l:List Str}{n:Nat}{l':List Str}{m:Nat},dN ts k l n=.ok l' m→l'.length+n≤l.length+m
 |0,_,_,_,_,h=>by unfold dN at h;cases h
 |k+1,l,n,l',m,h=>by
   unfold dN at h
   split at h
   ·cases ht:takeN ts 1 (n+1) with
    |no q=>rw[ht] at h;cases h
    |ok t q=>
      rw[ht,PR.bind_ok] at h
      have h1:=eZ (ts:=ts) t q ht
      have h2:=oS h
      rw[j4,J0] at h2
      omega
   ·cases h;omega
theorem zA{l:List Str}{m:Nat} (h:dR ts k n=.ok l m):l.length+n≤m:=by
 unfold dR at h
 cases ht:takeN ts 1 n with
 |no q=>rw[ht] at h;cases h
 |ok t q=>
   rw[ht,PR.bind_ok] at h
   have h1:=eZ (ts:=ts) t q ht
   have h2:=oS h
   rw[J0] at h2
   omega
theorem sI:∀{k:Nat}{l:List Str}{n:Nat},(de ts k l n).In ts.length n
 |0,_,_=>by unfold de;exact PR.in_no
 |k+1,l,n=>by
   unfold de
   split
   ·rename_i h
    exact(PR.bind_in pM fun _ _=>PR.bind_in (bX Y5) fun _ _=>sI).up (ck h a7)
   ·exact PR.in_here
theorem AW:(lL ts k n).In ts.length n:=by
 unfold lL
 refine PR.bind_in (bX a7) fun _ m=>PR.bind_in iM fun t m=>PR.bind_in (bX (by simp[jQ])) fun _ m=>PR.bind_in ?_ fun ps m=>PR.bind_in (bX (by simp[ir])) fun _ m=>?_
 ·split
  ·exact pM
  ·exact PR.in_here
 ·have hb:∀v,((bt ts [[123]] v).bind fun _ m'=>(de ts k [] m').bind fun ls m'=>(cN ts k [] m').bind fun b m'=>(PR.ok (Fn.mk t.text ps ls (decide (ap ts m=[119,111,114,100])) b) m')).In ts.length v:=fun v=>
   PR.bind_in (bX a7) fun _ m'=>PR.bind_in sI fun ls m'=>PR.bind_in (pL k [] m') fun b m'=>PR.in_here
  split
  ·rename_i h
   exact(hb (m+1)).up (ck h a7)
  ·exact hb m
theorem sJ:∀{k:Nat}{l:List Str}{ars:List (Str×Int)}{n:Nat},(lE ts k l ars n).In ts.length n
 |0,_,_,_=>by unfold lE;exact PR.in_no
 |k+1,l,ars,n=>by
   unfold lE
   split
   ·rename_i h
    exact(PR.bind_in pM fun _ _=>PR.bind_in (bX Y5) fun _ _=>sJ).up (ck h a7)
   split
   ·rename_i h
    exact(PR.bind_in iM fun _ _=>PR.bind_in (bX a7) fun _ _=>PR.bind_in iM fun _ _=>PR.bind_in (bX a7) fun _ _=>PR.bind_in (bX Y5) fun _ _=>sJ).up (ck h a7)
   ·exact PR.in_here
end
end
end
end Go.Src

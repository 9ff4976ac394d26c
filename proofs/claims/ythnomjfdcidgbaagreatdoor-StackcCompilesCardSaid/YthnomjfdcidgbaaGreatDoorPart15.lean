/- A part of the proof; no conditions. -/
import Derived.Test.YthnomjfdcidgbaaGreatDoorPart14
set_option linter.unusedSimpArgs false
set_option linter.unusedVariables false
set_option maxHeartbeats 64000000
set_option maxRecDepth 100000
namespace Go.Proofs.YthnomjfdcidgbaaGreatDoor
section
attribute [local congr] Go.Am.ite_cc
open Go Go.Am Go.Asm
open Go.Src (Ex Stm szE bH szS bu Pl ju dt ik dW coreS du kz kA)
section
mutual
def cxD:Lower.Ex→List D
 |.mk kind op num slot size kids=>[.int .i64 kind,.int .i64 op,.int .u32 num,.int .i64 slot,.int .i64 size,.sl (wu kids)]
def wu:List Lower.Ex→List (List D)
 |[]=>[]
 |e::l=>cxD e::wu l
end
theorem nn:∀l:List Lower.Ex,wu l=l.map cxD
 |[]=>by simp[wu]
 |e::l=>by simp[wu,nn l]
theorem BB (e:Lower.Ex):(cxD e).length=6:=by cases e;simp[cxD]
mutual
def csD:Lower.Stm→List D
 |.mk kind slot size e th el=>[.int .i64 kind,.int .i64 slot,.int .i64 size,.sl (wu e),.sl (oY th),.sl (oY el)]
def oY:List Lower.Stm→List (List D)
 |[]=>[]
 |e::l=>csD e::oY l
end
theorem np:∀l:List Lower.Stm,oY l=l.map csD
 |[]=>by simp[oY]
 |e::l=>by simp[oY,np l]
theorem BC (e:Lower.Stm):(csD e).length=6:=by cases e;simp[csD]
def uD (l:List Lower.Ex):AV:=.one (.d (.sl (l.map cxD)))
def qE (l:List Lower.Stm):AV:=.one (.d (.sl (l.map csD)))
def plD (t:Int×Int):List D:=[.int .i64 t.1,.int .i64 t.2]
def pS (M:List C) (m:Pl):Prop:=∀s:Str,mget M (.str s)=(ju m s).map fun t=>.d (.iptr (plD t))
theorem pS.put {M:List C}{m:Pl} (h:pS M m) (nm:Str) (t:Int×Int):pS (mset M (.str nm) (.d (.iptr (plD t)))) ((nm,t)::m):=fun s=>by
 rw[nC]
 simp only[jP,ju]
 by_cases hs:nm=s
 ·subst hs
  simp
 ·simp only[hs,I2,B8,A4]
  exact h s
structure EZ (lo li:Pl) (io ii go gi:Nat) (g:Nat→Nat) (ob:Obs):Prop where
 mo:∃M,ob io=some M∧pS M lo
 mi:∃M,ob ii=some M∧pS M li
 go:g io=go
 gi:g ii=gi
theorem EZ.mono {lo li:Pl}{io ii go gi B:Nat}{g g':Nat→Nat}{ob ob':Obs} (h:EZ lo li io ii go gi g ob) (ho:io<B) (hi:ii<B) (hs:∀i,i<B→g' i=g i∧ob' i=ob i):EZ lo li io ii go gi g' ob' where
 mo:=by rw[(hs io ho).2];exact h.mo
 mi:=by rw[(hs ii hi).2];exact h.mi
 go:=by rw[(hs io ho).1];exact h.go
 gi:=by rw[(hs ii hi).1];exact h.gi
def rP (io ii go gi:Nat):AV:=.agg [.mp io go 208,.mp ii gi 208]
def BD (lo li:Pl) (io ii go gi:Nat) (f:FuncId) (xs:List AV) (r:AV):Prop:=∀(B:Nat) (g:Nat→Nat) (ob:Obs),io<B→ii<B→(∀i,B≤i→ob i=none)→EZ lo li io ii go gi g ob→
 dN Tryz.prog f (rP io ii go gi::xs) g ob (fun r' g' ob'=>g'=g∧ob'=ob∧r'=r) (fun _ _ _=>False)
section
variable {b₀:Bs}{rd:Option Nat}{Φ:St→Am.Loc→List Deferred→World→Prop}
theorem oZ {Ψ:fO}{B0:Nat} (hΦ:aY b₀ Φ) {o:Oper}{s:St}{K:St→Prop}{k:Box K}{f:FuncId}{args:Array Operand}{tys:Array TypeId} (ho:o.op=.call ⟨.value (.func f),args,tys⟩) {xs:List AV}{r:AV}{lo li:Pl}{io ii go gi:Nat}
  (hr:BD lo li io ii go gi f xs r) (hx:args.toList.map s.ev=rP io ii go gi::xs) (Bc:Nat) (h1:io<Bc) (h2:ii<Bc) (hfree:∀i,Bc≤i→s.obj i=none) (E:EZ lo li io ii go gi s.gen s.obj) (hk:K (s.put o.dst r)):bh (spF Tryz.prog rd b₀ Φ B0 Ψ) o s k:=by
 refine bN (R:=fun r' g' ob'=>g'=s.gen∧ob'=s.obj∧r'=r) (Ψ0:=fun _ _ _=>False) hΦ ho (by rw[hx];exact hr Bc s.gen s.obj h1 h2 hfree E) (fun _ _ _ h=>h.elim) ?_
 rintro _ g' ob' ⟨rfl,rfl,rfl⟩
 exact hk
end
section
variable {lo li:Pl}{io ii go gi:Nat}
theorem Fa (nm:Str):BD lo li io ii go gi 98 [sv nm] (.agg ((plD (dt lo li nm)).map .d)):=by
 intro B g ob h1 h2 hB E
 obtain⟨⟨Mo,oo,mo⟩,⟨Mi,oi,mi⟩,hgo,hgi⟩:=E
 unfold rP
 refine hdM B [] Tryz.func98 rfl [.cell 4 119] a7 hB fun b₀ β0 s0 w0=>?_
 have n1:∀k,(io=B+k)=False:=fun k=>by simp;omega
 have n2:∀k,(ii=B+k)=False:=fun k=>by simp;omega
 have mi1:=mi nm
 have mo1:=mo nm
 unfold dt
 cases hfi:ju li nm with
 |some t=>
   rw[hfi] at mi1
   simp only[y1,plD] at mi1
   simp only[go_sem,n1,n2,hgi,oi,C1,B5,mi1]
   exact V7
 |none=>
   rw[hfi] at mi1
   simp only[F1] at mi1
   cases hfo:ju lo nm with
   |some t=>
     rw[hfo] at mo1
     simp only[y1,plD] at mo1
     simp only[go_sem,n1,n2,hgi,hgo,oi,C1,B5,mi1,oo,mo1]
     exact V7
   |none=>
     rw[hfo] at mo1
     simp only[F1] at mo1
     simp only[go_sem,n1,n2,hgi,hgo,oi,C1,B5,mi1,oo,mo1]
     refine⟨_,ab.refl _,?_⟩
     simp only[go_sem,n1,n2]
     exact bi.nil (fun i hi=>⟨nu,nu⟩) (rs':=[.agg ((plD (0,0)).map .d)]) ⟨_,_,rfl,CB (plD (0,0)),rfl⟩ ⟨rfl,rfl,rfl⟩
def cxC (l:List Lower.Ex):List C:=l.flatMap fun a=>(cxD a).map .d
theorem HY (l:List Lower.Ex):(cxC l).length=l.length*6:=by
 induction l with
 |nil=>rfl
 |cons a l ih=>simp only[cxC,C9,j5,j4,BB,j6] at ih ⊢;omega
theorem HZ (l m:List Lower.Ex):cxC (l++m)=cxC l++cxC m:=by simp[cxC]
theorem Ia (e:Lower.Ex):cxC [e]=(cxD e).map .d:=by simp[cxC]
def csC (l:List Lower.Stm):List C:=l.flatMap fun a=>(csD a).map .d
theorem Ib (l:List Lower.Stm):(csC l).length=l.length*6:=by
 induction l with
 |nil=>rfl
 |cons a l ih=>simp only[csC,C9,j5,j4,BC,j6] at ih ⊢;omega
theorem Ic (l m:List Lower.Stm):csC (l++m)=csC l++csC m:=by simp[csC]
theorem Ie (e:Lower.Stm):csC [e]=(csD e).map .d:=by simp[csC]
theorem vg {α β:Type}{f:α→β}{l:List α}{k:Nat}{x:α} (h:l[k]? = some x):(l.take (k+1)).map f=(l.take k).map f++[f x]:=by
 rw[A8,h,H4,A3];rfl
theorem If:∀(N:Nat) (l:List Ex),bH l≤N→N≤1000000000→BD lo li io ii go gi 99 [eM l] (uD (dW lo li l)):=by
 intro N
 induction N using Nat.strongRecOn with
 |ind N ih=>
 intro l hszl hN B g ob h1 h2 hB E
 rw[kz]
 unfold rP
 refine hdM B [] Tryz.func99 rfl [.tmp 4] a7 hB fun b₀ β0 s0 w0=>?_
 have hll:=Src.Gk l
 unfold eM
 simp only[go_sem,j4]
 refine iR _ (vG (t:=5) (id:=B+36) (sz:=6) Xz) (fun m st=>∃k:Nat,m+k=l.length∧st.f 2=.one (.ptr (B+2) (st.gen (B+2)) 0)∧st.f 5=.one (.osl (B+36) (st.gen (B+36)) 6 0 k)∧st.f 9=.one (.d (.sl (l.map exD)))∧st.f 10=iv .i64 l.length∧st.f 11=iv .i64 k∧
   st.obj (B+2)=some [.mp io go 208,.mp ii gi 208]∧st.obj (B+36)=some (cxC ((l.take k).map (ik lo li)))∧(∀j,j<B→st.gen j=g j∧st.obj j=ob j)∧(∀j,B+39≤j→st.obj j=none)) l.length ?_ ?_
 ·exact Wz
 rintro m f g1 ob1 ⟨k,hk,q2,q5,q9,q10,q11,o2,o36,fr,hfr⟩
 simp only at q2 q5 q9 q10 q11 o2 o36 fr hfr
 have hw:=ae (k:=k) a6
 by_cases hlt:k<l.length
 case neg=>
  have hki:¬(k:Int)<(l.length:Int):=a6
  obtain rfl:k=l.length:=a6
  rw[l5 (j8 _)] at o36
  simp only[go_sem,q5,q10,q11,hki]
  refine⟨_,ab.refl _,?_⟩
  simp only[go_sem,q5]
  exact bi.nil fr (rs':=[uD (l.map (ik lo li))]) ⟨_,_,rfl,.one (eE a6 rfl (l.map (ik lo li)) cxD o36 rfl (fun a _=>BB a) (by rw[j4])),rfl⟩ ⟨rfl,rfl,rfl⟩
 have hki:(k:Int)<(l.length:Int):=a6
 have hk0:(0:Int)≤(k:Int):=a6
 obtain⟨e,he⟩:=getq hlt
 have hsze:=Src.Jf (l4 he)
 obtain⟨kind,op,num,name,kids⟩:=e
 rw[szE] at hsze
 have hE:exD (.mk kind op num name kids)=[.int .i64 kind,.int .i64 op,.int .u32 num,.str name,.sl (kids.map exD)]:=by simp only[exD,aH]
 have hih:=ih (bH kids) a6 kids (j8 _) a6
 simp only[go_sem,q2,q5,q9,q10,q11,o2,hki,hk0,he,hE]
 refine oZ aa rfl (Fa name) (by simp only[go_sem,rP]) (B+39) a6 a6 (fun i hi=>nt (hfr i a6)) ((E.mono h1 h2 fr).mono h1 h2 fun i hi=>⟨nu,nu⟩) ?_
 obtain⟨ps,hps⟩:∃x,dt lo li name=x:=⟨_,rfl⟩
 rw[hps]
 have hce:ik lo li (.mk kind op num name kids)=.mk kind op num ps.1 ps.2 (dW lo li kids):=by rw[ik,hps]
 unfold plD
 simp only[go_sem]
 refine gq aU mixed aa [B+35,B+36] [([5],[0],[],false),([7],[],[],false),([20],[],[],false),([7],[],[],false),([22],[],[],false),([7],[],[],false),([24],[],[],false),([8],[],[],false),([26],[],[],false),([8],[],[],false),([28],[],[],false),([2],[],[],false),([7],[],[],false),([31],[],[],false),([30,32],[],[],false),([21,23,25,27,29,33],[],[],false),([34],[],[0],false),([19,35],[],[1],false),([36],[],[],true)] 2 rfl b9 rfl a7 ?_
 simp only[go_sem]
 iterate 10 (apply aO;(case hg=>first|exact l7|exact⟨_,rfl,by decide,rfl⟩);(case h1=>intro fa ga oa K' hK;simp only[go_sem,q2,q5,o2] at hK ⊢;exact hK))
 iterate 4 (apply aO;(case hg=>first|exact l7|exact⟨_,rfl,by decide,rfl⟩);(case h1=>intro fa ga oa K' hK;simp only[go_sem,q2,q5,o2] at hK ⊢;exact hK))
 apply aO (v:=uD (dW lo li kids))
 case hg=>exact l7
 case h1=>
  intro fa ga oa K' hK
  simp only[go_sem,uD] at hK ⊢
  refine oZ aa rfl hih Yz (B+39) a6 a6 (fun i hi=>nt (hfr i a6)) ((E.mono h1 h2 fr).mono h1 h2 fun i hi=>⟨nu,nu⟩) ?_
  unfold uD
  exact Vn
 (apply aO;(case hg=>first|exact l7|exact⟨_,rfl,by decide,rfl⟩);(case h1=>intro fa ga oa K' hK;simp only[go_sem,uD] at hK ⊢;exact hK))
 (apply eC;(case hg=>first|exact l7|exact⟨_,rfl,by decide,rfl⟩);(case h1=>intro fa ga oa K' hK;simp only[go_sem,aD] at hK ⊢;exact hK))
 have hcl:=HY ((l.take k).map (ik lo li))
 have htl:((l.take k).map (ik lo li)).length=k:=by rw[j4,D2];omega
 rw[htl] at hcl
 refine eC (a:=1) (v:=.one (.osl (B+36) (nxC (apC 231 (g1 (B+36)) 0) (g1 (B+36))) 6 0 (k+1))) (x:=nxC (apC 231 (g1 (B+36)) 0) (g1 (B+36))) (y:=some (cxC ((l.take k).map (ik lo li)++[ik lo li (.mk kind op num name kids)]))) l7 (fun fa ga oa K' hK=>?_) ?_
 ·have e1:List.take (k*6) (cxC ((l.take k).map (ik lo li)))++(cxD (ik lo li (.mk kind op num name kids))).map .d=cxC ((l.take k).map (ik lo li)++[ik lo li (.mk kind op num name kids)]):=by
   rw[l5 a6,HZ,Ia]
  rw[hce] at e1
  simp only[cxD,nn,l6,v7] at e1
  rw[hce] at hK
  simp only[go_sem,aD,o36,hcl] at hK ⊢
  exact V4
 exact Vw
end
end
section
section
variable {lo li:Pl}{io ii go gi:Nat}
theorem Ig:∀(N:Nat) (l:List Stm),bu l≤N→N≤1000000000→BD lo li io ii go gi 56 [fQ l] (qE (du lo li l)):=by
 intro N
 induction N using Nat.strongRecOn with
 |ind N ih=>
 intro l hszl hN B g ob h1 h2 hB E
 rw[kA]
 unfold rP
 refine hdM B [] Tryz.func56 rfl [.tmp 4] a7 hB fun b₀ β0 s0 w0=>?_
 have hll:=Src.Gl l
 unfold fQ
 simp only[go_sem,j4]
 refine iR _ (vG (t:=5) (id:=B+40) (sz:=6) Xz) (fun m st=>∃k:Nat,m+k=l.length∧st.f 2=.one (.ptr (B+2) (st.gen (B+2)) 0)∧st.f 5=.one (.osl (B+40) (st.gen (B+40)) 6 0 k)∧st.f 9=.one (.d (.sl (l.map smD)))∧st.f 10=iv .i64 l.length∧st.f 11=iv .i64 k∧
   st.obj (B+2)=some [.mp io go 208,.mp ii gi 208]∧st.obj (B+40)=some (csC ((l.take k).map (coreS lo li)))∧(∀j,j<B→st.gen j=g j∧st.obj j=ob j)∧(∀j,B+43≤j→st.obj j=none)) l.length ?_ ?_
 ·exact Wz
 rintro m f g1 ob1 ⟨k,hk,q2,q5,q9,q10,q11,o2,o36,fr,hfr⟩
 simp only at q2 q5 q9 q10 q11 o2 o36 fr hfr
 have hw:=ae (k:=k) a6
 by_cases hlt:k<l.length
 case neg=>
  have hki:¬(k:Int)<(l.length:Int):=a6
  obtain rfl:k=l.length:=a6
  rw[l5 (j8 _)] at o36
  simp only[go_sem,q5,q10,q11,hki]
  refine⟨_,ab.refl _,?_⟩
  simp only[go_sem,q5]
  exact bi.nil fr (rs':=[qE (l.map (coreS lo li))]) ⟨_,_,rfl,.one (eE a6 rfl (l.map (coreS lo li)) csD o36 rfl (fun a _=>BC a) (by rw[j4])),rfl⟩ ⟨rfl,rfl,rfl⟩
 have hki:(k:Int)<(l.length:Int):=a6
 have hk0:(0:Int)≤(k:Int):=a6
 obtain⟨e,he⟩:=getq hlt
 have hsze:=Src.Jg (l4 he)
 obtain⟨kind,name,es,th,el⟩:=e
 rw[szS] at hsze
 have hE:smD (.mk kind name es th el)=[.int .i64 kind,.str name,.sl (es.map exD),.sl (th.map smD),.sl (el.map smD)]:=by simp only[smD,aH,eg]
 have hth:=ih (bu th) a6 th (j8 _) a6
 have hel:=ih (bu el) a6 el (j8 _) a6
 have hes:=If (lo:=lo) (li:=li) (io:=io) (ii:=ii) (go:=go) (gi:=gi) (bH es) es (j8 _) a6
 simp only[go_sem,q2,q5,q9,q10,q11,o2,hki,hk0,he,hE]
 refine oZ aa rfl (Fa name) (by simp only[go_sem,rP]) (B+43) a6 a6 (fun i hi=>nt (hfr i a6)) ((E.mono h1 h2 fr).mono h1 h2 fun i hi=>⟨nu,nu⟩) ?_
 obtain⟨ps,hps⟩:∃x,dt lo li name=x:=⟨_,rfl⟩
 rw[hps]
 have hce:coreS lo li (.mk kind name es th el)=.mk kind ps.1 ps.2 (dW lo li es) (du lo li th) (du lo li el):=by rw[coreS,hps]
 unfold plD
 simp only[go_sem]
 refine gq aU mixed aa [B+39,B+40] [([5],[0],[],false),([7],[],[],false),([20],[],[],false),([8],[],[],false),([22],[],[],false),([8],[],[],false),([24],[],[],false),([2],[],[],false),([7],[],[],false),([27],[],[],false),([26,28],[],[],false),([2],[],[],false),([7],[],[],false),([31],[],[],false),([30,32],[],[],false),([2],[],[],false),([7],[],[],false),([35],[],[],false),([34,36],[],[],false),([21,23,25,29,33,37],[],[],false),([38],[],[0],false),([19,39],[],[1],false),([40],[],[],true)] 2 rfl b9 rfl a7 ?_
 simp only[go_sem]
 iterate 10 (apply aO;(case hg=>first|exact l7|exact⟨_,rfl,by decide,rfl⟩);(case h1=>intro fa ga oa K' hK;simp only[go_sem,q2,q5,o2] at hK ⊢;exact hK))
 apply aO (v:=uD (dW lo li es))
 case hg=>exact l7
 case h1=>
  intro fa ga oa K' hK
  simp only[go_sem,uD] at hK ⊢
  refine oZ aa rfl hes Yz (B+43) a6 a6 (fun i hi=>nt (hfr i a6)) ((E.mono h1 h2 fr).mono h1 h2 fun i hi=>⟨nu,nu⟩) ?_
  unfold uD
  exact Vn
 iterate 3 (apply aO;(case hg=>first|exact l7|exact⟨_,rfl,by decide,rfl⟩);(case h1=>intro fa ga oa K' hK;simp only[go_sem,q2,q5,o2] at hK ⊢;exact hK))
 apply aO (v:=qE (du lo li th))
 case hg=>exact l7
 case h1=>
  intro fa ga oa K' hK
  simp only[go_sem,qE] at hK ⊢
  refine oZ aa rfl hth Yz (B+43) a6 a6 (fun i hi=>nt (hfr i a6)) ((E.mono h1 h2 fr).mono h1 h2 fun i hi=>⟨nu,nu⟩) ?_
  unfold qE
  exact Vn
 iterate 3 (apply aO;(case hg=>first|exact l7|exact⟨_,rfl,by decide,rfl⟩);(case h1=>intro fa ga oa K' hK;simp only[go_sem,q2,q5,o2] at hK ⊢;exact hK))
 apply aO (v:=qE (du lo li el))
 case hg=>exact l7
 case h1=>
  intro fa ga oa K' hK
  simp only[go_sem,qE] at hK ⊢
  refine oZ aa rfl hel Yz (B+43) a6 a6 (fun i hi=>nt (hfr i a6)) ((E.mono h1 h2 fr).mono h1 h2 fun i hi=>⟨nu,nu⟩) ?_
  unfold qE
  exact Vn
 (apply aO;(case hg=>first|exact l7|exact⟨_,rfl,by decide,rfl⟩);(case h1=>intro fa ga oa K' hK;simp only[go_sem,uD,qE] at hK ⊢;exact hK))
 (apply eC;(case hg=>first|exact l7|exact⟨_,rfl,by decide,rfl⟩);(case h1=>intro fa ga oa K' hK;simp only[go_sem,aD] at hK ⊢;exact hK))
 have hcl:=Ib ((l.take k).map (coreS lo li))
 have htl:((l.take k).map (coreS lo li)).length=k:=by rw[j4,D2];omega
 rw[htl] at hcl
 refine eC (a:=1) (v:=.one (.osl (B+40) (nxC (apC 178 (g1 (B+40)) 0) (g1 (B+40))) 6 0 (k+1))) (x:=nxC (apC 178 (g1 (B+40)) 0) (g1 (B+40))) (y:=some (csC ((l.take k).map (coreS lo li)++[coreS lo li (.mk kind name es th el)]))) l7 (fun fa ga oa K' hK=>?_) ?_
 ·have e1:List.take (k*6) (csC ((l.take k).map (coreS lo li)))++(csD (coreS lo li (.mk kind name es th el))).map .d=csC ((l.take k).map (coreS lo li)++[coreS lo li (.mk kind name es th el)]):=by
   rw[l5 a6,Ic,Ie]
  rw[hce] at e1
  simp only[csD,nn,np,l6,v7] at e1
  rw[hce] at hK
  simp only[go_sem,aD,o36,hcl] at hK ⊢
  exact V4
 exact Vw
end
end
end
section
attribute [local congr] Go.Am.ite_cc
open Go Go.Am Go.Asm
open Go.Src (Ex Stm szE bH szS bu Pl ju dt gV gA gF bb lP)
theorem dropq {α:Type}{l:List α}{k:Nat}{x:α} (h:l[k]? = some x):l.drop k=x::l.drop (k+1):=by
 have hlt:=(l0.1 h).1
 rw[y9 hlt,(l0.1 h).2]
theorem CF {g:Nat→Nat}{ob:Obs}{p:Src.Prog} (hsz:szP p≤1000000) (har:∀a∈p.arrays,0≤a.2∧a.2≤4096) :
  dN Tryz.prog 55 [de p] g ob (fun r g' ob'=>r=.tup [.one (.mp 1012 (g' 1012) 208),iv .i64 (bb p).2]∧(0≤(bb p).2∧(bb p).2≤1000000+4096*1000000)∧(∃M,ob' 1012=some M∧pS M (bb p).1)∧∀i,i<1000∨1100≤i→g' i=g i∧ob' i=ob i) (fun _ _ _=>False):=by
 refine hdX 1000 Tryz.func55 rfl [.tmp 2,.tmp 3] fun b₀ β0 s0 w0=>?_
 obtain⟨vs,ars,fs⟩:=p
 unfold szP at hsz
 simp only at hsz har
 obtain⟨Lm,Lw⟩:∃L,bb ⟨vs,ars,fs⟩=L:=⟨_,rfl⟩
 obtain⟨L,hL⟩:∃L,bb ⟨vs,ars,fs⟩=L:=⟨_,rfl⟩
 rw[hL]
 unfold bb at hL
 simp only at hL
 unfold de gY
 simp only[go_sem,j4]
 refine ai (fun m st=>∃(k:Nat) (pm:Pl) (w:Int),m+k=vs.length∧gV (vs.drop k) pm w=gV vs [] 0∧0≤w∧w≤k∧st.f 1=.one (.ptr 1001 (st.gen 1001) 0)∧st.f 4=.one (.mp 1012 (st.gen 1012) 208)∧st.f 5=iv .i64 w∧st.obj 1001=some (iS ⟨vs,ars,fs⟩)∧(∃M,st.obj 1012=some M∧pS M pm)∧st.f 14=.one (.d (.sl (vs.map fun s=>[.str s])))∧st.f 15=iv .i64 vs.length∧st.f 16=iv .i64 k∧
   ∀i,i<1000∨1100≤i→st.gen i=g i∧st.obj i=ob i) vs.length ?_ ?_
 ·refine⟨0,[],0,rfl,by rw[B3],a6,a6,?_⟩
  simp only[go_sem]
  exact⟨rfl,⟨[],rfl,fun s=>rfl⟩,fun i hi=>⟨nu,nu⟩⟩
 rintro m f g1 ob1 ⟨k,pm,w,hk,hgv,hw0,hw1,q1,q4,q5,o1,⟨M,oM,mM⟩,q14,q15,q16,fr⟩
 simp only at q1 q4 q5 o1 oM q14 q15 q16 fr
 have hw:=ae (k:=k) a6
 by_cases hlt:k<vs.length
 ·have hki:(k:Int)<(vs.length:Int):=a6
  have hk0:(0:Int)≤(k:Int):=a6
  have hww:IntKind.i64.wrap (w+1)=w+1:=by rw[wrap_i64] <;> omega
  obtain⟨v,he⟩:=getq hlt
  rw[dropq he,gV] at hgv
  have hput:=mM.put v (w,0)
  unfold plD at hput
  simp only[go_sem,q4,q5,q14,q15,q16,hki,hk0,he,oM,hww,hw]
  refine ac (m-1) a6 ⟨k+1,_,_,a6,hgv,a6,a6,?_⟩
  simp only[go_sem,q1,q4,q14,q15,o1]
  exact⟨⟨_,rfl,hput⟩,fun i hi=>⟨(fr i hi).1,nt ((fr i hi).2)⟩⟩
 have hki:¬(k:Int)<(vs.length:Int):=a6
 obtain rfl:k=vs.length:=a6
 rw[D7,gV] at hgv
 rw[←hgv] at hL
 simp only at hL
 have o1':=o1
 unfold iS gY at o1
 simp only[l6,v7] at o1
 simp only[go_sem,q1,o1,q15,q16,hki,j4]
 refine ai (fun m st=>∃(k:Nat) (pm2:Pl) (w2:Int),m+k=ars.length∧gA (ars.drop k) pm2 w2=gA ars pm w∧0≤w2∧w2≤1000000+4096*k∧st.f 1=.one (.ptr 1001 (st.gen 1001) 0)∧st.f 4=.one (.mp 1012 (st.gen 1012) 208)∧st.f 5=iv .i64 w2∧st.obj 1001=some (iS ⟨vs,ars,fs⟩)∧(∃M,st.obj 1012=some M∧pS M pm2)∧st.f 28=.one (.d (.sl (ars.map arD)))∧st.f 29=iv .i64 ars.length∧st.f 30=iv .i64 k∧
   ∀i,i<1000∨1100≤i→st.gen i=g i∧st.obj i=ob i) ars.length ?_ ?_
 ·refine⟨0,pm,w,rfl,by rw[B3],hw0,a6,?_⟩
  simp only[go_sem,q1,q4,q5,o1]
  exact⟨rfl,⟨M,oM,mM⟩,fr⟩
 clear q1 q4 q5 o1 o1' oM q14 q15 q16 fr mM M hw hlt hki hk hw0 hw1 hgv
 rintro m f g1 ob1 ⟨k,pm2,w2,hk,hgv,hw0,hw1,q1,q4,q5,o1,⟨M,oM,mM⟩,q14,q15,q16,fr⟩
 simp only at q1 q4 q5 o1 oM q14 q15 q16 fr
 have hw:=ae (k:=k) a6
 by_cases hlt:k<ars.length
 ·have hki:(k:Int)<(ars.length:Int):=a6
  have hk0:(0:Int)≤(k:Int):=a6
  obtain⟨⟨v,z⟩,he⟩:=getq hlt
  have hz:=har _ (l4 he)
  simp only at hz
  have hww:IntKind.i64.wrap (w2+z)=w2+z:=by rw[wrap_i64] <;> omega
  rw[dropq he,gA] at hgv
  simp only at hgv
  have hput:=mM.put v (w2,z)
  unfold plD at hput
  simp only[go_sem,q4,q5,q14,q15,q16,hki,hk0,he,arD,oM,hww,hw]
  refine ac (m-1) a6 ⟨k+1,_,_,a6,hgv,a6,a6,?_⟩
  simp only[go_sem,q1,q4,q14,q15,o1]
  exact⟨⟨_,rfl,hput⟩,fun i hi=>⟨nt ((fr i hi).1),nt ((fr i hi).2)⟩⟩
 have hki:¬(k:Int)<(ars.length:Int):=a6
 obtain rfl:k=ars.length:=a6
 rw[D7,gA] at hgv
 rw[←hgv] at hL
 simp only at hL
 have o1':=o1
 unfold iS gY at o1
 simp only[l6,v7] at o1
 simp only[go_sem,q1,o1,q15,q16,hki,j4]
 refine ai (fun m st=>∃(k:Nat) (pm3:Pl),m+k=fs.length∧gF k (fs.drop k) pm3=gF 0 fs pm2∧st.f 4=.one (.mp 1012 (st.gen 1012) 208)∧st.f 5=iv .i64 w2∧(∃M,st.obj 1012=some M∧pS M pm3)∧st.f 47=.one (.d (.sl (fs.map fnD)))∧st.f 48=iv .i64 fs.length∧st.f 49=iv .i64 k∧
   ∀i,i<1000∨1100≤i→st.gen i=g i∧st.obj i=ob i) fs.length ?_ ?_
 ·refine⟨0,pm2,rfl,by rw[B3],?_⟩
  simp only[go_sem,q4,q5]
  exact⟨⟨M,oM,mM⟩,fr⟩
 clear q1 q4 q5 o1 o1' oM q14 q15 q16 fr mM M hw hlt hki hk hgv
 rintro m f g1 ob1 ⟨k,pm3,hk,hgv,q4,q5,⟨M,oM,mM⟩,q14,q15,q16,fr⟩
 simp only at q4 q5 oM q14 q15 q16 fr
 have hw:=ae (k:=k) a6
 by_cases hlt:k<fs.length
 ·have hki:(k:Int)<(fs.length:Int):=a6
  have hk0:(0:Int)≤(k:Int):=a6
  obtain⟨x,he⟩:=getq hlt
  rw[dropq he,gF] at hgv
  have hput:=mM.put x.name ((k:Int),0)
  unfold plD at hput
  simp only[go_sem,q4,q5,q14,q15,q16,hki,hk0,he,fnD,oM,hw]
  refine ac (m-1) a6 ⟨k+1,_,a6,hgv,?_⟩
  simp only[go_sem,q4,q5,q14,q15]
  exact⟨⟨_,rfl,hput⟩,fun i hi=>⟨nt ((fr i hi).1),nt ((fr i hi).2)⟩⟩
 have hki:¬(k:Int)<(fs.length:Int):=a6
 obtain rfl:k=fs.length:=a6
 rw[D7,gF] at hgv
 rw[←hgv] at hL
 subst hL
 simp only[go_sem,q4,q5,q15,q16,hki]
 refine⟨_,ab.refl _,?_⟩
 simp only[go_sem]
 exact⟨rfl,⟨hw0,a6⟩,⟨M,oM,mM⟩,fr⟩
end
section
attribute [local congr] Go.Am.ite_cc
open Go Go.Am Go.Asm
open Go.Src (Ex Stm szE bH szS bu Pl ju dt gV gA gF bb lP CFn Core nB dI ap jj du db eJ)
def cfD (x:CFn):List D:=[.int .i64 x.params,.int .i64 x.slots,.int .i64 x.first,.bool x.word,.sl (x.body.map csD)]
def oB (c:Core):AV:=.agg [.d (.int .i64 c.words),.d (.sl (c.funcs.map cfD))]
def cfC (l:List CFn):List C:=l.flatMap fun a=>(cfD a).map .d
theorem Ih (l:List CFn):(cfC l).length=l.length*5:=by
 induction l with
 |nil=>rfl
 |cons a l ih=>simp only[cfC,C9,j5,j4,cfD,j6,j7] at ih ⊢;omega
theorem Ii (l m:List CFn):cfC (l++m)=cfC l++cfC m:=by simp[cfC]
theorem Ij (e:CFn):cfC [e]=(cfD e).map .d:=by simp[cfC]
theorem Mc {o:cO} (ho:jM o) (p:Src.Prog) (hsz:szP p≤1000000):bW Tryz.prog 3 o 22 [de p] (· = .tup [oB (jj p).1,iv .i64 ((jj p).2:Nat)]):=by
 refine hdG Tryz.func22 rfl [.cell 2 62,.tmp 3] fun b₀ β0 s0 w0 g=>?_
 have hpV:de p=.agg [.d (.sl (p.vars.map fun s=>[.str s])),.d (.sl (p.arrays.map arD)),.d (.sl (p.funcs.map fnD))]:=rfl
 obtain⟨z,hz⟩:∃z,jj p=z:=⟨_,rfl⟩
 rw[hz]
 unfold jj at hz
 have hS:=HX ho p a6
 rw[hpV] at hS ⊢
 simp only[go_sem]
 refine cQ rfl Zd ?_
 rintro _ rfl
 by_cases hs:db p=0
 case neg=>
  rw[if_pos hs] at hz
  subst hz
  have hs2:¬((db p:Nat):Int)=0:=a6
  simp only[go_sem,hs2]
  exact⟨_,⟨_,⟨_,_,rfl,mu [.int .i64 0,.nsl],_,_,rfl,dv _,rfl⟩,rfl⟩,rfl⟩
 rw[if_neg (by simp[hs])] at hz
 have hr:eJ p=true:=by
  unfold db at hs
  split at hs
  ·cases hs
  ·rename_i h;simpa using h
 have har:∀a∈p.arrays,0≤a.2∧a.2≤4096:=by
  unfold eJ at hr
  simp only[s6,x6] at hr
  intro a ha
  have:=hr.2.1 a ha
  unfold Src.iu at this
  simp at this
  omega
 simp only[go_sem,hs]
 refine bN aW rfl (by simp only[go_sem];rw[←hpV];exact CF hsz har) ?_ ?_
 ·exact UP
 rintro r g1 ob1 ⟨rfl,⟨hw0,hw1⟩,⟨M,oM,mM⟩,fr⟩
 have e1:=fr 1 (.inl a8)
 have e2:=fr 2 (.inl a8)
 simp[upd] at e1 e2
 have hfr:∀j,1100≤j→ob1 j=none:=fun j hj=>by rw[(fr j (.inr a6)).2];(try simp only[upd]);(repeat rw[if_neg (by omega)])
 clear fr
 unfold ap at hz
 obtain⟨om,hom⟩:∃x,(bb p).1=x:=⟨_,rfl⟩
 obtain⟨w0',hw0'⟩:∃x,(bb p).2=x:=⟨_,rfl⟩
 rw[hom,hw0'] at hz
 rw[hom] at mM
 rw[hw0'] at hw0 hw1 ⊢
 obtain⟨F,hF⟩:∃F,dI om p.funcs w0'=F:=⟨_,rfl⟩
 rw[hF] at hz
 unfold szP at hsz
 simp only[go_sem,e1.1,e1.2,j4]
 refine iR _ (bV (t:=7) (o:=7) (b:=95) (j:=1) (sz:=5) (off:=0) (cells:=[.d (.int .i64 0),.d .nsl]) Xz Xz rfl a8) (fun m st=>∃(k:Nat) (w:Int) (acc:List CFn),m+k=p.funcs.length∧(acc++(dI om (p.funcs.drop k) w).1,(dI om (p.funcs.drop k) w).2)=F∧acc.length=k∧0≤w∧w≤5000000000+1000000*k∧st.f 2=.one (.ptr 2 (st.gen 2) 0)∧st.f 5=.one (.mp 1012 (st.gen 1012) 208)∧st.f 7=.one (.ptr 7 (st.gen 7) 0)∧st.f 28=.one (.d (.sl (p.funcs.map fnD)))∧st.f 29=iv .i64 p.funcs.length∧st.f 30=iv .i64 k∧st.f 6=iv .i64 w∧st.obj 2=some [.d (.int .i64 0),.d .nsl]∧st.obj 7=some [.d (.int .i64 0),.osl 95 (st.gen 95) 5 0 acc.length]∧st.obj 95=some (cfC acc)∧(∃M,st.obj 1012=some M∧pS M om)∧(∀j,1100≤j→st.obj j=none)) p.funcs.length ?_ ?_
 ·refine⟨0,w0',[],rfl,by rw[B3];exact hF,rfl,hw0,a6,?_⟩
  simp only[St.claimAt]
  simp only[go_sem,e2.1,e2.2]
  exact⟨rfl,⟨M,oM,mM⟩,fun j hj=>nt (hfr j hj)⟩
 clear e1 e2 hfr oM mM M hF
 rintro m f g1 ob1 ⟨k,w,acc,hk,hFk,hacc,hwlo,hwhi,q2,q5,q7,q28,q29,q30,q6,o2,o7,o95,⟨M,oM,mM⟩,hfr⟩
 simp only at q2 q5 q7 q28 q29 q30 q6 o2 o7 o95 oM hfr
 have hwk:=ae (k:=k) a6
 by_cases hlt:k<p.funcs.length
 ·have hki:(k:Int)<(p.funcs.length:Int):=a6
  have hk0:(0:Int)≤(k:Int):=a6
  obtain⟨x,he⟩:=getq hlt
  have hszf:=nO (p:=p) (l4 he)
  unfold szP at hszf
  have hfD:fnD x=[.str x.name,.sl (x.params.map fun s=>[.str s]),.sl (x.locals.map fun s=>[.str s]),.bool x.word,.sl (x.body.map smD)]:=rfl
  have hslots:IntKind.i64.wrap ((x.params.length:Int)+(x.locals.length:Int))=((x.params.length+x.locals.length:Nat):Int):=by rw[wrap_i64] <;> omega
  rw[dropq he,dI] at hFk
  simp only at hFk
  simp only[go_sem,q5,q28,q29,q30,hki,hk0,he,hfD,j4,hslots]
  refine ai (fun m2 st=>∃(n:Nat) (pm:Pl),m2+n=x.params.length∧lP w n (x.params.drop n) pm=lP w 0 x.params []∧st.f 45=.one (.d (.sl (x.params.map fun s=>[.str s])))∧st.f 46=iv .i64 x.params.length∧st.f 47=iv .i64 n∧st.f 9=.one (.ptr 9 (st.gen 9) 0)∧st.f 10=.one (.ptr 10 (st.gen 10) 0)∧st.f 11=iv .i64 ((x.params.length+x.locals.length:Nat):Int)∧st.obj 9=some ((fnD x).map .d)∧st.obj 10=some [.mp 1012 (st.gen 1012) 208,.mp 35 (st.gen 35) 208]∧(∃M,st.obj 35=some M∧pS M pm)∧st.f 2=.one (.ptr 2 (st.gen 2) 0)∧st.f 5=.one (.mp 1012 (st.gen 1012) 208)∧st.f 7=.one (.ptr 7 (st.gen 7) 0)∧st.f 28=.one (.d (.sl (p.funcs.map fnD)))∧st.f 29=iv .i64 p.funcs.length∧st.f 30=iv .i64 k∧st.f 6=iv .i64 w∧st.obj 2=some [.d (.int .i64 0),.d .nsl]∧st.obj 7=some [.d (.int .i64 0),.osl 95 (st.gen 95) 5 0 acc.length]∧st.obj 95=some (cfC acc)∧(∃M,st.obj 1012=some M∧pS M om)∧(∀j,1100≤j→st.obj j=none)) x.params.length ?_ ?_
  ·refine⟨0,[],rfl,by rw[B3],?_⟩
   simp only[go_sem,q2,q5,q7,q28,q29,q30,q6,o2,o7,o95]
   exact⟨rfl,⟨[],rfl,fun s=>rfl⟩,⟨M,oM,mM⟩,fun j hj=>nt (hfr j hj)⟩
  clear q2 q5 q7 q28 q29 q30 q6 o2 o7 o95 oM hfr mM M
  rintro m2 f g1 ob1 ⟨n,pm,hn,hlP,q45,q46,q47,q9,q10,q11,o9,o10,⟨M2,o35,m35⟩,q2,q5,q7,q28,q29,q30,q6,o2,o7,o95,⟨M,oM,mM⟩,hfr⟩
  simp only at q45 q46 q47 q9 q10 q11 o9 o10 o35 q2 q5 q7 q28 q29 q30 q6 o2 o7 o95 oM hfr
  have hwn:=ae (k:=n) a6
  by_cases hlt2:n<x.params.length
  ·have hki2:(n:Int)<(x.params.length:Int):=a6
   have hk02:(0:Int)≤(n:Int):=a6
   obtain⟨v,he2⟩:=getq hlt2
   have hww:IntKind.i64.wrap (w+(n:Int))=w+n:=by rw[wrap_i64] <;> omega
   rw[dropq he2,lP] at hlP
   have hput:=m35.put v (w+n,0)
   unfold plD at hput
   simp only[go_sem,q45,q46,q47,hki2,hk02,he2,q10,o10,o35,q6,hww,hwn]
   refine ac (m2-1) a6 ⟨n+1,_,a6,hlP,?_⟩
   simp only[go_sem,q2,q5,q7,q28,q29,q30,q6,o2,o7,o95,q45,q46,q9,q10,q11,o9,o10]
   exact⟨⟨_,rfl,hput⟩,⟨M,oM,mM⟩,fun j hj=>nt (hfr j hj)⟩
  have hki2:¬(n:Int)<(x.params.length:Int):=a6
  obtain rfl:n=x.params.length:=a6
  rw[D7,lP] at hlP
  have o9':=o9
  rw[hfD] at o9'
  simp only[l6,v7] at o9'
  simp only[go_sem,q9,o9',q46,q47,hki2,j4]
  refine ai (fun m2 st=>∃(n:Nat) (pm2:Pl),m2+n=x.locals.length∧lP (w+x.params.length) n (x.locals.drop n) pm2=lP (w+x.params.length) 0 x.locals pm∧st.f 61=.one (.d (.sl (x.locals.map fun s=>[.str s])))∧st.f 62=iv .i64 x.locals.length∧st.f 63=iv .i64 n∧st.f 9=.one (.ptr 9 (st.gen 9) 0)∧st.f 10=.one (.ptr 10 (st.gen 10) 0)∧st.f 11=iv .i64 ((x.params.length+x.locals.length:Nat):Int)∧st.obj 9=some ((fnD x).map .d)∧st.obj 10=some [.mp 1012 (st.gen 1012) 208,.mp 35 (st.gen 35) 208]∧(∃M,st.obj 35=some M∧pS M pm2)∧st.f 2=.one (.ptr 2 (st.gen 2) 0)∧st.f 5=.one (.mp 1012 (st.gen 1012) 208)∧st.f 7=.one (.ptr 7 (st.gen 7) 0)∧st.f 28=.one (.d (.sl (p.funcs.map fnD)))∧st.f 29=iv .i64 p.funcs.length∧st.f 30=iv .i64 k∧st.f 6=iv .i64 w∧st.obj 2=some [.d (.int .i64 0),.d .nsl]∧st.obj 7=some [.d (.int .i64 0),.osl 95 (st.gen 95) 5 0 acc.length]∧st.obj 95=some (cfC acc)∧(∃M,st.obj 1012=some M∧pS M om)∧(∀j,1100≤j→st.obj j=none)) x.locals.length ?_ ?_
  ·refine⟨0,pm,rfl,by rw[B3],?_⟩
   simp only[go_sem,q2,q5,q7,q28,q29,q30,q6,o2,o7,o95,q9,q10,q11,o9,o10]
   exact⟨⟨M2,o35,m35⟩,⟨M,oM,mM⟩,hfr⟩
  clear q2 q5 q7 q28 q29 q30 q6 o2 o7 o95 oM hfr mM M q45 q46 q47 q9 q10 q11 o9 o9' o10 o35 m35 M2 hwn hlt2 hki2 hn
  rintro m2 f g1 ob1 ⟨n,pm2,hn,hlP2,q45,q46,q47,q9,q10,q11,o9,o10,⟨M2,o35,m35⟩,q2,q5,q7,q28,q29,q30,q6,o2,o7,o95,⟨M,oM,mM⟩,hfr⟩
  simp only at q45 q46 q47 q9 q10 q11 o9 o10 o35 q2 q5 q7 q28 q29 q30 q6 o2 o7 o95 oM hfr
  have hwn:=ae (k:=n) a6
  rw[hfD] at o9
  simp only[l6,v7] at o9
  by_cases hlt2:n<x.locals.length
  ·have hki2:(n:Int)<(x.locals.length:Int):=a6
   have hk02:(0:Int)≤(n:Int):=a6
   obtain⟨v,he2⟩:=getq hlt2
   have hww1:IntKind.i64.wrap (w+(x.params.length:Int))=w+x.params.length:=by rw[wrap_i64] <;> omega
   have hww:IntKind.i64.wrap (w+(x.params.length:Int)+(n:Int))=w+x.params.length+n:=by rw[wrap_i64] <;> omega
   rw[dropq he2,lP] at hlP2
   have hput:=m35.put v (w+x.params.length+n,0)
   unfold plD at hput
   simp only[go_sem,q45,q46,q47,hki2,hk02,he2,q9,o9,j4,q10,o10,o35,q6,hww1,hww,hwn]
   refine ac (m2-1) a6 ⟨n+1,_,a6,hlP2,?_⟩
   simp only[go_sem,q2,q5,q7,q28,q29,q30,q6,o2,o7,o95,q45,q46,q9,q10,q11,o9,o10,hfD,l6,v7]
   exact⟨⟨_,rfl,hput⟩,⟨M,oM,mM⟩,fun j hj=>nt (hfr j hj)⟩
  have hki2:¬(n:Int)<(x.locals.length:Int):=a6
  obtain rfl:n=x.locals.length:=a6
  rw[D7,lP] at hlP2
  rw[hlP] at hlP2
  have hst:=Ig (lo:=om) (li:=pm2) (io:=1012) (ii:=35) (go:=g1 1012) (gi:=g1 35) (bu x.body) x.body (j8 _) a6
  simp only[go_sem,q46,q47,hki2]
  refine gq aU mixed aW [94,95,7] [([7],[0],[],false),([80],[0],[],false),([9],[],[],false),([82],[],[],false),([83],[],[],false),([11],[],[],false),([6],[],[],false),([9],[],[],false),([87],[],[],false),([10],[],[],false),([9],[],[],false),([90],[],[],false),([89,91],[],[],false),([84,85,86,88,92],[],[],false),([93],[],[0],false),([81,94],[],[1],false),([7],[],[],false),([96,95],[],[],true)] 3 rfl b9 rfl a8 ?_
  simp only[go_sem]
  iterate 12 (apply aO;(case hg=>first|exact l7|exact⟨_,rfl,by decide,rfl⟩);(case h1=>intro fa ga oa K' hK;simp only[go_sem,q7,o7,q9,o9,q11,q6,q10,o10,j4] at hK ⊢;exact hK))
  apply aO (v:=qE (du om pm2 x.body))
  case hg=>exact l7
  case h1=>
   intro fa ga oa K' hK
   simp only[go_sem,qE] at hK ⊢
   refine oZ aW rfl hst Yz 1100 a8 a8 (fun i hi=>nt (hfr i a6)) ⟨⟨M,oM,mM⟩,⟨M2,o35,m35⟩,rfl,rfl⟩ ?_
   unfold qE
   exact Vn
  (apply aO;(case hg=>first|exact l7|exact⟨_,rfl,by decide,rfl⟩);(case h1=>intro fa ga oa K' hK;simp only[go_sem,qE] at hK ⊢;exact hK))
  (apply eC;(case hg=>first|exact l7|exact⟨_,rfl,by decide,rfl⟩);(case h1=>intro fa ga oa K' hK;simp only[go_sem,aD] at hK ⊢;exact hK))
  have hcl:=Ih acc
  have hcf:nB om x w=⟨x.params.length,((x.params.length+x.locals.length:Nat):Int),w,x.word,du om pm2 x.body⟩:=by
   unfold nB
   rw[←hlP2]
   rfl
  refine eC (a:=1) (v:=.one (.osl 95 (nxC (apC 123 (g1 95) 0) (g1 95)) 5 0 (acc.length+1))) (x:=nxC (apC 123 (g1 95) 0) (g1 95)) (y:=some (cfC (acc++[nB om x w]))) l7 (fun fa ga oa K' hK=>?_) ?_
  ·have e1:List.take (acc.length*5) (cfC acc)++(cfD (nB om x w)).map .d=cfC (acc++[nB om x w]):=by
    rw[l5 a6,Ii,Ij]
   rw[hcf] at e1 hK
   simp only[cfD,l6,v7] at e1
   simp only[go_sem,aD,o95,hcl] at hK ⊢
   exact V4
  (apply aO;(case hg=>first|exact l7|exact⟨_,rfl,by decide,rfl⟩);(case h1=>intro fa ga oa K' hK;simp only[go_sem,q7,o7] at hK ⊢;exact hK))
  refine gt l7 ?_
  intro K' hK'
  simp only[go_sem,q7,o7]
  refine hK' _ ?_
  clear hK' K'
  have hwl:IntKind.i64.wrap (w+((x.params.length+x.locals.length:Nat):Int))=w+((x.params.length:Int)+(x.locals.length:Int)):=by rw[wrap_i64] <;> omega
  simp only[go_sem,q6,q11,q30,hwl,hwk]
  refine ac (m-1) a6 ⟨k+1,w+((x.params.length:Int)+(x.locals.length:Int)),acc++[nB om x w],a6,by rw[←hFk,r0];rfl,by rw[j5];simp;omega,a6,a6,?_⟩
  simp only[go_sem,q2,q5,q7,q28,q29,o2,j5,j6,j7]
  exact⟨⟨M,oM,mM⟩,fun j hj=>nt (hfr j hj)⟩
 have hki:¬(k:Int)<(p.funcs.length:Int):=a6
 obtain rfl:k=p.funcs.length:=a6
 rw[D7,dI] at hFk
 simp only[l9] at hFk
 subst hFk
 simp only at hz
 by_cases hw:32768<w
 ·rw[if_pos hw] at hz
  subst hz
  simp only[go_sem,q29,q30,hki,q6,hw,q2,o2]
  exact⟨_,⟨_,⟨_,_,rfl,mu [.int .i64 0,.nsl],_,_,rfl,dv _,rfl⟩,rfl⟩,rfl⟩
 rw[if_neg hw] at hz
 subst hz
 simp only[go_sem,q29,q30,hki,q6,hw,q2,o2,q7,o7]
 refine⟨_,⟨_,⟨_,_,rfl,⟨[.int .i64 w,.sl (acc.map cfD)],rfl,fun i c hc=>?_,rfl⟩,_,_,rfl,dv _,rfl⟩,rfl⟩,rfl⟩
 match i,hc with
 |0,hc=>cases hc;exact⟨_,rfl,.d _⟩
 |1,hc=>
   cases hc
   refine⟨_,rfl,dK (s:=⟨_,_,_⟩) rfl acc cfD ?_ rfl (fun a _ y hy=>?_) (fun _ _=>rfl) rfl⟩
   ·simp[upd]
    exact o95
   ·simp only[cfD,y2,z7,D6] at hy
    rcases hy with rfl|rfl|rfl|rfl|rfl <;> rfl
end
end Go.Proofs.YthnomjfdcidgbaaGreatDoor
namespace Go.Lower
section
section
variable {w:Int}{ps:Sig}{f:Nat}{word:Bool}{T:Nat→Option Int}
variable {at':Nat}{a b n d:Int}
theorem gL{x:Ins}{d:Int} (t p:Int) (h1:takes ps word x=some (t,p)) (h2:0≤t) (h3:t≤d) (h4:x.op≠8∧x.op≠9∧x.op≠11) (h5:T (at'+1)=some (d-t+p)):OkI ps word T at' x d:=by
 refine⟨t,p,h1,h2,h3,fun h=>absurd h h4.2.2,fun k hk=>?_⟩
 simp only[next,h4.1,h4.2.1,h4.2.2,A4,C5] at hk
 exact⟨at'+1,hk,h5⟩
theorem tS (k:Nat) (ha:a=(k:Int)) (hd:0≤d) (h:T k=some d):OkI ps word T at' ⟨8,a,b,n⟩ d:=by
 refine⟨0,0,rfl,E9 _,hd,fun h=>absurd h a7,fun k' hk=>?_⟩
 simp only[next,A9,C5] at hk
 exact⟨k,by rw[hk,ha],by rw[h];simp⟩
theorem qd (k:Nat) (ha:a=(k:Int)) (hd:0≤d) (h:T k=some d) (h1:T (at'+1)=some d):OkI ps word T at' ⟨9,a,b,n⟩ (d+1):=by
 refine⟨1,0,rfl,a8,a6,fun h=>absurd h a7,fun k' hk=>?_⟩
 simp only[next,show ¬((9:Int)=8) by decide,A4,A9,y2,z7,D6] at hk
 rcases hk with rfl|rfl
 ·exact⟨at'+1,rfl,by rw[h1];simp⟩
 ·exact⟨k,ha,by rw[h];simp⟩
theorem IW {lv kind op num slot size d:Int}{n:Nat} (h:okE w ps f lv kind op num slot size n) (hk:¬(kind=8∨kind=9)):(one kind op num slot size d).length=1:=by
 obtain⟨_,_,_,_,_,h⟩:=h
 rcases h with⟨h|h,_⟩|⟨h,_⟩|⟨h,_⟩|⟨h,_⟩|⟨h,_⟩|⟨h,_⟩|⟨h,_⟩
 any_goals (subst h;rfl)
 exact absurd h hk
theorem FT {lv kind op num slot size d:Int}{n at':Nat} (h:okE w ps f lv kind op num slot size n) (hk:¬(kind=8∨kind=9)) (hd:0≤d) (hT:T (at'+1)=some (d+1)) :
  (one kind op num slot size (d+n)).length=1∧Good ps word T at' (one kind op num slot size (d+n))∧(Seg T at' (one kind op num slot size (d+n))→T at'=some (d+n)):=by
 obtain⟨_,_,_,_,_,h⟩:=h
 rcases h with⟨h|h,hn⟩|⟨h,_,hn⟩|⟨h,_,_,_,hn⟩|⟨h,k,hs,hkf,hps⟩|⟨h,_,_,hn⟩|⟨h,hn⟩|⟨h,_⟩
 ·exact V3
 ·exact V3
 ·exact V3
 ·exact Xc
 ·subst h hs
  refine⟨rfl,⟨gL n 1 ?_ a6 a6 a7 (by rw[hT];congr 1;omega),trivial⟩,fun h=>h.1⟩
  have:¬((k:Nat):Int)<0:=a6
  simp[takes,hps,this]
 ·subst h hn
  exact⟨rfl,⟨gL 2 1 rfl a8 a6 a7 (by rw[hT];congr 1;omega),trivial⟩,fun h=>h.1⟩
 ·exact Xc
 ·exact absurd h hk
theorem AC {kind d:Int}{c0:Code}{c1:Nat→Code} (hd:0≤d)
  (h0:Seg T at' c0→T (at'+c0.length)=some (d+1)→T at'=some d∧Good ps word T at' c0)
  (h1:∀r,Seg T r (c1 r)→T (r+(c1 r).length)=some (d+1)→T r=some d∧Good ps word T r (c1 r))
  (hs:Seg T at' (nz at' d kind c0 c1)) (hT:T (at'+(nz at' d kind c0 c1).length)=some (d+1)):T at'=some d∧Good ps word T at' (nz at' d kind c0 c1):=by
 unfold nz at hs hT ⊢
 simp only at hs hT ⊢
 rw[ir,ir] at hs
 obtain⟨s0,sn,hs⟩:=hs
 simp only[Seg] at hs
 obtain⟨tz,tp,tj,hs⟩:=hs
 rw[ir] at hs
 obtain⟨s1,t1,t2,_⟩:=hs
 have hnl:(jT kind d).length=0∧jT kind d=[]∨(jT kind d).length=1∧jT kind d=[(⟨7,0,0,0⟩,d+1)]:=by
  unfold jT;split
  ·exact .inr ⟨rfl,rfl⟩
  ·exact .inl ⟨rfl,rfl⟩
 generalize hr:at'+c0.length+(jT kind d).length=r at *
 have e3:r+1+1+1=r+3:=a6
 rw[e3] at s1 t1 t2
 obtain⟨hr3,g1⟩:=h1 (r+3) s1 t1
 have hTe:T (r+3+(c1 (r+3)).length+2)=some (d+1):=by
  rw[←hT];congr 1
  simp only[j5,j6,j7];omega
 have ht0:T (at'+c0.length)=some (d+1):=by
  rcases hnl with⟨hl,_⟩|⟨hl,he⟩
  ·rw[←tz];congr 1;omega
  ·rw[he] at sn;exact sn.1
 obtain⟨ha,g0⟩:=h0 s0 ht0
 refine⟨ha,?_⟩
 rw[fD,fD]
 refine⟨g0,?_,?_⟩
 ·rcases hnl with⟨_,he⟩|⟨hl,he⟩
  ·rw[he];trivial
  ·rw[he]
   exact⟨gL 1 1 rfl a8 a6 a7 (by rw[show at'+c0.length+1=r by omega,tz];congr 1;omega),trivial⟩
 ·rw[hr]
  refine⟨qd (r+3) rfl hd hr3 tp,gL 0 1 rfl a8 hd a7 (by rw[tj];congr 1;omega),tS (r+3+(c1 (r+3)).length+2) rfl a6 hTe,?_⟩
  rw[e3,fD]
  exact⟨g1,gL 1 1 rfl a8 a6 a7 (by rw[t2];congr 1;omega),gL 1 1 rfl a8 a6 a7 (by rw[show r+3+(c1 (r+3)).length+1+1=r+3+(c1 (r+3)).length+2 by omega,hTe];congr 1;omega),trivial⟩
mutual
theorem wO:∀(e:Ex) {lv d:Int}{at':Nat},rE w ps f lv e→0≤d→Seg T at' (cE at' d e)→T (at'+(cE at' d e).length)=some (d+1)→T at'=some d∧Good ps word T at' (cE at' d e)
 |.mk kind op num slot size kids,lv,d,at',h,hd,hs,hT=>by
   rw[rE] at h
   rw[cE] at hs hT ⊢
   by_cases hk:kind=8∨kind=9
   ·rw[if_pos hk] at hs hT ⊢
    have hn:kids.length=2:=by
     obtain⟨⟨_,_,_,_,_,h⟩,_⟩:=h
     omega
    exact FU kids hn h.2 hd hs hT
   ·rw[if_neg hk] at hs hT ⊢
    rw[ir] at hs
    obtain⟨hl,hg,hse⟩:=FT (T:=T) (word:=word) (at':=at'+(cEs at' d kids).length) h.1 hk hd (by rw[←hT,j5,IW h.1 hk,B6])
    have:=tT kids h.2 hd hs.1 (hse hs.2)
    exact⟨this.1,fD.2 ⟨this.2,hg⟩⟩
theorem tT:∀(l:List Ex) {lv d:Int}{at':Nat},rEs w ps f lv l→0≤d→Seg T at' (cEs at' d l)→T (at'+(cEs at' d l).length)=some (d+l.length)→T at'=some d∧Good ps word T at' (cEs at' d l)
 |[],lv,d,at',h,hd,hs,hT=>by
   rw[cEs] at hT ⊢
   exact⟨by simpa using hT,trivial⟩
 |e::l,lv,d,at',h,hd,hs,hT=>by
   rw[rEs] at h
   rw[cEs] at hs hT ⊢
   rw[ir] at hs
   obtain⟨t1,g1⟩:=tT l h.2 a6 hs.2 (by rw[j5,←B6] at hT;rw[hT];congr 1;simp only[j6];omega)
   obtain⟨t0,g0⟩:=wO e h.1 hd hs.1 t1
   exact⟨t0,fD.2 ⟨g0,g1⟩⟩
theorem FU:∀(l:List Ex) {lv d kind:Int}{at':Nat},l.length=2→rEs w ps f lv l→0≤d→Seg T at' (cAO at' d kind l)→T (at'+(cAO at' d kind l).length)=some (d+1)→T at'=some d∧Good ps word T at' (cAO at' d kind l)
 |[],lv,d,kind,at',hn,h,hd,hs,hT=>by cases hn
 |e::l,lv,d,kind,at',hn,h,hd,hs,hT=>by
   rw[rEs] at h
   rw[cAO] at hs hT ⊢
   exact AC hd (fun s t=>wO e h.1 hd s t) (fun r s t=>vu l (by simpa using hn) h.2 hd s t) hs hT
theorem vu:∀(l:List Ex) {lv d:Int}{at':Nat},l.length=1→rEs w ps f lv l→0≤d→Seg T at' (oq at' d l)→T (at'+(oq at' d l).length)=some (d+1)→T at'=some d∧Good ps word T at' (oq at' d l)
 |[],lv,d,at',hn,h,hd,hs,hT=>by cases hn
 |e::l,lv,d,at',hn,h,hd,hs,hT=>by
   rw[rEs] at h
   rw[oq] at hs hT ⊢
   exact wO e h.1 hd hs hT
end
end
section
variable {w:Int}{ps:Sig}{f:Nat}{word:Bool}{T:Nat→Option Int}
def leave (word:Bool):Code:=if word then [(⟨1,0,0,0⟩,0),(⟨11,0,0,0⟩,1)] else [(⟨11,0,0,0⟩,0)]
def kM (at':Nat) (c0:Code) (c1:Nat→Code):Code:=
 c0++(⟨9,(at'+c0.length+1+(c1 (at'+c0.length+1)).length+1:Nat),0,0⟩,1)::(c1 (at'+c0.length+1)++[(⟨8,(at':Int),0,0⟩,0)])
def ifC (at':Nat) (c1:Nat→Code) (has:Bool) (c2:Nat→Code):Code:=
 if has then
  let r:=at'+1+(c1 (at'+1)).length+1
  (⟨9,(r:Int),0,0⟩,1)::(c1 (at'+1)++(⟨8,(r+(c2 r).length:Nat),0,0⟩,0)::c2 r)
 else(⟨9,(at'+1+(c1 (at'+1)).length:Nat),0,0⟩,1)::c1 (at'+1)
def rR (word:Bool) (kind slot size:Int) (n:Nat):Code:=
 if kind=1 then [(⟨3,slot,0,0⟩,n)] else if kind=2 then [(⟨5,slot,size,0⟩,n)] else if kind=3 then [(⟨13,0,0,0⟩,n)]
 else if kind=6 then [(⟨10,slot,0,0⟩,n)] else if kind=7 then(if n=0 then leave word else [(⟨11,0,0,0⟩,n)]) else []
mutual
def cS (word:Bool) (at':Nat):Stm→Code
 |.mk kind slot size e th el=>
   if kind=5 then kM at' (oq at' 0 e) (fun r=>cSs word r th)
   else cEs at' 0 e++(if kind=4 then ifC (at'+(cEs at' 0 e).length) (fun r=>cSs word r th) (!el.isEmpty) (fun r=>cSs word r el) else rR word kind slot size e.length)
def cSs (word:Bool) (at':Nat):List Stm→Code
 |[]=>[]
 |e::l=>cS word at' e++cSs word (at'+(cS word at' e).length) l
end
variable {at':Nat}
theorem tU (hs:Seg T at' (leave word)):T at'=some 0∧Good ps word T at' (leave word):=by
 cases word with
 |true=>
   obtain⟨h1,h2,_⟩:=hs
   exact⟨h1,gL 0 1 rfl a8 a8 a7 h2,⟨1,0,rfl,a8,a8,fun _=>rfl,fun k hk=>by simp[next] at hk⟩,trivial⟩
 |false=>
   obtain⟨h1,_⟩:=hs
   exact⟨h1,⟨0,0,rfl,a8,a8,fun _=>rfl,fun k hk=>by simp[next] at hk⟩,trivial⟩
theorem CY {lv kind slot size:Int}{n nt ne at':Nat} (h:okS w ps f word lv kind slot size n nt ne) (h4:kind≠4) (h5:kind≠5) (hs:Seg T at' (rR word kind slot size n)) (hT:T (at'+(rR word kind slot size n).length)=some 0) :
  T at'=some (n:Int)∧Good ps word T at' (rR word kind slot size n):=by
 obtain⟨_,_,_,_,_,h⟩:=h
 rcases h with⟨h,_,hn⟩|⟨h,_,_,_,hn⟩|⟨h,hn⟩|⟨h,k,hsl,hkf,hps⟩|⟨h,hn⟩
 ·subst h hn
  exact⟨hs.1,gL 1 0 rfl a8 a8 a7 hT,trivial⟩
 ·subst h hn
  exact⟨hs.1,gL 2 0 rfl a8 a8 a7 hT,trivial⟩
 ·subst hn
  rcases h with h|h|h
  ·subst h
   exact⟨hs.1,gL 1 0 rfl a8 a8 a7 hT,trivial⟩
  ·exact absurd h h4
  ·exact absurd h h5
 ·subst h hsl
  refine⟨hs.1,gL n 0 ?_ a6 a6 a7 (by rw[show at'+1=at'+(rR word 6 (k:Int) size n).length from rfl,hT];congr 1;omega),trivial⟩
  have:¬((k:Nat):Int)<0:=a6
  simp[takes,hps,this]
 ·subst h
  rcases hn with hn|⟨hw,hn⟩
  ·subst hn
   exact tU hs
  ·subst hw hn
   exact⟨hs.1,⟨1,0,rfl,a8,a8,fun _=>rfl,fun k hk=>by simp[next] at hk⟩,trivial⟩
theorem yG{c0:Code}{c1:Nat→Code}
  (h0:Seg T at' c0→T (at'+c0.length)=some 1→T at'=some 0∧Good ps word T at' c0)
  (h1:∀r,Seg T r (c1 r)→T (r+(c1 r).length)=some 0→T r=some 0∧Good ps word T r (c1 r))
  (hs:Seg T at' (kM at' c0 c1)) (hT:T (at'+(kM at' c0 c1).length)=some 0):T at'=some 0∧Good ps word T at' (kM at' c0 c1):=by
 unfold kM at hs hT ⊢
 rw[ir] at hs
 obtain⟨s0,tz,hs⟩:=hs
 rw[ir] at hs
 obtain⟨s1,tj,_⟩:=hs
 obtain⟨ha,g0⟩:=h0 s0 tz
 obtain⟨hr,g1⟩:=h1 _ s1 tj
 refine⟨ha,fD.2 ⟨g0,qd _ rfl a8 ?_ hr,fD.2 ⟨g1,tS at' rfl a8 ha,trivial⟩⟩⟩
 rw[←hT];congr 1
 simp only[j5,j6,j7];omega
theorem FV{has:Bool}{c1 c2:Nat→Code}
  (h1:∀r,Seg T r (c1 r)→T (r+(c1 r).length)=some 0→T r=some 0∧Good ps word T r (c1 r))
  (h2:∀r,Seg T r (c2 r)→T (r+(c2 r).length)=some 0→T r=some 0∧Good ps word T r (c2 r))
  (hs:Seg T at' (ifC at' c1 has c2)) (hT:T (at'+(ifC at' c1 has c2).length)=some 0):T at'=some 1∧Good ps word T at' (ifC at' c1 has c2):=by
 unfold ifC at hs hT ⊢
 cases has with
 |false=>
   simp only[B8,A4] at hs hT ⊢
   obtain⟨tz,s1⟩:=hs
   have hT':T (at'+1+(c1 (at'+1)).length)=some 0:=by rw[←hT];congr 1;simp only[j6];omega
   obtain⟨hr,g1⟩:=h1 _ s1 hT'
   exact⟨tz,qd _ rfl a8 hT' hr,g1⟩
 |true=>
   simp only[A9] at hs hT ⊢
   obtain⟨tz,hs⟩:=hs
   rw[ir] at hs
   obtain⟨s1,tj,s2⟩:=hs
   generalize hr:at'+1+(c1 (at'+1)).length+1=r at *
   have hT':T (r+(c2 r).length)=some 0:=by rw[←hT];congr 1;simp only[j6,j5];omega
   obtain⟨hr1,g1⟩:=h1 _ s1 tj
   obtain⟨hr2,g2⟩:=h2 _ s2 hT'
   refine⟨tz,qd _ rfl a8 hr2 hr1,fD.2 ⟨g1,tS _ rfl a8 hT',?_⟩⟩
   rw[hr];exact g2
mutual
theorem IX:∀(s:Stm) {lv:Int}{at':Nat},rS w ps f word lv s→Seg T at' (cS word at' s)→T (at'+(cS word at' s).length)=some 0→T at'=some 0∧Good ps word T at' (cS word at' s)
 |.mk kind slot size e th el,lv,at',h,hs,hT=>by
   rw[rS] at h
   obtain⟨hok,he,hth,hel⟩:=h
   rw[cS] at hs hT ⊢
   by_cases h5:kind=5
   ·rw[if_pos h5] at hs hT ⊢
    have hn:e.length=1:=by
     obtain⟨_,_,_,_,_,h⟩:=hok
     omega
    exact yG (fun s t=>vu e hn he a8 s t) (fun r s t=>nA th hth s t) hs hT
   ·rw[if_neg h5] at hs hT ⊢
    rw[ir] at hs
    obtain⟨s0,s1⟩:=hs
    rw[j5,←B6] at hT
    have key:T (at'+(cEs at' 0 e).length)=some (e.length:Int)∧Good ps word T (at'+(cEs at' 0 e).length) (if kind=4 then ifC (at'+(cEs at' 0 e).length) (fun r=>cSs word r th) (!el.isEmpty) (fun r=>cSs word r el) else rR word kind slot size e.length):=by
     by_cases h4:kind=4
     ·rw[if_pos h4] at s1 hT ⊢
      have hn:e.length=1:=by
       obtain⟨_,_,_,_,_,h⟩:=hok
       omega
      rw[hn]
      exact FV (fun r s t=>nA th hth s t) (fun r s t=>nA el hel s t) s1 hT
     ·rw[if_neg h4] at s1 hT ⊢
      exact CY hok h4 h5 s1 hT
    obtain⟨t0,g0⟩:=tT e he (E9 0) s0 (by rw[key.1];congr 1;omega)
    exact⟨t0,fD.2 ⟨g0,key.2⟩⟩
theorem nA:∀(l:List Stm) {lv:Int}{at':Nat},rSs w ps f word lv l→Seg T at' (cSs word at' l)→T (at'+(cSs word at' l).length)=some 0→T at'=some 0∧Good ps word T at' (cSs word at' l)
 |[],lv,at',h,hs,hT=>by
   rw[cSs] at hT ⊢
   exact⟨by simpa using hT,trivial⟩
 |e::l,lv,at',h,hs,hT=>by
   rw[rSs] at h
   rw[cSs] at hs hT ⊢
   rw[ir] at hs
   rw[j5,←B6] at hT
   obtain⟨t1,g1⟩:=nA l h.2 hs.2 hT
   obtain⟨t0,g0⟩:=IX e h.1 hs.1 t1
   exact⟨t0,fD.2 ⟨g0,g1⟩⟩
end
def codeOf (word:Bool) (body:List Stm):Code:=cSs word 0 body++leave word
theorem yH:∀(c pre:Code),Seg (fun k=>((pre++c)[k]?).map Prod.snd) pre.length c
 |[],_=>trivial
 |(x,d)::c,pre=>by
   refine⟨a7,?_⟩
   have:=yH c (pre++[(x,d)])
   exact W0
theorem yI {body:List Stm} (h:rSs w ps f word 1 body) :
  let T:=fun k=>((codeOf word body)[k]?).map Prod.snd
  T 0=some 0∧Good ps word T 0 (codeOf word body):=by
 intro T
 have hs:Seg T 0 (codeOf word body):=yH (codeOf word body) []
 unfold codeOf at hs ⊢
 rw[ir] at hs
 obtain⟨hl,gl⟩:=tU (ps:=ps) hs.2
 obtain⟨h0,g0⟩:=nA body h hs.1 hl
 exact⟨h0,fD.2 ⟨g0,gl⟩⟩
end
section
variable {w:Int}{ps:Sig}{f:Nat}{word:Bool}{T:Nat→Option Int}
theorem iY:∀{c:Code}{at' i:Nat}{x:Ins}{d:Int},Good ps word T at' c→c[i]? = some (x,d)→OkI ps word T (at'+i) x d
 |(y,e)::c,at',0,x,d,h,hi=>by cases hi;exact h.1
 |(y,e)::c,at',i+1,x,d,h,hi=>by
   have:=iY (i:=i) h.2 YB
   rwa [show at'+(i+1)=at'+1+i by omega]
theorem IY {body:List Stm} (h:rSs w ps f word 1 body) {i:Nat}{x:Ins}{d:Int} (hi:(codeOf word body)[i]? = some (x,d)) (hj:x.op=8∨x.op=9):0≤x.a∧x.a<((codeOf word body).length:Int):=by
 obtain⟨t,p,_,_,_,_,hn⟩:=iY (yI h).2 hi
 obtain⟨k,hk,hT⟩:=hn x.a (by unfold next;rcases hj with hj|hj <;> simp[hj])
 have hkl:k<(codeOf word body).length:=by
  rcases S8 k (codeOf word body).length with h|h
  ·exact h
  ·simp only[A5 h,F1] at hT;cases hT
 omega
def Inv (T:Nat→Option Int) (n:Nat) (out:List Int) (todo:List Nat):Prop:=
 out.length=n∧(∀k v,out[k]? = some v→v = -1∨(T k=some v∧0≤v))∧∀a∈todo,∃v,out[a]? = some v∧T a=some v∧0≤v
def left (out:List Int):Nat:=out.countP (· < 0)
theorem kN:∀{out:List Int}{k:Nat}{v x:Int},out[k]? = some v→v<0→0≤x→left (out.set k x)+1=left out
 |a::out,0,v,x,h,hv,hx=>by
   cases h
   have:¬x<0:=a6
   simp[left,hv,this]
 |a::out,k+1,v,x,h,hv,hx=>by
   have:=kN (out:=out) (k:=k) Yl hv hx
   simp only[left,N3,S7] at *
   omega
variable {out:List Int}{todo:List Nat}{deep v:Int}
theorem Inv.seen {n k:Nat} (h:Inv T n out todo) (hT:T k=some deep) (hv:out[k]? = some v):v<0∨v=deep:=by
 rcases h.2.1 k v hv with h|⟨h,_⟩
 ·exact .inl a6
 ·rw[h] at hT;cases hT;exact .inr rfl
theorem Inv.find {n k:Nat} (h:Inv T n out todo) (hT:T k=some deep) (h0:0≤deep) (hv:out[k]? = some v) (hn:v<0) :
  Inv T n (out.set k deep) (todo++[k])∧left (out.set k deep)+(todo++[k]).length=left out+todo.length:=by
 have hk:=(l0.1 hv).1
 refine⟨⟨by simp[h.1],fun j u hj=>?_,fun a ha=>?_⟩,?_⟩
 ·rw[C6] at hj
  by_cases hjk:k=j
  ·subst hjk;rw[if_pos rfl,if_pos hk] at hj;cases hj;exact .inr ⟨hT,h0⟩
  ·rw[if_neg hjk] at hj;exact h.2.1 j u hj
 ·rcases C8.1 ha with ha|ha
  ·obtain⟨u,hu,h2,h3⟩:=h.2.2 a ha
   by_cases hak:k=a
   ·subst hak;rw[hu] at hv;cases hv;omega
   ·exact⟨u,by rw[C6,if_neg hak];exact hu,h2,h3⟩
  ·obtain rfl:a=k:=by simpa using ha
   exact⟨deep,by rw[C6,if_pos rfl,if_pos hk],hT,h0⟩
 ·have:=kN hv hn h0
  simp only[j5,j6,j7];omega
end
end
end Go.Lower
namespace Go.Proofs.YthnomjfdcidgbaaGreatDoor.Low
section
open Go Go.Am Go.Lower
mutual
def lr:Ex→Nat
 |.mk _ _ _ _ _ kids=>iA kids
def iA:List Ex→Nat
 |[]=>0
 |e::l=>1+lr e+iA l
end
theorem lX:∀l:List Ex,iA l=l.length+(l.map lr).sum
 |[]=>by simp[iA]
 |e::l=>by simp only[iA,lX l,j6,l6,E0];omega
def pb (l:List Ex) (k:Nat):Nat:=l.length+((l.take k).map lr).sum
theorem CJ (l:List Ex) (k:Nat):pb l k≤iA l:=by
 rw[lX,pb]
 conv=>rhs;rw[←G2 k l]
 simp only[A3,J3,j5,D2,A2];omega
theorem xX {l:List Ex}{k:Nat}{e:Ex} (h:l[k]? = some e):pb l (k+1)=pb l k+lr e:=by
 simp only[pb,A8,h,H4,A3,J3,l6,v7,E0,Q7];omega
mutual
def mv:Stm→Nat
 |.mk _ _ _ e th el=>iA e+eH th+eH el
def eH:List Stm→Nat
 |[]=>0
 |e::l=>1+mv e+eH l
end
theorem pd:∀l:List Stm,eH l=l.length+(l.map mv).sum
 |[]=>by simp[eH]
 |e::l=>by simp only[eH,pd l,j6,l6,E0];omega
def zX (l:List Stm) (k:Nat):Nat:=l.length+((l.take k).map mv).sum
theorem Il (l:List Stm) (k:Nat):zX l k≤eH l:=by
 rw[pd,zX]
 conv=>rhs;rw[←G2 k l]
 simp only[A3,J3,j5,D2,A2];omega
theorem CK {l:List Stm}{k:Nat}{e:Stm} (h:l[k]? = some e):zX l (k+1)=zX l k+mv e:=by
 simp only[zX,A8,h,H4,A3,J3,l6,v7,E0,Q7];omega
theorem Fc (l:List Stm):(oY l).length=l.length:=by rw[np,j4]
end
section
attribute [local congr] Go.Am.ite_cc
open Go Go.Am Go.Lower
section
def wF (x:Ins):List C:=[.d (.int .i64 x.op),.d (.int .i64 x.a),.d (.int .i64 x.b),.d (.int .u32 x.n)]
def eY (l:List Ins):List C:=l.flatMap wF
theorem CO:eY []=[]:=rfl
theorem pg (x:Ins) (l:List Ins):eY (x::l)=wF x++eY l:=rfl
theorem CP (a b:List Ins):eY (a++b)=eY a++eY b:=by simp[eY]
theorem iI:∀l:List Ins,(eY l).length=l.length*4
 |[]=>rfl
 |x::l=>by rw[pg,j5,iI l];simp only[wF,j6,j7];omega
theorem vo:∀(pre:List Ins) (x:Ins) (post:List Ins) (n:Int),(eY (pre++x::post)).set (pre.length*4+1) (.d (.int .i64 n))=eY (pre ++ { x with a:=n }::post)
 |[],x,post,n=>rfl
 |y::pre,x,post,n=>by
   rw[A0,pg,A0,pg,←vo pre x post n]
   rw[J2 _ _ (by simp only[wF,j6,j7];omega)]
   congr 2
   simp only[wF,j6,j7];omega
variable {word:Bool}{code:List Ins}{g0 g:Nat→Nat}{ob0 ob:Obs}{s:St}{K K2 T B:Nat}{res:List Nat}{R:AV→(Nat→Nat)→Obs→Prop}{f:Nat→AV}{args:Array Operand}{tys:Array TypeId}{K':St→Prop}
theorem mX (p:Nat→Bool):ab s ⟨s.f,s.gen,fun i=>if p i=true then none else s.obj i⟩:=by
 exact VB
theorem bG (p:Nat→Bool) (h:R (oz s.f res) s.gen (fun i=>if p i=true then none else s.obj i)):wY res R .normal s:=⟨_,mX p,h⟩
theorem iE (p:Nat→Bool) (h:R (oz s.f res) s.gen (fun i=>if p i=true then none else s.obj i)):wY res R .ret s:=⟨_,mX p,h⟩
structure Tape (T B:Nat) (word:Bool) (code:List Ins) (g:Nat→Nat) (ob:Obs):Prop where
 t:ob T=some [.d (.bool word),.osl B (g B) 4 0 code.length]
 b:ob B=some (eY code)
 ne:T≠B
theorem Tape.same {T B:Nat}{g g':Nat→Nat}{ob ob':Obs} (h:Tape T B word code g ob) (hg:g' B=g B) (h1:ob' T=ob T) (h2:ob' B=ob B):Tape T B word code g' ob':=
 ⟨by rw[h1,hg];exact h.t,by rw[h2];exact h.b,h.ne⟩
structure yn (K T B:Nat) (word:Bool) (code:List Ins) (g:Nat→Nat) (ob:Obs) (g':Nat→Nat) (ob':Obs):Prop where
 tape:Tape T B word code g' ob'
 gen:∀i,i<K→i≠B→g' i=g i
 obj:∀i,i≠T→i≠B→ob' i=ob i
def eI (f:FuncId) (rest:List AV) (new:Bool→Nat→List Ins):Prop:=
 ∀(K T B:Nat) (word:Bool) (code:List Ins) (g:Nat→Nat) (ob:Obs) (gT:Nat),Tape T B word code g ob→g T=gT→T<K→B<K→(∀i,K≤i→ob i=none)→code.length+(new word code.length).length≤1000000000→
  iN Tryz.prog f (.one (.ptr T gT 0)::rest) g ob (fun r g' ob'=>r=uv∧yn K T B word (code++new word code.length) g ob g' ob')
theorem QY {T B V gT gV n:Nat}{code xs:List Ins}{g:Nat→Nat}{ob:Obs} (ht:Tape T B word code g ob) (hgT:g T=gT) (hv:ob V=some (eY xs)) (hgV:g V=gV) (hn:xs.length=n) (hT:V≠T) (hB:V≠B) (hl:code.length+xs.length≤1000000000) :
  iN Tryz.prog 173 [.one (.ptr T gT 0),.one (.osl V gV 4 0 n)] g ob (fun r g' ob'=>r=uv∧Tape T B word (code++xs) g' ob'∧(∀i,i≠B→g' i=g i)∧∀i,i≠T→i≠B→ob' i=ob i):=by
 refine hdF 0 Tryz.func173 rfl [] ?_
 obtain⟨h1,h2,h3⟩:=ht
 subst hgT hgV hn
 simp only[go_sem,h1,h2,hv,h3,iI]
 refine⟨j8 _,j8 _,⟨a8,a6⟩,⟨_,ab.refl _,rfl,⟨?_,?_,h3⟩,fun i hi=>?_,fun i hi hi'=>?_⟩⟩
 ·simp only[upd,A9,j5]
 ·simp only[upd,A9,if_neg (z8 h3)]
  rw[l5 (by rw[iI];omega),l5 (by rw[iI];omega),CP]
 ·simp only[upd,if_neg hi]
 ·simp only[upd,if_neg hi,if_neg hi']
structure Prog (K K2 T B:Nat) (word:Bool) (code:List Ins) (g0:Nat→Nat) (ob0:Obs) (g:Nat→Nat) (ob:Obs):Prop where
 tape:Tape T B word code g ob
 gen:∀i,i<K→i≠B→g i=g0 i
 obj:∀i,i<K→i≠T→i≠B→ob i=ob0 i
 top:∀i,K2≤i→ob i=none
 tk:T<K
 bk:B<K
 kk:K≤K2
theorem Prog.start{g:Nat→Nat}{ob:Obs} (h:Tape T B word code g ob) (hT:T<K) (hB:B<K) (hK:∀i,K≤i→ob i=none) (hk:K≤K2):Prog K K2 T B word code g ob g ob:=
 ⟨h,fun _ _ _=>rfl,fun _ _ _ _=>rfl,fun i hi=>hK i a6,hT,hB,hk⟩
theorem Prog.fin (h:Prog K K2 T B word code g0 ob0 g ob) (hK:∀i,K≤i→ob0 i=none):yn K T B word code g0 ob0 g (fun i=>if decide (K≤i)=true then none else ob i):=by
 refine⟨h.tape.same rfl ?_ ?_,h.gen,fun i h1 h2=>?_⟩
 ·have:=h.tk;simp[show ¬K≤T by omega]
 ·have:=h.bk;simp[show ¬K≤B by omega]
 ·by_cases hi:K≤i
  ·simp[hi,hK i hi]
  ·simp only[hi,I2,B8,A4]
   exact h.obj i a6 h1 h2
theorem Prog.new {K K2 T B V x:Nat}{y:Option (List C)} (h:Prog K K2 T B word code g0 ob0 g ob) (h1:K≤V) (h2:V<K2):Prog K K2 T B word code g0 ob0 (upd g V x) (upd ob V y):=by
 have hT:¬T=V:=by have:=h.tk;omega
 have hB:¬B=V:=by have:=h.bk;omega
 refine⟨h.tape.same (by simp[upd,hB]) (by simp[upd,hT]) (by simp[upd,hB]),fun i hi hb=>?_,fun i hi ht hb=>?_,fun i hi=>?_,h.tk,h.bk,h.kk⟩
 ·simp only[upd,if_neg (show ¬i=V by omega)];exact h.gen i hi hb
 ·simp only[upd,if_neg (show ¬i=V by omega)];exact h.obj i hi ht hb
 ·simp only[upd,if_neg (show ¬i=V by omega)];exact h.top i hi
theorem Prog.genT (h:Prog K K2 T B word code g0 ob0 g ob):g T=g0 T:=h.gen T h.tk h.tape.ne
theorem co {K K2 T B V gT gV n:Nat} (xs:List Ins) (h:Prog K K2 T B word code g0 ob0 g ob) {o:Oper}{k:Box K'}{Bs:Nat}
  (ho:o.op=.call ⟨.value (.func 173),args,tys⟩) (hgT:g0 T=gT) (h1:K≤V) (h2:V<K2) (hn:xs.length=n) (ha:args.toList.map (St.ev ⟨f,upd g V gV,upd ob V (some (eY xs))⟩)=[.one (.ptr T gT 0),.one (.osl V gV 4 0 n)]) (hl:code.length+xs.length≤1000000000)
  (hk:∀g' ob',Prog K K2 T B word (code++xs) g0 ob0 g' ob'→(∀i,i≠B→i≠V→g' i=g i)→(∀i,i≠T→i≠B→i≠V→ob' i=ob i)→K' (St.put ⟨f,g',ob'⟩ o.dst uv)):bh (spB Tryz.prog Bs) o ⟨f,upd g V gV,upd ob V (some (eY xs))⟩ k:=by
 have hp:=h.new (x:=gV) (y:=some (eY xs)) h1 h2
 have hT:V≠T:=by have:=h.tk;omega
 have hB:V≠B:=by have:=h.bk;omega
 refine ez ho (R:=fun r g' ob'=>r=uv∧Tape T B word (code++xs) g' ob'∧(∀i,i≠B→g' i=upd g V gV i)∧∀i,i≠T→i≠B→ob' i=upd ob V (some (eY xs)) i) ?_ ?_
 ·rw[ha]
  exact QY hp.tape (hp.genT.trans hgT) XI XI hn hT hB hl
 ·rintro _ g' ob' ⟨rfl,t,q1,q2⟩
  refine hk g' ob' ⟨t,fun i hi hb=>?_,fun i hi ht hb=>?_,fun i hi=>?_,h.tk,h.bk,h.kk⟩ (fun i hb hv=>?_) (fun i ht hb hv=>?_)
  ·rw[q1 i hb];exact hp.gen i hi hb
  ·rw[q2 i ht hb];exact hp.obj i hi ht hb
  ·have:=h.tk;have:=h.bk;have:=h.kk
   rw[q2 i a6 a6];exact hp.top i hi
  ·rw[q1 i hb];simp only[upd,if_neg hv]
  ·rw[q2 i ht hb];simp only[upd,if_neg hv]
theorem bK {K K2 T B gT:Nat}{f':FuncId}{rest:List AV}{new:Bool→Nat→List Ins} (hw:eI f' rest new) (h:Prog K K2 T B word code g0 ob0 g ob) {o:Oper}{k:Box K'}{Bs:Nat}
  (ho:o.op=.call ⟨.value (.func f'),args,tys⟩) (hgT:g0 T=gT) (ha:args.toList.map (St.ev ⟨f,g,ob⟩)=.one (.ptr T gT 0)::rest) (hl:code.length+(new word code.length).length≤1000000000)
  (hk:∀g' ob',Prog K K2 T B word (code++new word code.length) g0 ob0 g' ob'→(∀i,i<K2→i≠B→g' i=g i)→(∀i,i≠T→i≠B→ob' i=ob i)→K' (St.put ⟨f,g',ob'⟩ o.dst uv)):bh (spB Tryz.prog Bs) o ⟨f,g,ob⟩ k:=by
 have h1:=h.tk;have h2:=h.bk;have h3:=h.kk
 refine ez ho (R:=fun r g' ob'=>r=uv∧yn K2 T B word (code++new word code.length) g ob g' ob') ?_ ?_
 ·rw[ha]
  exact hw K2 T B word code g ob gT h.tape (h.genT.trans hgT) a6 a6 h.top hl
 ·rintro _ g' ob' ⟨rfl,t,q1,q2⟩
  refine hk g' ob' ⟨t,fun i hi hb=>?_,fun i hi ht hb=>?_,fun i hi=>?_,h1,h2,h3⟩ q1 q2
  ·rw[q1 i a6 hb];exact h.gen i hi hb
  ·rw[q2 i ht hb];exact h.obj i hi ht hb
  ·rw[q2 i a6 a6];exact h.top i hi
theorem BI:eI 106 [] (fun word _=>(leave word).map Prod.fst):=by
 intro K T B word code g ob gT ht hgT hTK hBK hK hl
 have hp:=Prog.start (K2:=K+14) ht hTK hBK hK a6
 refine hdF K Tryz.func106 rfl [] ?_
 have h1:=ht.t
 cases word with
 |false=>
   have hl':code.length+1≤1000000000:=hl
   simp only[go_sem,h1,hgT]
   refine co [⟨11,0,0,0⟩] hp rfl hgT a6 a6 rfl rfl (by exact hl') ?_
   intro g1 ob1 p1 _ _
   simp only[go_sem]
   refine bG (fun i=>decide (K≤i)) ?_
   exact⟨rfl,p1.fin hK⟩
 |true=>
   have hl':code.length+2≤1000000000:=hl
   simp only[go_sem,h1,hgT]
   refine co [⟨1,0,0,0⟩] hp rfl hgT a6 a6 rfl rfl (by show code.length+1≤1000000000;omega) ?_
   intro g1 ob1 p1 _ _
   simp only[go_sem,p1.tape.t,p1.genT,hgT]
   refine co [⟨11,0,0,0⟩] p1 rfl hgT a6 a6 rfl rfl (by simp only[j5,j6,j7];omega) ?_
   intro g2 ob2 p2 _ _
   rw[r0] at p2
   simp only[go_sem]
   refine bG (fun i=>decide (K≤i)) ?_
   exact⟨rfl,p2.fin hK⟩
theorem IF {T B I J gT gI gJ:Nat}{pre post:List Ins}{x:Ins}{g:Nat→Nat}{ob:Obs} (ht:Tape T B word (pre++x::post) g ob) (hgT:g T=gT) (hI:ob I=some [.ptr T gT 0]) (hgI:g I=gI)
  (hJ:ob J=some [.d (.int .i64 pre.length)]) (hgJ:g J=gJ) (hl:(pre++x::post).length≤1000000000) :
  iN Tryz.prog 245 [.one (.ptr I gI 0),.one (.ptr J gJ 0)] g ob (fun r g' ob'=>r=uv∧g'=g∧Tape T B word (pre ++ { x with a:=((pre++x::post).length:Int)}::post) g ob'∧∀i,i≠B→ob' i=ob i):=by
 refine hdF 0 Tryz.func245 rfl [] ?_
 obtain⟨h1,h2,h3⟩:=ht
 subst hgT hgI hgJ
 simp only[go_sem]
 refine bP b9 ?_
 have hlen:pre.length<(pre++x::post).length:=by simp only[j5,j6];omega
 simp only[go_sem,h1,h2,hI,hJ,h3,iI,hlen]
 refine⟨a6,_,ab.refl _,rfl,rfl,⟨?_,?_,h3⟩,fun i hi=>by simp[upd,hi]⟩
 ·simp only[upd,if_neg h3,h1,j5,j6]
 ·simp only[upd,A9]
  exact congrArg some (vo pre x post _)
structure yo (I J:Nat) (T gT at':Nat) (g:Nat→Nat) (ob:Obs) (v:AV):Prop where
 v:v=.one (.clo 245 [.ptr I (g I) 0,.ptr J (g J) 0])
 i:ob I=some [.ptr T gT 0]
 j:ob J=some [.d (.int .i64 at')]
theorem yo.same {I J T gT at':Nat}{g g':Nat→Nat}{ob ob':Obs}{v:AV} (h:yo I J T gT at' g ob v) (h1:g' I=g I) (h2:g' J=g J) (h3:ob' I=ob I) (h4:ob' J=ob J):yo I J T gT at' g' ob' v:=
 ⟨by rw[h1,h2];exact h.v,by rw[h3];exact h.i,by rw[h4];exact h.j⟩
theorem MA {K T B gT:Nat}{op:Int}{g:Nat→Nat}{ob:Obs} (ht:Tape T B word code g ob) (hgT:g T=gT) (hTK:T<K) (hBK:B<K) (hK:∀i,K≤i→ob i=none) (hl:code.length+1≤1000000000) :
  iN Tryz.prog 225 [.one (.ptr T gT 0),iv .i64 op] g ob (fun r g' ob'=>yo (K+2) (K+5) T gT code.length g' ob' r∧Tape T B word (code++[⟨op,0,0,0⟩]) g' ob'∧(∀i,i<K→i≠B→g' i=g i)∧(∀i,i<K→i≠T→i≠B→ob' i=ob i)∧∀i,K+6≤i→ob' i=none):=by
 refine hdF K Tryz.func225 rfl [4] ?_
 have hp:=Prog.start (K2:=K+17) ht hTK hBK hK a6
 have h1:=ht.t
 have h2:=ht.b
 have t1:¬T=K+2:=a6
 have t2:¬T=K+5:=a6
 have b1:¬B=K+2:=a6
 have b2:¬B=K+5:=a6
 have hp1:=hp.new (V:=K+2) (x:=nxC 248 (g (K+2))) (y:=some [.ptr T gT 0]) a6 a6
 have hp2:=hp1.new (V:=K+5) (x:=nxC 4 (g (K+5))) (y:=some [.d (.int .i64 0)]) a6 a6
 have hp3:Prog K (K+17) T B word code g ob (upd (upd g (K+2) (nxC 248 (g (K+2)))) (K+5) (nxC 4 (g (K+5)))) (upd (upd (upd ob (K+2) (some [.ptr T gT 0])) (K+5) (some [.d (.int .i64 0)])) (K+5) (some [.d (.int .i64 code.length)])):=by
  have:=hp2.new (V:=K+5) (x:=(upd (upd g (K+2) (nxC 248 (g (K+2)))) (K+5) (nxC 4 (g (K+5)))) (K+5)) (y:=some [.d (.int .i64 code.length)]) a6 a6
  have e:∀(f:Nat→Nat) (i:Nat),upd f i (f i)=f:=fun f i=>by funext j;simp only[upd];split <;> simp_all
  rw[e] at this
  exact this
 simp only[go_sem,h1,h2,hgT,t1,t2,b1,b2]
 refine co [⟨op,0,0,0⟩] hp3 rfl hgT a6 a6 rfl rfl (by exact hl) ?_
 intro g1 ob1 p1 q1 q2
 have e1:g1 (K+2)=nxC 248 (g (K+2)):=by rw[q1 _ a6 a6];simp[upd]
 have e2:g1 (K+5)=nxC 4 (g (K+5)):=by rw[q1 _ a6 a6];simp[upd]
 have e3:ob1 (K+2)=some [.ptr T gT 0]:=by rw[q2 _ a6 a6 a6];simp[upd]
 have e4:ob1 (K+5)=some [.d (.int .i64 code.length)]:=by rw[q2 _ a6 a6 a6];simp[upd]
 simp only[go_sem,e1,e2]
 refine iE (fun i=>decide (K+6≤i)) ?_
 refine⟨⟨?_,?_,?_⟩,p1.tape.same rfl ?_ ?_,p1.gen,fun i hi hT hB=>?_,fun i hi=>?_⟩
 ·simp only[go_sem,oz,e1,e2]
 ·simp[e3]
 ·simp[e4]
 ·simp[show ¬K+6≤T by omega]
 ·simp[show ¬K+6≤B by omega]
 ·simp only[show ¬K+6≤i by omega,I2,B8,A4];exact p1.obj i hi hT hB
 ·simp[hi]
end
section
variable {word:Bool}{g0 g:Nat→Nat}{ob0 ob:Obs}{code:List Ins}{f:Nat→AV}{args:Array Operand}{tys:Array TypeId}{K':St→Prop}{op num slot size:Int}
theorem Prog.more {K K2 K3 T B:Nat} (h:Prog K K2 T B word code g0 ob0 g ob) (hk:K2≤K3):Prog K K3 T B word code g0 ob0 g ob:=
 ⟨h.tape,h.gen,h.obj,fun i hi=>h.top i a6,h.tk,h.bk,by have:=h.kk;omega⟩
structure Open (I J T gT at' gI gJ:Nat) (g:Nat→Nat) (ob:Obs):Prop where
 gi:g I=gI
 gj:g J=gJ
 i:ob I=some [.ptr T gT 0]
 j:ob J=some [.d (.int .i64 at')]
theorem Open.same {I J T gT at' gI gJ:Nat}{g g':Nat→Nat}{ob ob':Obs} (h:Open I J T gT at' gI gJ g ob) (h1:g' I=g I) (h2:g' J=g J) (h3:ob' I=ob I) (h4:ob' J=ob J):Open I J T gT at' gI gJ g' ob':=
 ⟨h1.trans h.gi,h2.trans h.gj,h3.trans h.i,h4.trans h.j⟩
theorem iJ {K K2 T B gT:Nat}{op:Int} (h:Prog K K2 T B word code g0 ob0 g ob) {o:Oper}{k:Box K'}{Bs:Nat}
  (ho:o.op=.call ⟨.value (.func 225),args,tys⟩) (hgT:g0 T=gT) (ha:args.toList.map (St.ev ⟨f,g,ob⟩)=[.one (.ptr T gT 0),iv .i64 op]) (hl:code.length+1≤1000000000)
  (hk:∀g' ob' gI gJ,Prog K (K2+6) T B word (code++[⟨op,0,0,0⟩]) g0 ob0 g' ob'→Open (K2+2) (K2+5) T gT code.length gI gJ g' ob'→(∀i,i<K2→i≠B→g' i=g i)→(∀i,i<K2→i≠T→i≠B→ob' i=ob i)→K' (St.put ⟨f,g',ob'⟩ o.dst (.one (.clo 245 [.ptr (K2+2) gI 0,.ptr (K2+5) gJ 0])))):bh (spB Tryz.prog Bs) o ⟨f,g,ob⟩ k:=by
 have h1:=h.tk;have h2:=h.bk;have h3:=h.kk
 refine ez ho (R:=fun r g' ob'=>yo (K2+2) (K2+5) T gT code.length g' ob' r∧Tape T B word (code++[⟨op,0,0,0⟩]) g' ob'∧(∀i,i<K2→i≠B→g' i=g i)∧(∀i,i<K2→i≠T→i≠B→ob' i=ob i)∧∀i,K2+6≤i→ob' i=none) ?_ ?_
 ·rw[ha]
  exact MA h.tape (h.genT.trans hgT) a6 a6 h.top hl
 ·rintro _ g' ob' ⟨⟨rfl,l2,l3⟩,t,q1,q2,q3⟩
  refine hk g' ob' _ _ ⟨t,fun i hi hb=>?_,fun i hi ht hb=>?_,q3,h1,h2,a6⟩ ⟨rfl,rfl,l2,l3⟩ q1 q2
  ·rw[q1 i a6 hb];exact h.gen i hi hb
  ·rw[q2 i a6 ht hb];exact h.obj i hi ht hb
theorem gf {K K2 T B gT I J gI gJ t:Nat}{pre post:List Ins}{x:Ins} (h:Prog K K2 T B word (pre++x::post) g0 ob0 g ob) (hop:Open I J T gT pre.length gI gJ g ob) {o:Oper}{k:Box K'}{Bs:Nat}
  (ho:o.op=.call ⟨.value (.tmp t),args,tys⟩) (hgT:g0 T=gT) (hf:f t=.one (.clo 245 [.ptr I gI 0,.ptr J gJ 0])) (ha:args.toList.map (St.ev ⟨f,g,ob⟩)=[]) (hl:(pre++x::post).length≤1000000000)
  (hk:∀ob',Prog K K2 T B word (pre ++ { x with a:=((pre++x::post).length:Int)}::post) g0 ob0 g ob'→(∀i,i≠B→ob' i=ob i)→K' (St.put ⟨f,g,ob'⟩ o.dst uv)):bh (spB Tryz.prog Bs) o ⟨f,g,ob⟩ k:=by
 have h1:=h.tk;have h2:=h.bk;have h3:=h.kk
 refine DC ho hf (R:=fun r g' ob'=>r=uv∧g'=g∧Tape T B word (pre ++ { x with a:=((pre++x::post).length:Int)}::post) g ob'∧∀i,i≠B→ob' i=ob i) ?_ ?_
 ·rw[ha]
  exact IF h.tape (h.genT.trans hgT) hop.i hop.gi hop.j hop.gj hl
 ·rintro _ g' ob' ⟨rfl,rfl,t,q⟩
  refine hk ob' ⟨t,h.gen,fun i hi ht hb=>?_,fun i hi=>?_,h1,h2,h3⟩ q
  ·rw[q i hb];exact h.obj i hi ht hb
  ·rw[q i a6];exact h.top i hi
theorem bY (e:Ex):(cxD e).length=6:=by cases e;simp[cxD]
abbrev ipE (e:Ex):AV:=.one (.d (.iptr (cxD e)))
abbrev br (d:Int) (e:Ex):Bool→Nat→List Ins:=fun _ at'=>(cE at' d e).map Prod.fst
theorem yp {α:Type} (f:Nat→α) (i:Nat):upd f i (f i)=f:=by funext j;simp only[upd];split <;> simp_all
theorem CQ{a b:Ex}{d:Int} (ha:eI 224 [ipE a] (br d a)) (hb:eI 224 [ipE b] (br d b)) :
  eI 244 [ipE (.mk 8 op num slot size [a,b])] (br d (.mk 8 op num slot size [a,b])):=by
 intro K T B word code g ob gT ht hgT hTK hBK hK hl
 have hlen:code.length+((cE code.length d a).length+4+(cE (code.length+(cE code.length d a).length+1+3) d b).length+2)≤1000000000:=by
  have:(br d (.mk 8 op num slot size [a,b]) word code.length).length=_:=rfl
  simp only[br,cE,cAO,nz,jT,oq,j4,A9,true_or,j5,j6,j7] at hl
  simp only[B6,Nat.reduceAdd] at hl ⊢
  omega
 have hp:=Prog.start (K2:=K+50) ht hTK hBK hK a6
 refine hdF K Tryz.func244 rfl [] ?_
 have hp1:=hp.new (V:=K+4) (x:=nxC 238 (g (K+4))) (y:=some [.d (.int .i64 0),.d (.int .i64 0),.d (.int .i64 0),.d (.int .u32 0)]) a6 a6
 have hp2:=hp1.new (V:=K+4) (x:=(upd g (K+4) (nxC 238 (g (K+4)))) (K+4)) (y:=some (wF ⟨7,0,0,0⟩)) a6 a6
 rw[yp] at hp2
 have h1:=ht.t
 have h2:=ht.b
 have hE:cxD (.mk 8 op num slot size [a,b])=[.int .i64 8,.int .i64 op,.int .u32 num,.int .i64 slot,.int .i64 size,.sl [cxD a,cxD b]]:=by simp only[cxD,wu]
 unfold ipE
 rw[hE]
 simp only[go_sem,h1,h2,hgT,bY]
 refine bK ha hp2 rfl hgT rfl (by simp only[br,j4];omega) ?_
 intro g1 ob1 p1 q1 r1
 have e4:ob1 (K+4)=some [.d (.int .i64 7),.d (.int .i64 0),.d (.int .i64 0),.d (.int .u32 0)]:=by rw[r1 _ a6 a6];simp[upd,wF]
 have g4:g1 (K+4)=nxC 238 (g (K+4)):=by rw[q1 _ a6 a6];simp[upd]
 simp only[go_sem,e4,g4]
 refine co [⟨7,0,0,0⟩] p1 rfl hgT a6 a6 rfl rfl X2 ?_
 intro g2 ob2 p2 q2 r2
 have e4:ob2 (K+4)=some [.d (.int .i64 7),.d (.int .i64 0),.d (.int .i64 0),.d (.int .u32 0)]:=by rw[r2 _ a6 a6 a6];exact e4
 have g4:g2 (K+4)=nxC 238 (g (K+4)):=by rw[q2 _ a6 a6];exact g4
 simp only[go_sem,e4,g4]
 refine iJ p2 rfl hgT rfl X2 ?_
 intro g3 ob3 gI1 gJ1 p3 o1 q3 r3
 have e4:ob3 (K+4)=some [.d (.int .i64 7),.d (.int .i64 0),.d (.int .i64 0),.d (.int .u32 0)]:=by rw[r3 _ a6 a6 a6];exact e4
 have g4:g3 (K+4)=nxC 238 (g (K+4)):=by rw[q3 _ a6 a6];exact g4
 simp only[go_sem,e4,g4]
 refine co [⟨1,0,0,0⟩] p3 rfl hgT a6 a6 rfl rfl X2 ?_
 intro g4' ob4 p4 q4 r4
 have e4:ob4 (K+4)=some [.d (.int .i64 7),.d (.int .i64 0),.d (.int .i64 0),.d (.int .u32 0)]:=by rw[r4 _ a6 a6 a6];exact e4
 have g4:g4' (K+4)=nxC 238 (g (K+4)):=by rw[q4 _ a6 a6];exact g4
 have o1:=o1.same (g':=g4') (ob':=ob4) (q4 _ a6 a6) (q4 _ a6 a6) (r4 _ a6 a6 a6) (r4 _ a6 a6 a6)
 simp only[go_sem,e4,g4]
 refine iJ p4 rfl hgT rfl X2 ?_
 intro g5 ob5 gI2 gJ2 p5 o2 q5 r5
 have e4:ob5 (K+4)=some [.d (.int .i64 7),.d (.int .i64 0),.d (.int .i64 0),.d (.int .u32 0)]:=by rw[r5 _ a6 a6 a6];exact e4
 have g4:g5 (K+4)=nxC 238 (g (K+4)):=by rw[q5 _ a6 a6];exact g4
 have o1:=o1.same (g':=g5) (ob':=ob5) (q5 _ a6 a6) (q5 _ a6 a6) (r5 _ a6 a6 a6) (r5 _ a6 a6 a6)
 simp only[go_sem,e4,g4]
 rw[r0,r0] at p5
 have hlA:(code++br d a word code.length++[(⟨7,0,0,0⟩:Ins)]).length=code.length+(cE code.length d a).length+1:=by simp only[br,j5,j4,j6,j7]
 have hlB:(code++br d a word code.length++[(⟨7,0,0,0⟩:Ins)]++(⟨9,0,0,0⟩:Ins)::[⟨1,0,0,0⟩,⟨8,0,0,0⟩]).length=code.length+(cE code.length d a).length+1+3:=by rw[j5,hlA];rfl
 have hlC:(code++br d a word code.length++[(⟨7,0,0,0⟩:Ins)]++(⟨9,0,0,0⟩:Ins)::[⟨1,0,0,0⟩]).length=code.length+(cE code.length d a).length+1+2:=by rw[j5,hlA];rfl
 refine gf (pre:=code++br d a word code.length++[⟨7,0,0,0⟩]) (x:=⟨9,0,0,0⟩) (post:=[⟨1,0,0,0⟩,⟨8,0,0,0⟩]) p5 o1 rfl hgT rfl rfl (by rw[hlB];omega) ?_
 intro ob6 p6 r6
 have e4:ob6 (K+4)=some [.d (.int .i64 7),.d (.int .i64 0),.d (.int .i64 0),.d (.int .u32 0)]:=by rw[r6 _ a6];exact e4
 have o2:=o2.same (g':=g5) (ob':=ob6) rfl rfl (r6 _ a6) (r6 _ a6)
 rw[hlB] at p6
 generalize hX:code++br d a word code.length++[(⟨7,0,0,0⟩:Ins)]=X at *
 have hlD:(X++(⟨9,((code.length+(cE code.length d a).length+1+3:Nat):Int),0,0⟩:Ins)::[⟨1,0,0,0⟩,⟨8,0,0,0⟩]).length=code.length+(cE code.length d a).length+1+3:=by rw[j5,hlA];rfl
 simp only[go_sem,e4,g4,bY]
 refine bK hb p6 rfl hgT rfl (by simp only[hlD,br,j4];omega) ?_
 intro g7 ob7 p7 q7 r7
 rw[hlD] at p7
 have e4:ob7 (K+4)=some [.d (.int .i64 7),.d (.int .i64 0),.d (.int .i64 0),.d (.int .u32 0)]:=by rw[r7 _ a6 a6];exact e4
 have g4:g7 (K+4)=nxC 238 (g (K+4)):=by rw[q7 _ a6 a6];exact g4
 have o2:=o2.same (g':=g7) (ob':=ob7) (q7 _ a6 a6) (q7 _ a6 a6) (r7 _ a6 a6) (r7 _ a6 a6)
 simp only[go_sem,e4,g4]
 refine co [⟨7,0,0,0⟩,⟨7,0,0,0⟩] p7 rfl hgT a6 a6 rfl rfl (by simp only[j5,hlA,br,j4,j6,j7];omega) ?_
 intro g8 ob8 p8 q8 r8
 have o2:=o2.same (g':=g8) (ob':=ob8) (q8 _ a6 a6) (q8 _ a6 a6) (r8 _ a6 a6 a6) (r8 _ a6 a6 a6)
 have p8:Prog K (K+50+6+6) T B word ((X++[⟨9,((code.length+(cE code.length d a).length+1+3:Nat):Int),0,0⟩,⟨1,0,0,0⟩])++⟨8,0,0,0⟩::(br d b word (code.length+(cE code.length d a).length+1+3)++[⟨7,0,0,0⟩,⟨7,0,0,0⟩])) g ob g8 ob8:=by
  have:=p8
  exact VW
 have hlE:(X++[(⟨9,((code.length+(cE code.length d a).length+1+3:Nat):Int),0,0⟩:Ins),(⟨1,0,0,0⟩:Ins)]).length=(X++[(⟨9,0,0,0⟩:Ins)]++[(⟨1,0,0,0⟩:Ins)]).length:=a7
 have hlF:((X++[(⟨9,((code.length+(cE code.length d a).length+1+3:Nat):Int),0,0⟩:Ins),⟨1,0,0,0⟩])++(⟨8,0,0,0⟩:Ins)::(br d b word (code.length+(cE code.length d a).length+1+3)++[⟨7,0,0,0⟩,⟨7,0,0,0⟩])).length=code.length+(cE code.length d a).length+1+3+(cE (code.length+(cE code.length d a).length+1+3) d b).length+2:=by
  simp only[j5,j6,j7,hlA,br,j4];omega
 rw[←hlE] at o2
 simp only[go_sem]
 refine gf p8 o2 rfl hgT rfl rfl (by rw[hlF];omega) ?_
 intro ob9 p9 r9
 rw[hlF] at p9
 simp only[go_sem]
 refine bG (fun i=>decide (K≤i)) ?_
 refine⟨rfl,?_⟩
 have e:code++br d (.mk 8 op num slot size [a,b]) word code.length=(X++[(⟨9,((code.length+(cE code.length d a).length+1+3:Nat):Int),0,0⟩:Ins),⟨1,0,0,0⟩])++⟨8,((code.length+(cE code.length d a).length+1+3+(cE (code.length+(cE code.length d a).length+1+3) d b).length+2:Nat):Int),0,0⟩::(br d b word (code.length+(cE code.length d a).length+1+3)++[⟨7,0,0,0⟩,⟨7,0,0,0⟩]):=by
  rw[←hX]
  simp only[br,cE,cAO,nz,jT,oq,A9,true_or,A3,l6,v7,r0,A0,y8,j6,j7,C2]
 rw[e]
 exact p9.fin hK
theorem CR{a b:Ex}{d:Int} (ha:eI 224 [ipE a] (br d a)) (hb:eI 224 [ipE b] (br d b)) :
  eI 244 [ipE (.mk 9 op num slot size [a,b])] (br d (.mk 9 op num slot size [a,b])):=by
 intro K T B word code g ob gT ht hgT hTK hBK hK hl
 have hlen:code.length+((cE code.length d a).length+3+(cE (code.length+(cE code.length d a).length+3) d b).length+2)≤1000000000:=by
  have:(br d (.mk 9 op num slot size [a,b]) word code.length).length=_:=rfl
  simp only[br,cE,cAO,nz,jT,oq,j4,show ¬(9:Int)=8 by decide,A4,A9,or_true,j5,j6,j7] at hl
  simp only[B6,J5,Nat.reduceAdd] at hl ⊢
  omega
 have hp:=Prog.start (K2:=K+50) ht hTK hBK hK a6
 refine hdF K Tryz.func244 rfl [] ?_
 have hp1:=hp.new (V:=K+4) (x:=nxC 238 (g (K+4))) (y:=some [.d (.int .i64 0),.d (.int .i64 0),.d (.int .i64 0),.d (.int .u32 0)]) a6 a6
 have hp2:=hp1.new (V:=K+4) (x:=(upd g (K+4) (nxC 238 (g (K+4)))) (K+4)) (y:=some (wF ⟨7,0,0,0⟩)) a6 a6
 rw[yp] at hp2
 have h1:=ht.t
 have h2:=ht.b
 have hE:cxD (.mk 9 op num slot size [a,b])=[.int .i64 9,.int .i64 op,.int .u32 num,.int .i64 slot,.int .i64 size,.sl [cxD a,cxD b]]:=by simp only[cxD,wu]
 unfold ipE
 rw[hE]
 simp only[go_sem,h1,h2,hgT,bY]
 refine bK ha hp2 rfl hgT rfl (by simp only[br,j4];omega) ?_
 intro g1 ob1 p1 q1 r1
 have e4:ob1 (K+4)=some [.d (.int .i64 7),.d (.int .i64 0),.d (.int .i64 0),.d (.int .u32 0)]:=by rw[r1 _ a6 a6];simp[upd,wF]
 have g4:g1 (K+4)=nxC 238 (g (K+4)):=by rw[q1 _ a6 a6];simp[upd]
 simp only[go_sem,e4,g4]
 refine iJ p1 rfl hgT rfl X2 ?_
 intro g3 ob3 gI1 gJ1 p3 o1 q3 r3
 have e4:ob3 (K+4)=some [.d (.int .i64 7),.d (.int .i64 0),.d (.int .i64 0),.d (.int .u32 0)]:=by rw[r3 _ a6 a6 a6];exact e4
 have g4:g3 (K+4)=nxC 238 (g (K+4)):=by rw[q3 _ a6 a6];exact g4
 simp only[go_sem,e4,g4]
 refine co [⟨1,0,0,1⟩] p3 rfl hgT a6 a6 rfl rfl X2 ?_
 intro g4' ob4 p4 q4 r4
 have e4:ob4 (K+4)=some [.d (.int .i64 7),.d (.int .i64 0),.d (.int .i64 0),.d (.int .u32 0)]:=by rw[r4 _ a6 a6 a6];exact e4
 have g4:g4' (K+4)=nxC 238 (g (K+4)):=by rw[q4 _ a6 a6];exact g4
 have o1:=o1.same (g':=g4') (ob':=ob4) (q4 _ a6 a6) (q4 _ a6 a6) (r4 _ a6 a6 a6) (r4 _ a6 a6 a6)
 simp only[go_sem,e4,g4]
 refine iJ p4 rfl hgT rfl X2 ?_
 intro g5 ob5 gI2 gJ2 p5 o2 q5 r5
 have e4:ob5 (K+4)=some [.d (.int .i64 7),.d (.int .i64 0),.d (.int .i64 0),.d (.int .u32 0)]:=by rw[r5 _ a6 a6 a6];exact e4
 have g4:g5 (K+4)=nxC 238 (g (K+4)):=by rw[q5 _ a6 a6];exact g4
 have o1:=o1.same (g':=g5) (ob':=ob5) (q5 _ a6 a6) (q5 _ a6 a6) (r5 _ a6 a6 a6) (r5 _ a6 a6 a6)
 simp only[go_sem,e4,g4]
 rw[r0,r0] at p5
 have hlA:(code++br d a word code.length).length=code.length+(cE code.length d a).length:=by simp only[br,j5,j4,j6,j7]
 have hlB:(code++br d a word code.length++(⟨9,0,0,0⟩:Ins)::[⟨1,0,0,1⟩,⟨8,0,0,0⟩]).length=code.length+(cE code.length d a).length+3:=by rw[j5,hlA];rfl
 have hlC:(code++br d a word code.length++(⟨9,0,0,0⟩:Ins)::[⟨1,0,0,1⟩]).length=code.length+(cE code.length d a).length+2:=by rw[j5,hlA];rfl
 refine gf (pre:=code++br d a word code.length) (x:=⟨9,0,0,0⟩) (post:=[⟨1,0,0,1⟩,⟨8,0,0,0⟩]) p5 o1 rfl hgT rfl rfl (by rw[hlB];omega) ?_
 intro ob6 p6 r6
 have e4:ob6 (K+4)=some [.d (.int .i64 7),.d (.int .i64 0),.d (.int .i64 0),.d (.int .u32 0)]:=by rw[r6 _ a6];exact e4
 have o2:=o2.same (g':=g5) (ob':=ob6) rfl rfl (r6 _ a6) (r6 _ a6)
 rw[hlB] at p6
 generalize hX:code++br d a word code.length=X at *
 have hlD:(X++(⟨9,((code.length+(cE code.length d a).length+3:Nat):Int),0,0⟩:Ins)::[⟨1,0,0,1⟩,⟨8,0,0,0⟩]).length=code.length+(cE code.length d a).length+3:=by rw[j5,hlA];rfl
 simp only[go_sem,e4,g4,bY]
 refine bK hb p6 rfl hgT rfl (by simp only[hlD,br,j4];omega) ?_
 intro g7 ob7 p7 q7 r7
 rw[hlD] at p7
 have e4:ob7 (K+4)=some [.d (.int .i64 7),.d (.int .i64 0),.d (.int .i64 0),.d (.int .u32 0)]:=by rw[r7 _ a6 a6];exact e4
 have g4:g7 (K+4)=nxC 238 (g (K+4)):=by rw[q7 _ a6 a6];exact g4
 have o2:=o2.same (g':=g7) (ob':=ob7) (q7 _ a6 a6) (q7 _ a6 a6) (r7 _ a6 a6) (r7 _ a6 a6)
 simp only[go_sem,e4,g4]
 refine co [⟨7,0,0,0⟩,⟨7,0,0,0⟩] p7 rfl hgT a6 a6 rfl rfl (by simp only[j5,hlA,br,j4,j6,j7];omega) ?_
 intro g8 ob8 p8 q8 r8
 have o2:=o2.same (g':=g8) (ob':=ob8) (q8 _ a6 a6) (q8 _ a6 a6) (r8 _ a6 a6 a6) (r8 _ a6 a6 a6)
 have p8:Prog K (K+50+6+6) T B word ((X++[⟨9,((code.length+(cE code.length d a).length+3:Nat):Int),0,0⟩,⟨1,0,0,1⟩])++⟨8,0,0,0⟩::(br d b word (code.length+(cE code.length d a).length+3)++[⟨7,0,0,0⟩,⟨7,0,0,0⟩])) g ob g8 ob8:=by
  have:=p8
  exact VW
 have hlE:(X++[(⟨9,((code.length+(cE code.length d a).length+3:Nat):Int),0,0⟩:Ins),(⟨1,0,0,1⟩:Ins)]).length=(X++[(⟨9,0,0,0⟩:Ins)]++[(⟨1,0,0,1⟩:Ins)]).length:=a7
 have hlF:((X++[(⟨9,((code.length+(cE code.length d a).length+3:Nat):Int),0,0⟩:Ins),⟨1,0,0,1⟩])++(⟨8,0,0,0⟩:Ins)::(br d b word (code.length+(cE code.length d a).length+3)++[⟨7,0,0,0⟩,⟨7,0,0,0⟩])).length=code.length+(cE code.length d a).length+3+(cE (code.length+(cE code.length d a).length+3) d b).length+2:=by
  simp only[j5,j6,j7,hlA,br,j4];omega
 rw[←hlE] at o2
 simp only[go_sem]
 refine gf p8 o2 rfl hgT rfl rfl (by rw[hlF];omega) ?_
 intro ob9 p9 r9
 rw[hlF] at p9
 simp only[go_sem]
 refine bG (fun i=>decide (K≤i)) ?_
 refine⟨rfl,?_⟩
 have e:code++br d (.mk 9 op num slot size [a,b]) word code.length=(X++[(⟨9,((code.length+(cE code.length d a).length+3:Nat):Int),0,0⟩:Ins),⟨1,0,0,1⟩])++⟨8,((code.length+(cE code.length d a).length+3+(cE (code.length+(cE code.length d a).length+3) d b).length+2:Nat):Int),0,0⟩::(br d b word (code.length+(cE code.length d a).length+3)++[⟨7,0,0,0⟩,⟨7,0,0,0⟩]):=by
  rw[←hX]
  simp only[br,cE,cAO,nz,jT,oq,show ¬(9:Int)=8 by decide,A4,A9,or_true,A3,l6,v7,r0,A0,y8,j6,j7,J5]
 rw[e]
 exact p9.fin hK
end
theorem tK:∀(l:List Ex) (k:Nat) (e:Ex) (at':Nat) (d:Int),l[k]? = some e→cEs at' d (l.take (k+1))=cEs at' d (l.take k)++cE (at'+(cEs at' d (l.take k)).length) (d+k) e
 |[],k,e,at',d,h=>by simp at h
 |x::l,0,e,at',d,h=>by
   simp at h;subst h
   simp[cEs]
 |x::l,k+1,e,at',d,h=>by
   have h':l[k]? = some e:=by simpa using h
   have ih:=tK l k e (at'+(cE at' d x).length) (d+1) h'
   rw[E4,E4,cEs,cEs,ih,r0,j5,B6]
   rw[show d+1+(k:Int)=d+((k+1:Nat):Int) by omega]
theorem qJ (l:List Ex) (k:Nat) (at':Nat) (d:Int):(cEs at' d (l.take k)).length≤(cEs at' d l).length:=by
 have:∀(l:List Ex) (k at':Nat) (d:Int),(cEs at' d (l.take k)).length≤(cEs at' d l).length:=by
  intro l
  induction l with
  |nil=>intro k at' d;simp[cEs]
  |cons x l ih=>
    intro k at' d
    cases k with
    |zero=>simp[cEs]
    |succ k=>
      rw[E4,cEs,cEs,j5,j5]
      have:=ih k (at'+(cE at' d x).length) (d+1)
      omega
 exact this l k at' d
theorem pW {w:Int}{ps:Sig}{f:Nat}{lv:Int}:∀{l:List Ex}{k:Nat}{e:Ex},rEs w ps f lv l→l[k]? = some e→rE w ps f lv e
 |[],k,e,_,h=>by simp at h
 |x::l,0,e,hr,h=>by simp at h;subst h;rw[rEs] at hr;exact hr.1
 |x::l,k+1,e,hr,h=>by rw[rEs] at hr;exact pW hr.2 Yl
theorem lx {l:List Ex}{k:Nat}{e:Ex} (h:l[k]? = some e):lr e<iA l:=by
 have h2:=xX h
 have h3:=CJ l (k+1)
 have hk:=(l0.1 h).1
 have h4:l.length≤pb l k:=by unfold pb;omega
 omega
theorem MB {w:Int}{ps:Sig}{fi:Nat}:∀(N:Nat) (e:Ex) (lv d:Int),lr e≤N→N≤1000000000000→rE w ps fi lv e→eI 224 [ipE e] (br d e):=by
 intro N
 induction N using Nat.strongRecOn with
 |ind N ih=>
 intro e lv d hN hN' hr
 obtain⟨kind,op,num,slot,size,kids⟩:=e
 have hsz:lr (.mk kind op num slot size kids)=iA kids:=rfl
 rw[rE] at hr
 obtain⟨hok,hrk⟩:=hr
 have hE:cxD (.mk kind op num slot size kids)=[.int .i64 kind,.int .i64 op,.int .u32 num,.int .i64 slot,.int .i64 size,.sl (kids.map cxD)]:=by simp only[cxD,nn]
 intro K T B word code g ob gT ht hgT hTK hBK hK hl
 have hp:=Prog.start (K2:=K+107) ht hTK hBK hK a6
 refine hdF K Tryz.func224 rfl [] ?_
 unfold ipE
 rw[hE]
 by_cases h89:kind=8∨kind=9
 ·have hk2:kids.length=2:=by
   rcases h89 with rfl|rfl
   ·exact WK
   ·exact WK
  obtain⟨a,b,rfl⟩:∃a b,kids=[a,b]:=by
   match kids,hk2 with
   |[a,b],_=>exact⟨a,b,rfl⟩
  have ha:eI 224 [ipE a] (br d a):=ih (lr a) (by have:=lx (l:=[a,b]) (k:=0) rfl;omega) a (lv+1) d (j8 _) (by have:=lx (l:=[a,b]) (k:=0) rfl;omega) (pW (k:=0) hrk rfl)
  have hb:eI 224 [ipE b] (br d b):=ih (lr b) (by have:=lx (l:=[a,b]) (k:=1) rfl;omega) b (lv+1) d (j8 _) (by have:=lx (l:=[a,b]) (k:=1) rfl;omega) (pW (k:=1) hrk rfl)
  rcases h89 with rfl|rfl
  ·simp only[go_sem]
   refine bK (CQ (op:=op) (num:=num) (slot:=slot) (size:=size) ha hb) hp rfl hgT (by unfold ipE;rw[hE];rfl) hl ?_
   exact VT
  ·simp only[go_sem]
   refine bK (CR (op:=op) (num:=num) (slot:=slot) (size:=size) ha hb) hp rfl hgT (by unfold ipE;rw[hE];rfl) hl ?_
   exact VT
 ·have h8:¬kind=8:=fun h=>h89 (.inl h)
  have h9:¬kind=9:=fun h=>h89 (.inr h)
  have hcE:cE code.length d (.mk kind op num slot size kids)=cEs code.length d kids++one kind op num slot size (d+kids.length):=by rw[cE,if_neg h89]
  have hl1:code.length+(cEs code.length d kids).length+(one kind op num slot size (d+kids.length)).length≤1000000000:=by
   have:(br d (.mk kind op num slot size kids) word code.length).length=_:=rfl
   simp only[br,hcE,j4,j5] at hl
   omega
  simp only[go_sem,h8,h9,j4]
  refine eW (fun n s=>∃k:Nat,n+k=kids.length∧s.f 0=.one (.ptr T gT 0)∧s.f 1=.one (.d (.iptr [.int .i64 kind,.int .i64 op,.int .u32 num,.int .i64 slot,.int .i64 size,.sl (kids.map cxD)]))∧s.f 24=iv .i64 kids.length∧s.f 25=iv .i64 k∧
   Prog K (K+107) T B word (code++(cEs code.length d (kids.take k)).map Prod.fst) g ob s.gen s.obj) kids.length ?_ ?_
  ·refine⟨0,rfl,?_⟩
   rw[K7,cEs,v7,l9]
   simp only[go_sem]
   exact hp
  ·rintro n f g1 ob1 ⟨k,hk,f0,f1,f24,f25,p1⟩
   simp only at f0 f1 f24 f25 p1
   have hkl:kids.length≤iA kids:=by rw[lX];omega
   have hw:=ae (k:=k) a6
   by_cases hlt:k<kids.length
   ·obtain⟨e,he⟩:=getq hlt
    have hse:=lx he
    have hsn:=tK kids k e code.length d he
    have hle:=qJ kids (k+1) code.length d
    have hl2:(cEs code.length d (kids.take k)).length+(cE (code.length+(cEs code.length d (kids.take k)).length) (d+k) e).length≤(cEs code.length d kids).length:=by
     rw[hsn,j5] at hle;exact hle
    have hlc:(code++(cEs code.length d (kids.take k)).map Prod.fst).length=code.length+(cEs code.length d (kids.take k)).length:=by rw[j5,j4]
    simp only[go_sem,f0,f1,f24,f25,hlt,he,j4,bY]
    refine bK (ih (lr e) a6 e (lv+1) (d+k) (j8 _) a6 (pW hrk he)) p1 rfl hgT rfl (by rw[hlc];simp only[br,j4];omega) ?_
    intro g2 ob2 p2 q2 r2
    rw[hlc] at p2
    simp only[go_sem,f0,f1,f24,f25,hw]
    refine dE (n-1) a6 ⟨k+1,a6,?_⟩
    simp only[go_sem,f0,f1,f24,f25,hw]
    rw[hsn,A3,←r0]
    exact p2
   ·have hkk:k=kids.length:=a6
    subst hkk
    rw[F3] at p1
    have hlc:(code++(cEs code.length d kids).map Prod.fst).length=code.length+(cEs code.length d kids).length:=by rw[j5,j4]
    have hfin:∀(x:Ins),one kind op num slot size (d+kids.length)=[(x,d+kids.length)]→∀g' ob',Prog K (K+107) T B word (code++(cEs code.length d kids).map Prod.fst++[x]) g ob g' ob'→yn K T B word (code++br d (.mk kind op num slot size kids) word code.length) g ob g' (fun i=>if decide (K≤i)=true then none else ob' i):=by
     intro x hx g' ob' hp'
     have:code++br d (.mk kind op num slot size kids) word code.length=code++(cEs code.length d kids).map Prod.fst++[x]:=by
      simp only[br,hcE,hx,A3,l6,v7,r0]
     rw[this]
     exact hp'.fin hK
    obtain⟨_,_,_,_,_,h⟩:=hok
    have hk17:kind=1∨kind=2∨kind=3∨kind=4∨kind=5∨kind=6∨kind=7:=by
     rcases h with⟨h|h,_⟩|⟨h,_⟩|⟨h,_⟩|⟨h,_⟩|⟨h,_⟩|⟨h,_⟩|⟨h|h,_⟩ <;> omega
    have hone:(one kind op num slot size (d+kids.length)).length=1:=by
     rcases hk17 with rfl|rfl|rfl|rfl|rfl|rfl|rfl <;> rfl
    rcases hk17 with rfl|rfl|rfl|rfl|rfl|rfl|rfl
    ·simp only[go_sem,f0,f1,f24,f25,hlt,j4]
     refine co [⟨1,0,0,num⟩] p1 rfl hgT a6 a6 rfl rfl X8 ?_
     exact UK
    ·simp only[go_sem,f0,f1,f24,f25,hlt,j4]
     refine co [⟨2,slot,0,0⟩] p1 rfl hgT a6 a6 rfl rfl X8 ?_
     exact UK
    ·simp only[go_sem,f0,f1,f24,f25,hlt,j4]
     refine fX aU mixed [K+73] [([0],[0],[],false),([1],[],[],false),([64],[],[],false),([65],[],[],false),([66],[],[],false),([1],[],[],false),([68],[],[],false),([69],[],[],false),([70],[],[],false),([67,71],[],[],false),([72],[],[0],false),([63,73],[],[],true)] 1 b9 rfl a7 ?_
     simp only[go_sem]
     iterate 10 (apply aG;· (intro fa ga oa K' hK;simp only[go_sem,f0,f1] at hK ⊢;exact hK))
     (apply cK;· (intro fa ga oa K' hK;simp only[go_sem,f0,f1] at hK ⊢;exact hK))
     apply cN
     intro K' hK'
     simp only[go_sem]
     refine co [⟨4,slot,size,0⟩] p1 rfl hgT a6 a6 rfl rfl X8 ?_
     intro g2 ob2 p2 q2 r2
     refine hK' _ ?_
     simp only[go_sem]
     refine bG (fun i=>decide (K≤i)) ?_
     exact⟨rfl,hfin _ rfl _ _ p2⟩
    ·simp only[go_sem,f0,f1,f24,f25,hlt,j4]
     refine co [⟨10,slot,0,0⟩] p1 rfl hgT a6 a6 rfl rfl X8 ?_
     exact UK
    ·simp only[go_sem,f0,f1,f24,f25,hlt,j4]
     refine co [⟨12,0,0,0⟩] p1 rfl hgT a6 a6 rfl rfl X8 ?_
     exact UK
    ·simp only[go_sem,f0,f1,f24,f25,hlt,j4]
     refine co [⟨6,op,0,0⟩] p1 rfl hgT a6 a6 rfl rfl X8 ?_
     exact UK
    ·simp only[go_sem,f0,f1,f24,f25,hlt,j4]
     refine co [⟨7,0,0,0⟩] p1 rfl hgT a6 a6 rfl rfl X8 ?_
     exact UK
section
abbrev ipS (s:Stm):AV:=.one (.d (.iptr (csD s)))
abbrev slS (l:List Stm):AV:=.one (.d (.sl (oY l)))
abbrev nq (s:Stm):Bool→Nat→List Ins:=fun word at'=>(cS word at' s).map Prod.fst
abbrev bJ (l:List Stm):Bool→Nat→List Ins:=fun word at'=>(cSs word at' l).map Prod.fst
theorem xY {word:Bool}:∀(l:List Stm) (k:Nat) (e:Stm) (at':Nat),l[k]? = some e→cSs word at' (l.take (k+1))=cSs word at' (l.take k)++cS word (at'+(cSs word at' (l.take k)).length) e
 |[],k,e,at',h=>by simp at h
 |x::l,0,e,at',h=>by
   simp at h;subst h
   simp[cSs]
 |x::l,k+1,e,at',h=>by
   have h':l[k]? = some e:=by simpa using h
   have ih:=xY (word:=word) l k e (at'+(cS word at' x).length) h'
   rw[E4,E4,cSs,cSs,ih,r0,j5,B6]
theorem nr {word:Bool}:∀(l:List Stm) (k at':Nat),(cSs word at' (l.take k)).length≤(cSs word at' l).length:=by
 intro l
 induction l with
 |nil=>intro k at';simp[cSs]
 |cons x l ih=>
   intro k at'
   cases k with
   |zero=>simp[cSs]
   |succ k=>
     rw[E4,cSs,cSs,j5,j5]
     have:=ih k (at'+(cS word at' x).length)
     omega
theorem sj {w:Int}{ps:Sig}{f:Nat}{word:Bool}{lv:Int}:∀{l:List Stm}{k:Nat}{e:Stm},rSs w ps f word lv l→l[k]? = some e→rS w ps f word lv e
 |[],k,e,_,h=>by simp at h
 |x::l,0,e,hr,h=>by simp at h;subst h;rw[rSs] at hr;exact hr.1
 |x::l,k+1,e,hr,h=>by rw[rSs] at hr;exact sj hr.2 Yl
variable {l:List Stm}
theorem nv{k:Nat}{e:Stm} (h:l[k]? = some e):mv e<eH l:=by
 have h2:=CK h
 have h3:=Il l (k+1)
 have hk:=(l0.1 h).1
 have h4:l.length≤zX l k:=by unfold zX;omega
 omega
theorem fM (e:Stm):(csD e).length=6:=by cases e;simp[csD]
theorem tF (hN:eH l≤1000000000000) (hS:∀(k:Nat) (e:Stm),l[k]? = some e→eI 172 [ipS e] (nq e)):eI 105 [slS l] (bJ l):=by
 intro K T B word code g ob gT ht hgT hTK hBK hK hl
 have hp:=Prog.start (K2:=K+16) ht hTK hBK hK a6
 have hl':code.length+(cSs word code.length l).length≤1000000000:=by simpa only[bJ,j4] using hl
 refine hdF K Tryz.func105 rfl [] ?_
 unfold slS
 rw[np]
 simp only[go_sem,j4]
 refine eW (fun n s=>∃k:Nat,n+k=l.length∧s.f 0=.one (.ptr T gT 0)∧s.f 1=.one (.d (.sl (l.map csD)))∧s.f 6=iv .i64 l.length∧s.f 7=iv .i64 k∧
  Prog K (K+16) T B word (code++(cSs word code.length (l.take k)).map Prod.fst) g ob s.gen s.obj) l.length ?_ ?_
 ·refine⟨0,rfl,?_⟩
  rw[K7,cSs,v7,l9]
  simp only[go_sem]
  exact hp
 ·rintro n f g1 ob1 ⟨k,hk,f0,f1,f6,f7,p1⟩
  simp only at f0 f1 f6 f7 p1
  have hkl:l.length≤eH l:=by rw[pd];omega
  have hw:=ae (k:=k) a6
  by_cases hlt:k<l.length
  ·obtain⟨e,he⟩:=getq hlt
   have hsn:=xY (word:=word) l k e code.length he
   have hle:=nr (word:=word) l (k+1) code.length
   have hl2:(cSs word code.length (l.take k)).length+(cS word (code.length+(cSs word code.length (l.take k)).length) e).length≤(cSs word code.length l).length:=by
    rw[hsn,j5] at hle;exact hle
   have hlc:(code++(cSs word code.length (l.take k)).map Prod.fst).length=code.length+(cSs word code.length (l.take k)).length:=by rw[j5,j4]
   simp only[go_sem,f0,f1,f6,f7,hlt,he,j4,fM]
   refine bK (hS k e he) p1 rfl hgT rfl (by rw[hlc];simp only[nq,j4];omega) ?_
   intro g2 ob2 p2 q2 r2
   rw[hlc] at p2
   simp only[go_sem,f0,f1,f6,f7,hw]
   refine dE (n-1) a6 ⟨k+1,a6,?_⟩
   simp only[go_sem,f0,f1,f6,f7,hw]
   rw[hsn,A3,←r0]
   exact p2
  ·have hkk:k=l.length:=a6
   subst hkk
   rw[F3] at p1
   simp only[go_sem,f0,f1,f6,f7,hlt,j4]
   refine bG (fun i=>decide (K≤i)) ?_
   exact⟨rfl,p1.fin hK⟩
theorem Im {slot size:Int}{c:Ex}{th el:List Stm} (hc:eI 224 [ipE c] (br 0 c)) (hth:eI 105 [slS th] (bJ th)) :
  eI 223 [ipS (.mk 5 slot size [c] th el)] (nq (.mk 5 slot size [c] th el)):=by
 intro K T B word code g ob gT ht hgT hTK hBK hK hl
 have hp:=Prog.start (K2:=K+33) ht hTK hBK hK a6
 have hcS:(nq (.mk 5 slot size [c] th el) word code.length)=(kM code.length (cE code.length 0 c) (fun r=>cSs word r th)).map Prod.fst:=by simp only[nq,cS,A9,oq]
 have hlen:code.length+((cE code.length 0 c).length+1+(cSs word (code.length+(cE code.length 0 c).length+1) th).length+1)≤1000000000:=by
  simp only[hcS,kM,j4,j5,j6,j7] at hl
  omega
 refine hdF K Tryz.func223 rfl [] ?_
 have h1:=ht.t
 have h2:=ht.b
 have hE:csD (.mk 5 slot size [c] th el)=[.int .i64 5,.int .i64 slot,.int .i64 size,.sl [cxD c],.sl (oY th),.sl (oY el)]:=by simp only[csD,wu]
 unfold ipS
 rw[hE]
 simp only[go_sem,h1,h2,hgT,bY]
 refine bK hc hp rfl hgT rfl (by simp only[br,j4];omega) ?_
 intro g1 ob1 p1 q1 r1
 have hlA:(code++br 0 c word code.length).length=code.length+(cE code.length 0 c).length:=by simp only[br,j5,j4]
 generalize hA:code++br 0 c word code.length=A at *
 simp only[go_sem]
 refine iJ p1 rfl hgT rfl a6 ?_
 intro g2 ob2 gI gJ p2 o1 q2 r2
 have hlB:(A++[(⟨9,0,0,0⟩:Ins)]).length=code.length+(cE code.length 0 c).length+1:=by rw[j5,hlA];rfl
 simp only[go_sem]
 refine bK hth p2 rfl hgT rfl YV ?_
 intro g3 ob3 p3 q3 r3
 rw[hlB] at p3
 have o1:=o1.same (g':=g3) (ob':=ob3) (q3 _ a6 a6) (q3 _ a6 a6) (r3 _ a6 a6) (r3 _ a6 a6)
 simp only[go_sem]
 refine co [⟨8,code.length,0,0⟩] p3 rfl hgT a6 a6 rfl rfl (by rw[j5,hlB];simp only[bJ,j4,j6,j7];omega) ?_
 intro g4 ob4 p4 q4 r4
 have o1:=o1.same (g':=g4) (ob':=ob4) (q4 _ a6 a6) (q4 _ a6 a6) (r4 _ a6 a6 a6) (r4 _ a6 a6 a6)
 have p4:Prog K (K+33+6) T B word (A++(⟨9,0,0,0⟩:Ins)::(bJ th word (code.length+(cE code.length 0 c).length+1)++[(⟨8,code.length,0,0⟩:Ins)])) g ob g4 ob4:=by
  have:=p4
  exact VW
 have hlF:(A++(⟨9,0,0,0⟩:Ins)::(bJ th word (code.length+(cE code.length 0 c).length+1)++[(⟨8,code.length,0,0⟩:Ins)])).length=code.length+(cE code.length 0 c).length+1+(cSs word (code.length+(cE code.length 0 c).length+1) th).length+1:=by
  simp only[j5,j6,j7,hlA,bJ,j4];omega
 simp only[go_sem]
 refine gf p4 o1 rfl hgT rfl rfl (by rw[hlF];omega) ?_
 intro ob5 p5 r5
 rw[hlF] at p5
 simp only[go_sem]
 refine bG (fun i=>decide (K≤i)) ?_
 refine⟨rfl,?_⟩
 have e:code++nq (.mk 5 slot size [c] th el) word code.length=A++(⟨9,((code.length+(cE code.length 0 c).length+1+(cSs word (code.length+(cE code.length 0 c).length+1) th).length+1:Nat):Int),0,0⟩:Ins)::(bJ th word (code.length+(cE code.length 0 c).length+1)++[(⟨8,code.length,0,0⟩:Ins)]):=by
  rw[hcS,←hA]
  simp only[br,bJ,kM,A3,l6,v7,r0,A0,y8]
 rw[e]
 exact p5.fin hK
end
theorem Mg {w:Int}{ps:Sig}{fi:Nat}{fw:Bool}:∀(N:Nat) (s:Stm) (lv:Int),mv s≤N→N≤100000000000→rS w ps fi fw lv s→eI 172 [ipS s] (nq s):=by
 intro N
 induction N using Nat.strongRecOn with
 |ind N ih=>
 intro s lv hN hN' hr
 obtain⟨kind,slot,size,e,th,el⟩:=s
 have hsz:mv (.mk kind slot size e th el)=iA e+eH th+eH el:=rfl
 rw[rS] at hr
 obtain⟨hok,hre,hrt,hrl⟩:=hr
 have hth:eI 105 [slS th] (bJ th):=tF a6 fun k s hs=>ih (mv s) YP s (lv+1) (j8 _) YP (sj hrt hs)
 have hel:eI 105 [slS el] (bJ el):=tF a6 fun k s hs=>ih (mv s) YP s (lv+1) (j8 _) YP (sj hrl hs)
 have hex:∀(k:Nat) (x:Ex) (d:Int),e[k]? = some x→eI 224 [ipE x] (br d x):=fun k x d hx=>MB (lr x) x (lv+1) d (j8 _) (by have:=lx hx;omega) (pW hre hx)
 have hE:csD (.mk kind slot size e th el)=[.int .i64 kind,.int .i64 slot,.int .i64 size,.sl (e.map cxD),.sl (oY th),.sl (oY el)]:=by simp only[csD,nn]
 intro K T B word code g ob gT ht hgT hTK hBK hK hl
 have hp:=Prog.start (K2:=K+120) ht hTK hBK hK a6
 refine hdF K Tryz.func172 rfl [] ?_
 unfold ipS
 rw[hE]
 by_cases h5:kind=5
 ·subst h5
  have hn:e.length=1:=by
   obtain⟨_,_,_,_,_,h⟩:=hok
   rcases h with⟨h,_⟩|⟨h,_⟩|⟨_,h⟩|⟨h,_⟩|⟨h,_⟩ <;> omega
  obtain⟨c,rfl⟩:∃c,e=[c]:=by
   match e,hn with
   |[c],_=>exact⟨c,rfl⟩
  simp only[go_sem]
  refine bK (Im (slot:=slot) (size:=size) (el:=el) (hex 0 c 0 rfl) hth) hp rfl hgT (by unfold ipS;rw[hE];rfl) hl ?_
  exact VT
 ·generalize hrest:(if kind=4 then ifC (code.length+(cEs code.length 0 e).length) (fun r=>cSs word r th) (!el.isEmpty) (fun r=>cSs word r el) else rR word kind slot size e.length)=rest
  have hcS:nq (.mk kind slot size e th el) word code.length=(cEs code.length 0 e).map Prod.fst++rest.map Prod.fst:=by
   simp only[nq,cS,if_neg h5,A3,hrest]
  have hlen:code.length+(cEs code.length 0 e).length+rest.length≤1000000000:=by
   simp only[hcS,j4,j5] at hl
   omega
  simp only[go_sem,h5,j4]
  refine eW (fun n s=>∃k:Nat,n+k=e.length∧s.f 0=.one (.ptr T gT 0)∧s.f 1=.one (.d (.iptr [.int .i64 kind,.int .i64 slot,.int .i64 size,.sl (e.map cxD),.sl (oY th),.sl (oY el)]))∧s.f 19=iv .i64 e.length∧s.f 20=iv .i64 k∧
   Prog K (K+120) T B word (code++(cEs code.length 0 (e.take k)).map Prod.fst) g ob s.gen s.obj) e.length ?_ ?_
  ·refine⟨0,rfl,?_⟩
   rw[K7,cEs,v7,l9]
   simp only[go_sem]
   exact hp
  ·rintro n f g1 ob1 ⟨k,hk,f0,f1,f19,f20,p1⟩
   simp only at f0 f1 f19 f20 p1
   have hkl:e.length≤iA e:=by rw[lX];omega
   have hw:=ae (k:=k) a6
   by_cases hlt:k<e.length
   ·obtain⟨x,hx⟩:=getq hlt
    have hsn:=tK e k x code.length 0 hx
    have hle:=qJ e (k+1) code.length 0
    have hl2:(cEs code.length 0 (e.take k)).length+(cE (code.length+(cEs code.length 0 (e.take k)).length) (0+k) x).length≤(cEs code.length 0 e).length:=by
     rw[hsn,j5] at hle;exact hle
    have hlc:(code++(cEs code.length 0 (e.take k)).map Prod.fst).length=code.length+(cEs code.length 0 (e.take k)).length:=by rw[j5,j4]
    simp only[go_sem,f0,f1,f19,f20,hlt,hx,j4,bY]
    refine bK (hex k x (0+k) hx) p1 rfl hgT rfl (by rw[hlc];simp only[br,j4];omega) ?_
    intro g2 ob2 p2 q2 r2
    rw[hlc] at p2
    simp only[go_sem,f0,f1,f19,f20,hw]
    refine dE (n-1) a6 ⟨k+1,a6,?_⟩
    simp only[go_sem,f0,f1,f19,f20,hw]
    rw[hsn,A3,←r0]
    exact p2
   ·have hkk:k=e.length:=a6
    subst hkk
    rw[F3] at p1
    have hlA:(code++(cEs code.length 0 e).map Prod.fst).length=code.length+(cEs code.length 0 e).length:=by rw[j5,j4]
    have hfin:∀g' ob' K2,Prog K K2 T B word (code++(cEs code.length 0 e).map Prod.fst++rest.map Prod.fst) g ob g' ob'→yn K T B word (code++nq (.mk kind slot size e th el) word code.length) g ob g' (fun i=>if decide (K≤i)=true then none else ob' i):=by
     intro g' ob' K2 hp'
     have:code++nq (.mk kind slot size e th el) word code.length=code++(cEs code.length 0 e).map Prod.fst++rest.map Prod.fst:=by rw[hcS,r0]
     rw[this]
     exact hp'.fin hK
    generalize code++(cEs code.length 0 e).map Prod.fst=A at *
    have hk:kind=1∨kind=2∨kind=3∨kind=6∨kind=7∨kind=4:=by
     obtain⟨_,_,_,_,_,h⟩:=hok
     rcases h with⟨h,_⟩|⟨h,_⟩|⟨h|h|h,_⟩|⟨h,_⟩|⟨h,_⟩ <;> omega
    rcases hk with rfl|rfl|rfl|rfl|rfl|rfl
    ·obtain rfl:[(⟨3,slot,0,0⟩,(e.length:Int))]=rest:=hrest
     have hlen:A.length+1≤1000000000:=by rw[hlA];exact hlen
     simp only[go_sem,f0,f1,f19,f20,hlt,j4]
     refine co [⟨3,slot,0,0⟩] p1 rfl hgT a6 a6 rfl rfl hlen ?_
     exact U0
    ·obtain rfl:[(⟨5,slot,size,0⟩,(e.length:Int))]=rest:=hrest
     have hlen:A.length+1≤1000000000:=by rw[hlA];exact hlen
     simp only[go_sem,f0,f1,f19,f20,hlt,j4]
     refine fX aU mixed [K+58] [([0],[0],[],false),([1],[],[],false),([49],[],[],false),([50],[],[],false),([51],[],[],false),([1],[],[],false),([53],[],[],false),([54],[],[],false),([55],[],[],false),([52,56],[],[],false),([57],[],[0],false),([48,58],[],[],true)] 1 b9 rfl a7 ?_
     simp only[go_sem]
     iterate 10 (apply aG;· (intro fa ga oa K' hK;simp only[go_sem,f0,f1] at hK ⊢;exact hK))
     (apply cK;· (intro fa ga oa K' hK;simp only[go_sem,f0,f1] at hK ⊢;exact hK))
     apply cN
     intro K' hK'
     simp only[go_sem]
     refine co [⟨5,slot,size,0⟩] p1 rfl hgT a6 a6 rfl rfl hlen ?_
     intro g2 ob2 p2 q2 r2
     refine hK' _ ?_
     simp only[go_sem]
     refine bG (fun i=>decide (K≤i)) ?_
     exact⟨rfl,hfin _ _ _ p2⟩
    ·obtain rfl:[(⟨13,0,0,0⟩,(e.length:Int))]=rest:=hrest
     have hlen:A.length+1≤1000000000:=by rw[hlA];exact hlen
     simp only[go_sem,f0,f1,f19,f20,hlt,j4]
     refine co [⟨13,0,0,0⟩] p1 rfl hgT a6 a6 rfl rfl hlen ?_
     exact U0
    ·obtain rfl:[(⟨10,slot,0,0⟩,(e.length:Int))]=rest:=hrest
     have hlen:A.length+1≤1000000000:=by rw[hlA];exact hlen
     simp only[go_sem,f0,f1,f19,f20,hlt,j4]
     refine co [⟨10,slot,0,0⟩] p1 rfl hgT a6 a6 rfl rfl hlen ?_
     exact U0
    ·by_cases hz:0<e.length
     ·obtain rfl:[(⟨11,0,0,0⟩,(e.length:Int))]=rest:=by
       rw[←hrest]
       unfold rR
       simp only[show ¬((7:Int)=4) by decide,show ¬((7:Int)=1) by decide,show ¬((7:Int)=2) by decide,show ¬((7:Int)=3) by decide,show ¬((7:Int)=6) by decide,A4,A9]
       rw[if_neg a6]
      have hlen:A.length+1≤1000000000:=by rw[hlA];exact hlen
      simp only[go_sem,f0,f1,f19,f20,hlt,j4,Int.natCast_pos,hz]
      refine co [⟨11,0,0,0⟩] p1 rfl hgT a6 a6 rfl rfl hlen ?_
      exact U0
     ·obtain rfl:leave word=rest:=by
       rw[←hrest]
       unfold rR
       simp only[show ¬((7:Int)=4) by decide,show ¬((7:Int)=1) by decide,show ¬((7:Int)=2) by decide,show ¬((7:Int)=3) by decide,show ¬((7:Int)=6) by decide,A4,A9]
       rw[if_pos a6]
      have hlen:A.length+(leave word).length≤1000000000:=by rw[hlA];exact hlen
      simp only[go_sem,f0,f1,f19,f20,hlt,j4,Int.natCast_pos,hz]
      refine bK BI p1 rfl hgT rfl (by simpa using hlen) ?_
      exact U0
    ·simp only[A9] at hrest
     cases hemp:el with
     |nil=>
       subst hemp
       obtain rfl:(⟨9,(A.length+1+(cSs word (A.length+1) th).length:Nat),0,0⟩,1)::cSs word (A.length+1) th=rest:=by
        rw[←hrest,←hlA];rfl
       have hlen:A.length+(1+(cSs word (A.length+1) th).length)≤1000000000:=by
        rw[j6,←hlA] at hlen;omega
       have hlB:(A++[(⟨9,0,0,0⟩:Ins)]).length=A.length+1:=by rw[j5];rfl
       simp only[go_sem,f0,f1,f19,f20,hlt,j4]
       refine iJ p1 rfl hgT rfl a6 ?_
       intro g2 ob2 gI gJ p2 o1 q2 r2
       simp only[go_sem,f0,f1]
       refine bK hth p2 rfl hgT rfl YV ?_
       intro g3 ob3 p3 q3 r3
       rw[hlB] at p3
       have p3:Prog K (K+120+6) T B word (A++(⟨9,0,0,0⟩:Ins)::bJ th word (A.length+1)) g ob g3 ob3:=by
        have:=p3
        exact VW
       have o1:=o1.same (g':=g3) (ob':=ob3) (q3 _ a6 a6) (q3 _ a6 a6) (r3 _ a6 a6) (r3 _ a6 a6)
       simp only[go_sem,f1,oY,j7]
       refine gf p3 o1 rfl hgT rfl rfl (by simp only[j5,j6,bJ,j4,j7];omega) ?_
       intro ob4 p4 r4
       simp only[go_sem]
       refine iE (fun i=>decide (K≤i)) ?_
       refine⟨rfl,hfin _ _ (K+120+6) ?_⟩
       have e1:(A++(⟨9,0,0,0⟩:Ins)::bJ th word (A.length+1)).length=A.length+1+(cSs word (A.length+1) th).length:=by
        simp only[j5,j6,bJ,j4,j7];omega
       rw[e1] at p4
       exact p4
     |cons y ys=>
       rw[←hemp]
       have hne:el.isEmpty=false:=by rw[hemp];rfl
       have hll:0<el.length:=by rw[hemp];simp
       have hll0:¬(el.length:Int)=0:=a6
       obtain rfl:(⟨9,(A.length+1+(cSs word (A.length+1) th).length+1:Nat),0,0⟩,1)::(cSs word (A.length+1) th++(⟨8,(A.length+1+(cSs word (A.length+1) th).length+1+(cSs word (A.length+1+(cSs word (A.length+1) th).length+1) el).length:Nat),0,0⟩,0)::cSs word (A.length+1+(cSs word (A.length+1) th).length+1) el)=rest:=by
        rw[←hrest,←hlA,hne];rfl
       have hlen:A.length+(1+(cSs word (A.length+1) th).length+1+(cSs word (A.length+1+(cSs word (A.length+1) th).length+1) el).length)≤1000000000:=by
        simp only[j6,j5,←hlA] at hlen;omega
       have hlB:(A++[(⟨9,0,0,0⟩:Ins)]).length=A.length+1:=by rw[j5];rfl
       simp only[go_sem,f0,f1,f19,f20,hlt,j4]
       refine iJ p1 rfl hgT rfl a6 ?_
       intro g2 ob2 gI gJ p2 o1 q2 r2
       simp only[go_sem,f0,f1]
       refine bK hth p2 rfl hgT rfl YV ?_
       intro g3 ob3 p3 q3 r3
       rw[hlB] at p3
       have o1:=o1.same (g':=g3) (ob':=ob3) (q3 _ a6 a6) (q3 _ a6 a6) (r3 _ a6 a6) (r3 _ a6 a6)
       have hlC:(A++[(⟨9,0,0,0⟩:Ins)]++bJ th word (A.length+1)).length=A.length+1+(cSs word (A.length+1) th).length:=by rw[j5,hlB];simp only[bJ,j4]
       simp only[go_sem,f0,f1,Fc,hll0]
       refine iJ p3 rfl hgT rfl a6 ?_
       intro g4 ob4 gI2 gJ2 p4 o2 q4 r4
       have o1:=o1.same (g':=g4) (ob':=ob4) (q4 _ a6 a6) (q4 _ a6 a6) (r4 _ a6 a6 a6) (r4 _ a6 a6 a6)
       have p4:Prog K (K+120+6+6) T B word (A++(⟨9,0,0,0⟩:Ins)::(bJ th word (A.length+1)++[(⟨8,0,0,0⟩:Ins)])) g ob g4 ob4:=by
        have:=p4
        exact VW
       have hlD:(A++(⟨9,0,0,0⟩:Ins)::(bJ th word (A.length+1)++[(⟨8,0,0,0⟩:Ins)])).length=A.length+1+(cSs word (A.length+1) th).length+1:=by
        simp only[j5,j6,j7,bJ,j4];omega
       simp only[go_sem]
       refine gf p4 o1 rfl hgT rfl rfl (by rw[hlD];omega) ?_
       intro ob5 p5 r5
       rw[hlD] at p5
       have o2:=o2.same (g':=g4) (ob':=ob5) rfl rfl (r5 _ a6) (r5 _ a6)
       have hlE:(A++(⟨9,((A.length+1+(cSs word (A.length+1) th).length+1:Nat):Int),0,0⟩:Ins)::(bJ th word (A.length+1)++[(⟨8,0,0,0⟩:Ins)])).length=A.length+1+(cSs word (A.length+1) th).length+1:=by
        simp only[j5,j6,j7,bJ,j4];omega
       simp only[go_sem,f0,f1]
       refine bK hel p5 rfl hgT rfl (by rw[hlE];simp only[bJ,j4];omega) ?_
       intro g6 ob6 p6 q6 r6
       rw[hlE] at p6
       have o2:=o2.same (g':=g6) (ob':=ob6) (q6 _ a6 a6) (q6 _ a6 a6) (r6 _ a6 a6) (r6 _ a6 a6)
       have p6:Prog K (K+120+6+6) T B word ((A++(⟨9,((A.length+1+(cSs word (A.length+1) th).length+1:Nat):Int),0,0⟩:Ins)::bJ th word (A.length+1))++(⟨8,0,0,0⟩:Ins)::bJ el word (A.length+1+(cSs word (A.length+1) th).length+1)) g ob g6 ob6:=by
        have:=p6
        exact VW
       have hlG:(A++(⟨9,((A.length+1+(cSs word (A.length+1) th).length+1:Nat):Int),0,0⟩:Ins)::bJ th word (A.length+1)).length=(A++[(⟨9,0,0,0⟩:Ins)]++bJ th word (A.length+1)).length:=a7
       have hlH:((A++(⟨9,((A.length+1+(cSs word (A.length+1) th).length+1:Nat):Int),0,0⟩:Ins)::bJ th word (A.length+1))++(⟨8,0,0,0⟩:Ins)::bJ el word (A.length+1+(cSs word (A.length+1) th).length+1)).length=A.length+1+(cSs word (A.length+1) th).length+1+(cSs word (A.length+1+(cSs word (A.length+1) th).length+1) el).length:=by
        simp only[j5,j6,j7,bJ,j4];omega
       rw[←hlG] at o2
       simp only[go_sem]
       refine gf p6 o2 rfl hgT rfl rfl (by rw[hlH];omega) ?_
       intro ob7 p7 r7
       rw[hlH] at p7
       simp only[go_sem]
       refine bG (fun i=>decide (K≤i)) ?_
       refine⟨rfl,hfin _ _ (K+120+6+6) ?_⟩
       have e1:A++List.map Prod.fst (((⟨9,((A.length+1+(cSs word (A.length+1) th).length+1:Nat):Int),0,0⟩:Ins),(1:Int))::(cSs word (A.length+1) th++(⟨8,((A.length+1+(cSs word (A.length+1) th).length+1+(cSs word (A.length+1+(cSs word (A.length+1) th).length+1) el).length:Nat):Int),0,0⟩,0)::cSs word (A.length+1+(cSs word (A.length+1) th).length+1) el)) =
         (A++(⟨9,((A.length+1+(cSs word (A.length+1) th).length+1:Nat):Int),0,0⟩:Ins)::bJ th word (A.length+1))++(⟨8,((A.length+1+(cSs word (A.length+1) th).length+1+(cSs word (A.length+1+(cSs word (A.length+1) th).length+1) el).length:Nat):Int),0,0⟩:Ins)::bJ el word (A.length+1+(cSs word (A.length+1) th).length+1):=by
        simp only[bJ,A3,l6,r0,A0]
       rw[e1]
       exact p7
section
def vj (fs:List Src.CFn):Nat:=(fs.map fun x=>eH x.body).sum
def pT (fs:List Src.CFn) (k:Nat):Nat:=vj (fs.take k)
theorem zY (fs:List Src.CFn) (k:Nat):pT fs k≤vj fs:=by
 conv=>rhs;rw[←G2 k fs]
 simp only[pT,vj,A3,J3];omega
variable {w:Int}{ps:Sig}{fs:List Src.CFn}{x:Src.CFn}
theorem wC{k:Nat} (h:fs[k]? = some x):pT fs (k+1)=pT fs k+eH x.body:=by
 simp only[pT,vj,A8,h,H4,A3,J3,l6,v7,E0,Q7];omega
def bD (x:Ins):List D:=[.int .i64 x.op,.int .i64 x.a,.int .i64 x.b,.int .u32 x.n]
abbrev rQ (l:Lower.Code):D:=.sl ((l.map Prod.fst).map bD)
theorem Io{fi:Nat}{fw:Bool}{l:List Stm}{lv:Int} (hN:eH l≤100000000000) (hr:rSs w ps fi fw lv l):eI 105 [slS l] (bJ l):=
 tF a6 fun k s hs=>Mg (mv s) s lv (j8 _) YP (sj hr hs)
theorem Mh{fi:Nat}{fw:Bool} (hr:rSs w ps fi fw 1 x.body) (hN:eH x.body≤100000000000) (hl:(codeOf x.word x.body).length≤1000000000) :
  aA Tryz.prog 60 [.agg ((cfD x).map .d)] (· = .one (.d (rQ (codeOf x.word x.body)))):=by
 refine hdP Tryz.func60 rfl [2] fun g=>?_
 have hl2:(cSs x.word 0 x.body).length+(leave x.word).length≤1000000000:=by rw[codeOf,j5] at hl;exact hl
 simp only[go_sem,cfD,j4]
 refine AL _ (bV (t:=3) (o:=3) (b:=20) (j:=1) (sz:=4) (off:=0) rfl rfl rfl a8) ?_
 simp only[St.claimAt]
 have hp:Prog 21 21 3 20 x.word [] (upd (upd (upd g 1 (nxC 124 (g 1))) 3 (nxC 190 (g 3))) 20 (g 20+1)) _ _ _:=Prog.start (ob:=upd (upd (upd (upd (upd (fun _=>none) 1 (some [.d (.int .i64 x.params),.d (.int .i64 x.slots),.d (.int .i64 x.first),.d (.bool x.word),.d (.sl (x.body.map csD))])) 3 (some [.d (.bool false),.d .nsl])) 3 (some [.d (.bool x.word),.d .nsl])) 3 (some [.d (.bool x.word),.osl 20 (g 20+1) 4 0 0])) 20 (some []))
  ⟨by simp[upd],by simp[upd,CO],a8⟩ a8 a8 (fun i hi=>by simp only[upd];rw[if_neg a6,if_neg a6,if_neg a6,if_neg a6,if_neg a6]) (j8 _)
 refine bK (Io hN hr) hp rfl (gT:=nxC 190 (g 3)) XI (by simp only[slS,np];rfl) (by simp only[bJ,j4,j7,C2];omega) ?_
 intro g1 ob1 p1 q1 r1
 have hlc:([]++bJ x.body x.word ([]:List Ins).length).length=(cSs x.word 0 x.body).length:=by simp only[bJ,y8,j4,j7]
 simp only[go_sem]
 refine bK BI p1 rfl XI rfl (by rw[hlc,j4];exact hl2) ?_
 intro g2 ob2 p2 q2 r2
 have e:[]++bJ x.body x.word ([]:List Ins).length++(leave x.word).map Prod.fst=(codeOf x.word x.body).map Prod.fst:=by simp only[bJ,codeOf,y8,A3,j7]
 rw[e] at p2
 have g3:g2 3=nxC 190 (g 3):=by rw[q2 3 a8 a8,q1 3 a8 a8];simp[upd]
 simp only[go_sem,p2.tape.t,g3]
 refine⟨_,⟨_,dK (s:=⟨_,_,_⟩) rfl ((codeOf x.word x.body).map Prod.fst) bD p2.tape.b c9 (fun a _ y hy=>?_) (fun _ _=>rfl) (j4 _),rfl⟩,rfl⟩
 simp only[bD,y2,z7,D6] at hy
 rcases hy with rfl|rfl|rfl|rfl <;> rfl
def sfD (x:Src.CFn):List D:=[.int .i64 x.params,.int .i64 x.slots,.int .i64 x.first,.bool x.word,rQ (codeOf x.word x.body)]
def iV (w:Int) (fs:List Src.CFn):AV:=.agg [.d (.int .i64 w),.d (.sl (fs.map sfD))]
theorem Ip (x:Src.CFn):(sfD x).length=5:=rfl
def Kx (fs:List Src.CFn):Prop:=∀x∈fs,(codeOf x.word x.body).length≤1000000000
theorem QQ (hN:vj fs≤100000000000) (hF:fs.length≤1000000) (hsh:Kx fs) (hr:∀(k:Nat) (x:Src.CFn),fs[k]? = some x→rSs w ps k x.word 1 x.body):aA Tryz.prog 26 [oB ⟨w,fs⟩] (· = iV w fs):=by
 refine hdR Tryz.func26 rfl [.cell 2 69] fun g=>?_
 unfold oB
 simp only[go_sem,j4]
 refine wZ _ (bV (t:=3) (o:=3) (b:=30) (j:=1) (sz:=5) (off:=0) rfl rfl rfl a8) (fun n s=>∃k:Nat,n+k=fs.length∧s.f 2=.one (.ptr 2 (s.gen 2) 0)∧s.f 3=.one (.ptr 3 (s.gen 3) 0)∧s.f 10=.one (.d (.sl (fs.map cfD)))∧s.f 11=iv .i64 fs.length∧s.f 12=iv .i64 k∧s.obj 2=some [.d (.int .i64 0),.d .nsl]∧s.obj 3=some [.d (.int .i64 w),.osl 30 (s.gen 30) 5 0 k]∧
  s.obj 30=some ((fs.take k).flatMap fun x=>(sfD x).map .d)) fs.length ?_ ?_
 ·refine⟨0,rfl,?_⟩
  simp only[St.claimAt]
  simp only[go_sem,List.flatMap_nil]
  try rfl
 ·clear g
  rintro n f g ob ⟨k,hk,f2,f3,f10,f11,f12,o2,o3,o30⟩
  simp only at f2 f3 f10 f11 f12 o2 o3 o30
  have hw:=ae (k:=k) a6
  have hfl:∀l:List Src.CFn,(l.flatMap fun x=>(sfD x).map C.d).length=l.length*5:=by
   intro l
   induction l with
   |nil=>rfl
   |cons a l ih=>simp only[C9,j5,ih,j4,Ip,j6];omega
  by_cases hlt:k<fs.length
  ·obtain⟨x,hx⟩:=getq hlt
   have hxs:eH x.body≤100000000000:=by
    have h2:=wC hx
    have h3:=zY fs (k+1)
    omega
   have htl:(fs.take k).length=k:=by rw[D2];omega
   simp only[go_sem,f2,f3,f10,f11,f12,o2,o3,o30,hlt,hx,j4,cfD]
   refine fX aU mixed [29,30,3] [([3],[0],[],false),([16],[0],[],false),([5],[],[],false),([18],[],[],false),([5],[],[],false),([20],[],[],false),([5],[],[],false),([22],[],[],false),([5],[],[],false),([24],[],[],false),([5],[],[],false),([26],[],[],false),([19,21,23,25,27],[],[],false),([28],[],[0],false),([17,29],[],[1],false),([3],[],[],false),([31,30],[],[],true)] 3 b9 rfl a8 ?_
   simp only[go_sem]
   iterate 11 (apply aG;· (intro fa ga oa K' hK;simp only[go_sem,f3,o3,setAt] at hK ⊢;exact hK))
   apply aG
   ·intro fa ga oa K' hK
    simp only[go_sem] at hK ⊢
    refine uK rfl (Mh (hr k x hx) hxs (hsh x (l4 hx))) c9 ?_
    exact Wx
   (apply aG;· (intro fa ga oa K' hK;simp only[go_sem,f3,o3] at hK ⊢;exact hK))
   (apply cK;· (intro fa ga oa K' hK;simp only[go_sem,f3,o3] at hK ⊢;exact hK))
   apply cK
   ·intro fa ga oa K' hK
    simp only[go_sem,o30,hfl,htl] at hK ⊢
    refine⟨?_,?_,hK⟩
    ·omega
    ·exact⟨a8,a6⟩
   (apply aG;· (intro fa ga oa K' hK;simp only[go_sem,f3,o3] at hK ⊢;exact hK))
   apply cN
   intro K' hK'
   simp only[go_sem,f3,o3]
   refine hK' _ ?_
   simp only[go_sem,f2,f3,f10,f11,f12,o2,hw]
   refine dE (n-1) a6 ⟨k+1,a6,?_⟩
   simp only[go_sem,f2,f3,f10,f11,f12,o2,hw]
   rw[A8,hx,N0,l5 (by rw[hfl,htl];exact j8 _)]
   rfl
  ·have hkk:k=fs.length:=a6
   subst hkk
   simp only[go_sem,f2,f3,f10,f11,f12,o2,o3,hlt,j4]
   rw[F3] at o30
   refine⟨_,⟨[.int .i64 w,.sl (fs.map sfD)],rfl,fun i c hc=>?_,rfl⟩,rfl⟩
   match i,hc with
   |0,hc=>cases hc;exact⟨_,rfl,.d _⟩
   |1,hc=>
     cases hc
     refine⟨_,rfl,dK (s:=⟨_,_,_⟩) rfl fs sfD ?_ rfl (fun a _ y hy=>?_) (fun _ _=>rfl) rfl⟩
     ·simp only[upd];exact o30
     ·simp only[sfD,y2,z7,D6] at hy
      rcases hy with rfl|rfl|rfl|rfl|rfl <;> rfl
end
end
end Go.Proofs.YthnomjfdcidgbaaGreatDoor.Low
namespace Go.Src
section
open Go.Asm (Str)
open Go.Lower (Sig within callee rE rEs rS rSs)
section
def sigs (fs:List Fn):Sig:=fs.map fun f=>((f.params.length:Int),f.word)
structure og (fs:List Fn) (W:Int) (k:Nat) (fnd:Str→Option (Nat×Nat)) (pl:Str→Int×Int):Prop where
 no:pl []=(0,0)
 var:∀s kd n,fnd s=some (kd,n)→kd=1∨kd=2→within W (pl s).1 1∧(pl s).2=0
 arr:∀s n,fnd s=some (3,n)→1≤(pl s).2∧(pl s).2≤4096∧within W (pl s).1 (pl s).2
 fn:∀s n,fnd s=some (4,n)→n<k→(pl s).1=n∧(pl s).2=0∧∃f,fs[n]? = some f∧cV fs s=some f
section
variable {fs:List Fn}{W:Int}{k:Nat}{o i:Pl}{fnd:Str→Option (Nat×Nat)}
theorem ui:∀l:List Ex,(dW o i l).length=l.length:=fun l=>by rw[kz,j4]
theorem uj:∀l:List Stm,(du o i l).length=l.length:=fun l=>by rw[kA,j4]
theorem vA (H:og fs W k fnd (dt o i)) {name:Str}{args:Nat}{w:Bool} (h1:bU fnd k 4 name=true) (h2:gN fnd fs k 4 name args=true) (h3:lD fs name=w):callee (sigs fs) k (dt o i name).1 args w∧(dt o i name).2=0:=by
 unfold bU at h1
 cases hf:fnd name with
 |none=>rw[hf] at h1;cases h1
 |some t=>
   obtain⟨kd,n⟩:=t
   rw[hf] at h1
   simp only[show ¬(4:Nat)=2 by decide,show ¬(4:Nat)=3 by decide,A4,s6,H7,B9] at h1
   obtain⟨rfl,hn⟩:=h1
   obtain⟨e1,e2,f,hfn,hff⟩:=H.fn name n hf hn
   unfold gN at h2
   rw[hf] at h2
   simp[hn,hfn] at h2
   unfold lD at h3
   rw[hff] at h3
   simp only at h3
   refine⟨⟨n,e1,hn,?_⟩,e2⟩
   unfold sigs
   rw[x7,hfn,y1,h2,h3]
mutual
theorem zc (H:og fs W k fnd (dt o i)):∀(e:Ex) (lv:Nat),gp lv e=true→okE (fun a b _=>bU fnd k a b) e=true→okE (fun a b c=>gN fnd fs k a b c) e=true→lE fs e≠0→rE W (sigs fs) k lv (ik o i e)
 |.mk kind op num name kids,lv,h1,h2,h3,h4=>by
   rw[gp] at h1
   rw[okE] at h2 h3
   rw[lE] at h4
   simp only[s6,B9] at h1 h2 h3
   obtain⟨hlv,hform,hkr⟩:=h1
   rw[ik,rE]
   have hlvi:(lv:Int)≤24:=a6
   have hlen:=ui (o:=o) (i:=i) kids
   unfold Lower.okE
   rw[hlen]
   have hnil:kids=[]→rEs W (sigs fs) k (lv+1) (dW o i kids):=fun e=>by rw[e,dW,rEs];trivial
   have hkids:∀t,eU fs t kids=true→t≠0→rEs W (sigs fs) k (lv+1) (dW o i kids):=fun t ha ht=>by
    have:=ml H kids (lv+1) t hkr h2.2 h3.2 ha ht
    exact W0
   have hno:name=[]→dt o i name=(0,0):=fun e=>by rw[e];exact H.no
   unfold bE aj at hform
   by_cases k1:kind=1
   ·subst k1
    simp at hform
    obtain⟨⟨ho,hn⟩,hl⟩:=hform
    have hl0:kids=[]:=by first|exact hl|exact I6.1 hl
    rw[hno hn]
    exact⟨⟨hlvi,.inl rfl,.inr ho,.inr rfl,.inr (.inr (.inr rfl)),.inl ⟨.inl rfl,by rw[hl0];rfl⟩⟩,hnil hl0⟩
   by_cases k2:kind=2
   ·subst k2
    simp at hform
    obtain⟨⟨⟨ho,hnum⟩,hn⟩,hl⟩:=hform
    have hl0:kids=[]:=by first|exact hl|exact I6.1 hl
    have h2':=h2.1
    simp only[A9] at h2'
    unfold bU at h2'
    cases hf:fnd name with
    |none=>rw[hf] at h2';cases h2'
    |some t=>
      obtain⟨kd,n⟩:=t
      rw[hf] at h2'
      simp at h2'
      obtain⟨w1,w2⟩:=H.var name kd n hf h2'
      exact⟨⟨hlvi,.inr hnum,.inr ho,.inr w2,.inl rfl,.inr (.inl ⟨rfl,w1,by rw[hl0];rfl⟩)⟩,hnil hl0⟩
   by_cases k5:kind=5
   ·subst k5
    simp at hform
    obtain⟨⟨⟨ho,hnum⟩,hn⟩,hl⟩:=hform
    have hl0:kids=[]:=by first|exact hl|exact I6.1 hl
    rw[hno hn]
    exact⟨⟨hlvi,.inr hnum,.inr ho,.inr rfl,.inr (.inr (.inr rfl)),.inl ⟨.inr rfl,by rw[hl0];rfl⟩⟩,hnil hl0⟩
   by_cases k3:kind=3
   ·subst k3
    simp at hform
    obtain⟨⟨⟨ho,hnum⟩,hn⟩,hl⟩:=hform
    have h2':=h2.1
    simp at h2'
    unfold bU at h2'
    simp at h4
    cases hf:fnd name with
    |none=>rw[hf] at h2';cases h2'
    |some t=>
      obtain⟨kd,n⟩:=t
      rw[hf] at h2'
      simp at h2'
      subst h2'
      obtain⟨a1,a2,a3⟩:=H.arr name n hf
      exact⟨⟨hlvi,.inr hnum,.inr ho,.inl rfl,.inr (.inl rfl),.inr (.inr (.inl ⟨rfl,a1,a2,a3,hl⟩))⟩,hkids 1 h4 a8⟩
   by_cases k4:kind=4
   ·subst k4
    simp at hform
    obtain⟨⟨⟨ho,hnum⟩,hn⟩,hl⟩:=hform
    have h2':=h2.1
    have h3':=h3.1
    simp at h2' h3' h4
    obtain⟨c1,c2⟩:=vA H h2' h3' h4.1
    exact⟨⟨hlvi,.inr hnum,.inr ho,.inr c2,.inr (.inr (.inl rfl)),.inr (.inr (.inr (.inl ⟨rfl,c1⟩)))⟩,hkids 1 h4.2 a8⟩
   by_cases k6:kind=6
   ·subst k6
    simp at hform
    obtain⟨⟨⟨ho,hnum⟩,hn⟩,hl⟩:=hform
    simp at h4
    rw[hno hn]
    exact⟨⟨hlvi,.inr hnum,.inl rfl,.inr rfl,.inr (.inr (.inr rfl)),.inr (.inr (.inr (.inr (.inl ⟨rfl,ho.1,ho.2,hl⟩))))⟩,hkids 1 h4.1 a8⟩
   by_cases k7:kind=7
   ·subst k7
    simp at hform
    obtain⟨⟨⟨ho,hnum⟩,hn⟩,hl⟩:=hform
    simp at h4
    rw[hno hn]
    exact⟨⟨hlvi,.inr hnum,.inr ho,.inr rfl,.inr (.inr (.inr rfl)),.inr (.inr (.inr (.inr (.inr (.inl ⟨rfl,hl⟩)))))⟩,hkids 2 h4 a8⟩
   by_cases k8:kind=8∨kind=9
   ·simp[k1,k2,k3,k4,k5,k6,k7,k8] at hform
    obtain⟨⟨⟨ho,hnum⟩,hn⟩,hl⟩:=hform
    have ha:eU fs 2 kids=true:=by
     rw[if_neg a6,if_neg a6,if_neg k3,if_neg k4,if_neg k6] at h4
     simpa using h4
    rw[hno hn]
    exact⟨⟨hlvi,.inr hnum,.inr ho,.inr rfl,.inr (.inr (.inr rfl)),.inr (.inr (.inr (.inr (.inr (.inr ⟨k8,hl⟩)))))⟩,hkids 2 ha a8⟩
   ·simp[k1,k2,k3,k4,k5,k6,k7,k8] at hform
theorem ml (H:og fs W k fnd (dt o i)):∀(l:List Ex) (lv:Nat) (t:Int),bp lv l=true→dO (fun a b _=>bU fnd k a b) l=true→dO (fun a b c=>gN fnd fs k a b c) l=true→eU fs t l=true→t≠0→rEs W (sigs fs) k lv (dW o i l)
 |[],lv,t,_,_,_,_,_=>by rw[dW,rEs];trivial
 |e::l,lv,t,h1,h2,h3,h4,h5=>by
   rw[bp,s6] at h1
   rw[dO,s6] at h2 h3
   rw[eU,s6,B9] at h4
   rw[dW,rEs]
   exact⟨zc H e lv h1.1 h2.1 h3.1 (by rw[h4.1];exact h5),ml H l lv t h1.2 h2.2 h3.2 h4.2 h5⟩
end
mutual
theorem zd {w:Bool} (H:og fs W k fnd (dt o i)):∀(s:Stm) (lv:Nat),fK lv s=true→okS (fun a b _=>bU fnd k a b) s=true→okS (fun a b c=>gN fnd fs k a b c) s=true→qV fs w s=true→rS W (sigs fs) k w lv (coreS o i s)
 |.mk kind name e th el,lv,h1,h2,h3,h4=>by
   rw[fK] at h1
   rw[okS] at h2 h3
   rw[qV] at h4
   simp only[s6,B9] at h1 h2 h3 h4
   obtain⟨⟨hlv,hform,hkr⟩,hth,hel⟩:=h1
   obtain⟨⟨⟨c6,c7⟩,hall⟩,htt,hte⟩:=h4
   rw[coreS,rS]
   have hlvi:(lv:Int)≤24:=a6
   unfold Lower.okS
   rw[ui,uj,uj]
   have r1:rEs W (sigs fs) k (lv+1) (dW o i e):=by
    have:=ml H e (lv+1) _ hkr h2.1.1.2 h3.1.1.2 hall (by split <;> decide)
    exact W0
   have r2:rSs W (sigs fs) k w (lv+1) (du o i th):=by
    have:=jZ H th (lv+1) hth h2.1.2 h3.1.2 htt
    exact W0
   have r3:rSs W (sigs fs) k w (lv+1) (du o i el):=by
    have:=jZ H el (lv+1) hel h2.2 h3.2 hte
    exact W0
   refine⟨?_,r1,r2,r3⟩
   have hno:name=[]→dt o i name=(0,0):=fun e=>by rw[e];exact H.no
   have hvar:bU fnd k 2 name=true→within W (dt o i name).1 1∧(dt o i name).2=0:=fun h=>by
    unfold bU at h
    cases hf:fnd name with
    |none=>rw[hf] at h;cases h
    |some t=>
      obtain⟨kd,n⟩:=t
      rw[hf] at h
      simp at h
      exact H.var name kd n hf h
   unfold cl aj at hform
   by_cases k1:kind=1
   ·subst k1
    simp at hform
    have h2':=h2.1.1.1
    simp at h2'
    obtain⟨w1,w2⟩:=hvar h2'
    exact⟨hlvi,.inr w2,.inl rfl,.inr Yb,.inr (.inr Yc),.inl ⟨rfl,w1,hform.2.1⟩⟩
   by_cases k2:kind=2
   ·subst k2
    simp at hform
    have h2':=h2.1.1.1
    simp at h2'
    unfold bU at h2'
    cases hf:fnd name with
    |none=>rw[hf] at h2';cases h2'
    |some t=>
      obtain⟨kd,n⟩:=t
      rw[hf] at h2'
      simp at h2'
      subst h2'
      obtain⟨a1,a2,a3⟩:=H.arr name n hf
      exact⟨hlvi,.inl rfl,.inr (.inl rfl),.inr Yb,.inr (.inr Yc),.inr (.inl ⟨rfl,a1,a2,a3,hform.2.1⟩)⟩
   by_cases k3:kind=3
   ·subst k3
    simp at hform
    rw[hno hform.1]
    exact⟨hlvi,.inr rfl,.inr (.inr (.inr rfl)),.inr Yb,.inr (.inr Yc),.inr (.inr (.inl ⟨.inl rfl,hform.2.1⟩))⟩
   by_cases k4:kind=4
   ·subst k4
    simp at hform
    rw[hno hform.1]
    exact⟨hlvi,.inr rfl,.inr (.inr (.inr rfl)),.inl rfl,.inl rfl,.inr (.inr (.inl ⟨.inr (.inl rfl),hform.2⟩))⟩
   by_cases k5:kind=5
   ·subst k5
    simp at hform
    rw[hno hform.1]
    exact⟨hlvi,.inr rfl,.inr (.inr (.inr rfl)),.inr (by first|exact hform.2.2|(simp[hform.2.2])),.inr (.inl rfl),.inr (.inr (.inl ⟨.inr (.inr rfl),hform.2.1⟩))⟩
   by_cases k6:kind=6
   ·subst k6
    simp at hform
    have h2':=h2.1.1.1
    have h3':=h3.1.1.1
    simp at h2' h3' c6
    obtain⟨d1,d2⟩:=vA H h2' h3' c6
    exact⟨hlvi,.inr d2,.inr (.inr (.inl rfl)),.inr Yb,.inr (.inr Yc),.inr (.inr (.inr (.inl ⟨rfl,d1⟩)))⟩
   by_cases k7:kind=7
   ·subst k7
    simp at hform c7
    rw[hno hform.1]
    refine⟨hlvi,.inr rfl,.inr (.inr (.inr rfl)),.inr Yb,.inr (.inr Yc),.inr (.inr (.inr (.inr ⟨rfl,?_⟩)))⟩
    by_cases h0:e.length=0
    ·exact .inl h0
    ·have hp:0<e.length:=a6
     exact .inr ⟨by first|exact c7 hp|exact c7 (Q1.1 hp)|(simp_all),by omega⟩
   ·simp[k1,k2,k3,k4,k5,k6,k7] at hform
theorem jZ {w:Bool} (H:og fs W k fnd (dt o i)):∀(l:List Stm) (lv:Nat),bg lv l=true→er (fun a b _=>bU fnd k a b) l=true→er (fun a b c=>gN fnd fs k a b c) l=true→dj fs w l=true→rSs W (sigs fs) k w lv (du o i l)
 |[],lv,_,_,_,_=>by rw[du,rSs];trivial
 |s::l,lv,h1,h2,h3,h4=>by
   rw[bg,s6] at h1
   rw[er,s6] at h2 h3
   rw[dj,s6] at h4
   rw[du,rSs]
   exact⟨zd H s lv h1.1 h2.1 h3.1 h4.1,jZ H l lv h1.2 h2.2 h3.2 h4.2⟩
end
end
end
section
theorem kH {α β γ:Type} (f:Nat→α→β) (g:β→γ) (l:List α):(l.mapIdx f).map g=l.mapIdx fun i a=>g (f i a):=by
 apply L8
 intro i
 rw[x7,M4,M4]
 cases l[i]? <;> rfl
theorem FX:∀(l:List Str) (m:Pl) (w:Int),gV l m w=((l.mapIdx fun i n=>((n,w+(i:Int),0):Str×Int×Int)).reverse++m,w+l.length)
 |[],m,w=>by simp[gV]
 |n::l,m,w=>by
   rw[gV,FX l,M7]
   simp only[L9,r0,G8,j6,I3]
   refine⟨?_,by push_cast;omega⟩
   congr 1
   ·congr 1
    congr 1
    funext i n
    simp only[I3,I8,R8]
    push_cast;omega
   ·simp
theorem FY:∀(l:List (Str×Int)) (m:Pl) (w:Int),gA l m w=((l.mapIdx fun i a=>((a.1,w+((l.take i).map (·.2)).sum,a.2):Str×Int×Int)).reverse++m,w+(l.map (·.2)).sum)
 |[],m,w=>by simp[gA]
 |n::l,m,w=>by
   rw[gA,FY l,M7]
   simp only[L9,r0,G8,l6,E0,I3]
   refine⟨?_,a6⟩
   congr 1
   ·congr 1
    congr 1
    funext i n
    simp only[E4,l6,E0,I3,I8,R8]
    omega
   ·simp
theorem KA:∀(l:List Fn) (j:Nat) (m:Pl),gF j l m=(l.mapIdx fun i f=>((f.name,((j+i:Nat):Int),0):Str×Int×Int)).reverse++m
 |[],j,m=>by simp[gF]
 |n::l,j,m=>by
   rw[gF,KA l,M7]
   simp only[L9,r0,G8]
   congr 1
   ·congr 1
    congr 1
    funext i n
    simp only[I3,I8,R8]
    push_cast;omega
theorem FZ (w:Int):∀(l:List Str) (j:Nat) (m:Pl),lP w j l m=(l.mapIdx fun i n=>((n,w+((j+i:Nat):Int),0):Str×Int×Int)).reverse++m
 |[],j,m=>by simp[lP]
 |n::l,j,m=>by
   rw[lP,FZ w l,M7]
   simp only[L9,r0,G8]
   congr 1
   ·congr 1
    congr 1
    funext i n
    simp only[I3,I8,R8]
    push_cast;omega
theorem tX (enc:Nat×Nat→Int×Int) (s:Str):∀(n:Nat) (T:List Th),T.length=n→ce [] T=true→ju ((T.map fun t=>(t.1,enc t.2)).reverse) s=(aK T s).map enc:=by
 intro n
 induction n with
 |zero=>intro T hT _;rw[I6.1 hT];rfl
 |succ n ih=>
   intro T hT hu
   obtain⟨l,t,rfl⟩:∃l t,T=l++[t]:=⟨T.dropLast,T.getLast (by intro h;rw[h] at hT;cases hT),(L3 _).symm⟩
   rw[qh,s6] at hu
   have hl:l.length=n:=by rw[j5] at hT;simpa using hT
   have hn:aK l t.1=none:=by simpa using hu.2
   rw[A3,Q3,rG]
   simp only[l6,v7,L9,List.reverse_nil,y8,G8,ju]
   by_cases hs:t.1=s
   ·rw[if_pos hs]
    rw[hs] at hn
    rw[hn]
    simp[aK,hs]
   ·rw[if_neg hs,ih l hl hu.1]
    cases aK l s with
    |some x=>rfl
    |none=>simp[aK,hs]
def tY (p:Prog) (n:Nat):Int:=p.vars.length+((p.arrays.take n).map (·.2)).sum
def wP (p:Prog) (n:Nat):Int:=((p.arrays[n]?).map (·.2)).getD 0
def tZ (p:Prog) (w:Int) (t:Nat×Nat):Int×Int:=if t.1=3 then(tY p t.2,wP p t.2) else if t.1=1 then(w+t.2,0) else((t.2:Int),0)
theorem ua (p:Prog) (w:Int):(bb p).1=((bF p).map fun t=>(t.1,tZ p w t.2)).reverse:=by
 unfold bb bF
 simp only
 rw[KA,FY,FX]
 simp only[A3,Q3,l9]
 congr 1
 ·congr 1
  unfold thF
  rw[kH]
  congr 1
  funext i f
  simp[tZ]
 ·congr 1
  ·congr 1
   apply L8
   intro i
   unfold thA
   rw[x7,M4,M4]
   cases hq:p.arrays[i]? with
   |none=>rfl
   |some a=>simp[tZ,tY,wP,hq]
  ·congr 1
   unfold thV
   rw[kH]
   congr 1
   funext i f
   simp[tZ]
theorem uF (p:Prog) (f:Fn) (w:Int):lP (w+f.params.length) 0 f.locals (lP w 0 f.params [])=((bM f).map fun t=>(t.1,tZ p w t.2)).reverse:=by
 unfold bM
 rw[FZ,FZ]
 simp only[A3,Q3,l9]
 congr 1
 ·congr 1
  unfold thL
  rw[kH]
  congr 1
  funext i f
  simp[tZ]
  omega
 ·congr 1
  unfold thL
  rw[kH]
  congr 1
theorem qe (p:Prog) (f:Fn) (w:Int) (h1:ce [] (bF p)=true) (h2:ce [] (bM f)=true) (s:Str) :
  dt (bb p).1 (lP (w+f.params.length) 0 f.locals (lP w 0 f.params [])) s=((bj (bF p) (bM f) s).map (tZ p w)).getD (0,0):=by
 unfold dt bj
 rw[ua p w,uF p f w,tX _ s _ _ rfl h1,tX _ s _ _ rfl h2]
 cases aK (bM f) s <;> rfl
theorem vw (s:Str):∀(fs:List Fn) (j n:Nat),aK (fs.mapIdx fun i f=>((f.name,4,j+i):Th)) s=some (4,n)→∃m f,n=j+m∧fs[m]? = some f∧cV fs s=some f
 |[],j,n,h=>by simp[aK] at h
 |f::fs,j,n,h=>by
   rw[M7] at h
   simp only[aK,cV] at h ⊢
   by_cases hs:f.name=s
   ·rw[if_pos hs] at h
    cases h
    exact⟨0,f,rfl,rfl,by rw[if_pos hs]⟩
   ·rw[if_neg hs] at h
    have e:(fs.mapIdx fun i f=>((f.name,4,j+(i+1)):Th))=fs.mapIdx fun i f=>((f.name,4,(j+1)+i):Th):=by
     congr 1
     funext i f
     simp only[I3,R8]
     omega
    rw[e] at h
    obtain⟨m,g,h1,h2,h3⟩:=vw s fs (j+1) n h
    exact⟨m+1,g,a6,h2,by rw[if_neg hs];exact h3⟩
variable {t:Th}{vs:List Str}{as_:List (Str×Int)}
theorem Ga{s:Str}{k n:Nat} (h:(s,k,n)∈thA as_):∃a,as_[n]? = some a∧k=3:=by
 simp only[thA,H2] at h
 obtain⟨i,hi,e⟩:=h
 cases e
 exact⟨_,w8 hi,rfl⟩
theorem Gb{s:Str}{k n:Nat} (h:(s,k,n)∈thV vs):n<vs.length∧k=2:=by
 simp only[thV,H2] at h
 obtain⟨i,hi,e⟩:=h
 cases e
 exact⟨hi,rfl⟩
theorem MV (h:t∈thV vs):t.1∈vs:=by
 simp only[thV,H2] at h
 obtain⟨i,hi,rfl⟩:=h
 exact M6 hi
theorem MW (h:t∈thA as_):∃a∈as_,t.1=a.1:=by
 simp only[thA,H2] at h
 obtain⟨i,hi,rfl⟩:=h
 exact⟨_,M6 hi,rfl⟩
theorem MX {fs:List Fn} (h:t∈thF fs):∃f∈fs,t.1=f.name:=by
 simp only[thF,H2] at h
 obtain⟨i,hi,rfl⟩:=h
 exact⟨_,M6 hi,rfl⟩
theorem Gc {j:Nat} (h:t∈thL j vs):t.1∈vs:=by
 simp only[thL,H2] at h
 obtain⟨i,hi,rfl⟩:=h
 exact M6 hi
theorem dH:aS []=false:=by simp[aS]
theorem Gd {p:Prog}{f:Fn} (hr:eJ p=true) (hf:f∈p.funcs):bj (bF p) (bM f) []=none:=by
 unfold eJ at hr
 simp only[s6,x6] at hr
 obtain⟨⟨_,hv⟩,ha,hfs⟩:=hr
 have hff:=hfs f hf
 unfold fv at hff
 simp only[s6,x6] at hff
 unfold bj
 have n1:aK (bM f) []=none:=by
  cases h:aK (bM f) [] with
  |none=>rfl
  |some x=>
    exfalso
    have hm:=fe h
    unfold bM at hm
    rcases C8.1 hm with hm|hm
    ·have:=hff.2.1.1 _ (Gc hm);simp only[dH] at this;cases this
    ·have:=hff.2.1.2 _ (Gc hm);simp only[dH] at this;cases this
 have n2:aK (bF p) []=none:=by
  cases h:aK (bF p) [] with
  |none=>rfl
  |some x=>
    exfalso
    have hm:=fe h
    unfold bF at hm
    rcases C8.1 hm with hm|hm
    ·rcases C8.1 hm with hm|hm
     ·have:=hv _ (MV hm);simp only[dH] at this;cases this
     ·obtain⟨a,ha1,ha2⟩:=MW hm
      have:=ha a ha1
      unfold iu at this
      exact WA
    ·obtain⟨a,ha1,ha2⟩:=MX hm
     have:=hfs a ha1
     unfold fv at this
     exact WA
 rw[n1,n2]
theorem mh (o:Pl):∀(l:List Fn) (w:Int) (k:Nat) (f:Fn),l[k]? = some f→∃w',w≤w'∧(dI o l w).1[k]? = some (nB o f w')∧w'+(f.params.length+f.locals.length)≤(dI o l w).2
 |[],w,k,f,h=>by simp at h
 |g::l,w,0,f,h=>by
   simp at h
   subst h
   refine⟨w,E9 _,rfl,?_⟩
   simp only[dI]
   have:∀(l:List Fn) (w:Int),w≤(dI o l w).2:=by
    intro l
    induction l with
    |nil=>intro w;exact E9 _
    |cons a l ih=>intro w;simp only[dI];have:=ih (w+(a.params.length+a.locals.length));omega
   exact this _ _
 |g::l,w,k+1,f,h=>by
   obtain⟨w',h1,h2,h3⟩:=mh o l (w+(g.params.length+g.locals.length)) k f Yl
   refine⟨w',a6,?_,?_⟩
   ·simp only[dI,s5];exact h2
   ·simp only[dI];exact h3
theorem vx (o:Pl):∀(l:List Fn) (w:Int),w≤(dI o l w).2
 |[],w=>E9 _
 |a::l,w=>by simp only[dI];have:=vx o l (w+(a.params.length+a.locals.length));omega
theorem kx (o:Pl):∀(l:List Fn) (w:Int),(dI o l w).1.length=l.length
 |[],w=>rfl
 |a::l,w=>by simp only[dI,j6,kx o l]
theorem rD:∀(l:List (Str×Int)) (n:Nat) (a:Str×Int),(∀x∈l,1≤x.2)→l[n]? = some a→((l.take n).map (·.2)).sum+a.2≤(l.map (·.2)).sum∧0≤((l.take n).map (·.2)).sum
 |[],n,a,_,h=>by simp at h
 |x::l,0,a,hp,h=>by
   simp at h;subst h
   have:∀m:List (Str×Int),(∀x∈m,1≤x.2)→0≤(m.map (·.2)).sum:=by
    intro m hm
    induction m with
    |nil=>simp
    |cons y m ih=>have h1:=ih (fun z hz=>hm z (by simp[hz]));have h2:=hm y a7;simp only[l6,E0];omega
   have h0:=this l (fun z hz=>hp z (by simp[hz]))
   simp only[K7,v7,Q7,l6,E0]
   omega
 |x::l,n+1,a,hp,h=>by
   have ih:=rD l n a (fun z hz=>hp z (by simp[hz])) Yl
   have:=hp x a7
   simp only[E4,l6,E0]
   omega
theorem Ge {p:Prog}{f:Fn}{k:Nat}{w W:Int} (hr:eJ p=true) (h1:ce [] (bF p)=true) (h2:ce [] (bM f)=true) (hf:f∈p.funcs) (hw0:(bb p).2≤w) (hW:w+(f.params.length+f.locals.length)≤W) :
  og p.funcs W k (bj (bF p) (bM f)) (dt (bb p).1 (lP (w+f.params.length) 0 f.locals (lP w 0 f.params []))):=by
 have hg:(bb p).2=p.vars.length+(p.arrays.map (·.2)).sum:=by
  unfold bb;simp only;rw[FY,FX];simp
 have har:∀a∈p.arrays,1≤a.2∧a.2≤4096:=by
  unfold eJ at hr
  simp only[s6,x6] at hr
  intro a ha
  have:=hr.2.1 a ha
  unfold iu at this
  simp at this
  omega
 have har1:∀a∈p.arrays,1≤a.2:=fun a ha=>(har a ha).1
 have hsum0:0≤(p.arrays.map (·.2)).sum:=by
  have:∀m:List (Str×Int),(∀x∈m,1≤x.2)→0≤(m.map (·.2)).sum:=by
   intro m hm
   induction m with
   |nil=>simp
   |cons y m ih=>have h1:=ih (fun z hz=>hm z (by simp[hz]));have h2:=hm y a7;simp only[l6,E0];omega
  exact this _ har1
 have hout:∀{s:Str}{t:Nat×Nat},aK (bM f) s=some t→t.1=1∧t.2<f.params.length+f.locals.length:=fun {s t} h=>by
  have hm:=fe h
  unfold bM at hm
  rcases C8.1 hm with hm|hm
  ·have:=BT hm;exact⟨this.1,a6⟩
  ·have:=BT hm;exact⟨this.1,a6⟩
 have hin:∀{s:Str}{t:Nat×Nat},aK (bF p) s=some t→(t.1=2∧t.2<p.vars.length)∨(t.1=3∧∃a,p.arrays[t.2]? = some a)∨t.1=4:=fun {s t} h=>by
  have hm:=fe h
  unfold bF at hm
  rcases C8.1 hm with hm|hm
  ·rcases C8.1 hm with hm|hm
   ·have:=Gb hm;exact .inl ⟨this.2,this.1⟩
   ·obtain⟨a,ha,hk⟩:=Ga hm;exact .inr (.inl ⟨hk,a,ha⟩)
  ·exact .inr (.inr (Gs hm).1)
 refine⟨?_,fun s kd n hs hk=>?_,fun s n hs=>?_,fun s n hs hn=>?_⟩
 ·rw[qe p f w h1 h2,Gd hr hf];rfl
 ·rw[qe p f w h1 h2,hs]
  simp only[y1,y7]
  unfold bj at hs
  cases hq:aK (bM f) s with
  |some t=>
    rw[hq] at hs
    cases hs
    have:=hout hq
    simp only at this
    obtain⟨rfl,hlt⟩:=this
    simp only[tZ,show ¬(1:Nat)=3 by decide,A4,A9]
    exact⟨⟨a6,a6,a6,a6⟩,trivial⟩
  |none=>
    rw[hq] at hs
    simp only at hs
    rcases hin hs with⟨h3,h4⟩|⟨h3,_⟩|h3
    ·simp only at h3 h4
     subst h3
     simp only[tZ,show ¬(2:Nat)=3 by decide,show ¬(2:Nat)=1 by decide,A4]
     exact⟨⟨a6,a6,a6,a6⟩,trivial⟩
    ·simp only at h3;omega
    ·simp only at h3;omega
 ·rw[qe p f w h1 h2,hs]
  simp only[y1,y7]
  unfold bj at hs
  cases hq:aK (bM f) s with
  |some t=>
    exact Xm
  |none=>
    rw[hq] at hs
    simp only at hs
    rcases hin hs with⟨h3,h4⟩|⟨_,a,ha⟩|h3
    ·simp only at h3;omega
    ·simp only at ha
     simp only[tZ,A9,tY,wP,ha,y1,y7]
     have hb:=har a (l4 ha)
     have hs2:=rD p.arrays n a har1 ha
     exact⟨hb.1,hb.2,a6,a6,a6,a6⟩
    ·simp only at h3;omega
 ·rw[qe p f w h1 h2,hs]
  simp only[y1,y7,tZ,show ¬(4:Nat)=3 by decide,show ¬(4:Nat)=1 by decide,A4,R8]
  unfold bj at hs
  cases hq:aK (bM f) s with
  |some t=>
    exact Xm
  |none=>
    rw[hq] at hs
    simp only at hs
    unfold bF at hs
    rw[rG] at hs
    cases hva:aK (thV p.vars++thA p.arrays) s with
    |some t=>
      rw[hva] at hs
      cases hs
      have hm:=fe hva
      rcases C8.1 hm with hm|hm
      ·have:=(Gb hm).2;omega
      ·obtain⟨_,_,h⟩:=Ga hm;omega
    |none=>
      rw[hva] at hs
      simp only at hs
      unfold thF at hs
      have e:(p.funcs.mapIdx fun i f=>((f.name,4,i):Th))=p.funcs.mapIdx fun i f=>((f.name,4,0+i):Th):=by
       congr 1;funext i f;simp
      rw[e] at hs
      obtain⟨m,g,e1,e2,e3⟩:=vw s p.funcs 0 n hs
      obtain rfl:n=m:=a6
      exact⟨g,e2,e3⟩
end
section
theorem po {α:Type}{c:Nat→α→Bool}:∀{l:List α}{j k:Nat}{x:α},dR c j l=true→l[k]? = some x→c (j+k) x=true
 |[],j,k,x,_,h=>by simp at h
 |a::l,j,0,x,h1,h2=>by
   simp at h2;subst h2
   rw[dR,s6] at h1
   exact h1.1
 |a::l,j,k+1,x,h1,h2=>by
   rw[dR,s6] at h1
   have:=po h1.2 (k:=k) (x:=x) (by simpa using h2)
   rw[show j+(k+1)=j+1+k by omega]
   exact this
variable {p:Prog}
theorem yJ (h:db p=0):eJ p=true∧jN p=0∧pq p=0:=by
 unfold db at h
 split at h
 ·cases h
 ·rename_i hr
  split at h
  ·rename_i hs;exact absurd h hs
  ·rename_i hs
   exact⟨by simpa using hr,by simpa using hs,h⟩
theorem yK (h:jN p=0) (hl:1≤p.funcs.length):ce [] (bF p)=true∧dR (kO p) 0 p.funcs=true∧dR (AG p) 0 p.funcs=true:=by
 unfold jN at h
 split at h
 ·cases h
 ·rename_i hn
  have hn2:(ce [] (bF p)&&dR (kO p) 0 p.funcs)=true:=by simpa using hn
  rw[s6] at hn2
  split at h
  ·rename_i hlast
   rw[List.getLast?_eq_none_iff] at hlast
   rw[hlast] at hl
   simp at hl
  ·split at h
   ·rename_i hc;exact⟨hn2.1,hn2.2,hc.1⟩
   ·cases h
theorem MY (h:db p=0) {k:Nat}{x:CFn} (hx:(ap p).funcs[k]? = some x):rSs (ap p).words (sigs p.funcs) k x.word 1 x.body:=by
 obtain⟨hr,hs,ht⟩:=yJ h
 have hl:1≤p.funcs.length:=by unfold eJ at hr;simp at hr;exact hr.1.1.1
 obtain⟨hu,hnm,hnu⟩:=yK hs hl
 unfold ap at hx ⊢
 simp only at hx ⊢
 have hk:k<p.funcs.length:=by
  have:=(l0.1 hx).1
  rw[kx] at this
  exact this
 obtain⟨f,hf⟩:∃f,p.funcs[k]? = some f:=⟨_,w8 hk⟩
 obtain⟨w',h1,h2,h3⟩:=mh (bb p).1 p.funcs (bb p).2 k f hf
 rw[hx] at h2
 cases h2
 have hmem:=l4 hf
 have g1:=po hnm hf
 have g2:=po hnu hf
 rw[C2] at g1 g2
 unfold kO at g1
 rw[s6] at g1
 unfold AG at g2
 have hfn:fv f=true:=by
  unfold eJ at hr
  simp only[s6,x6] at hr
  exact hr.2.2 f hmem
 have hbody:bg 1 f.body=true:=by
  unfold fv at hfn
  simp only[s6] at hfn
  exact hfn.2.2
 have hty:dj p.funcs f.word f.body=true:=by
  unfold pq at ht
  split at ht
  ·cases ht
  ·split at ht
   ·cases ht
   ·rename_i hq
    have:(p.funcs.all fun f=>dj p.funcs f.word f.body)=true:=by simpa using hq
    rw[x6] at this
    exact this f hmem
 have hP:=Ge (p:=p) (f:=f) (k:=k) (w:=w') (W:=(dI (bb p).1 p.funcs (bb p).2).2) hr hu g1.1 hmem h1 a6
 unfold nB
 simp only
 have:=jZ (w:=f.word) hP f.body 1 hbody g1.2 g2 hty
 exact W0
end
end
section
open Go.Lower (cE cEs cAO oq cS cSs one nz jT leave kM ifC rR codeOf)
mutual
def cnE:Lower.Ex→Nat
 |.mk _ _ _ _ _ kids=>ou kids+1
def ou:List Lower.Ex→Nat
 |[]=>0
 |e::l=>cnE e+ou l
end
mutual
def cnS:Lower.Stm→Nat
 |.mk _ _ _ e th el=>ou e+mH th+mH el+1
def mH:List Lower.Stm→Nat
 |[]=>0
 |s::l=>cnS s+mH l
end
mutual
theorem Gf (o i:Pl):∀e:Ex,cnE (ik o i e)=szE e
 |.mk kind op num name kids=>by rw[ik,cnE,szE,qO o i kids]
theorem qO (o i:Pl):∀l:List Ex,ou (dW o i l)=bH l
 |[]=>by rw[dW,ou,bH]
 |e::l=>by rw[dW,ou,bH,Gf o i e,qO o i l]
end
mutual
theorem Gg (o i:Pl):∀e:Stm,cnS (coreS o i e)=szS e
 |.mk kind name e th el=>by rw[coreS,cnS,szS,qO,nV o i th,nV o i el]
theorem nV (o i:Pl):∀l:List Stm,mH (du o i l)=bu l
 |[]=>by rw[du,mH,bu]
 |e::l=>by rw[du,mH,bu,Gg o i e,nV o i l]
end
theorem one_le {kind op num slot size d:Int}:(Lower.one kind op num slot size d).length≤1:=by
 unfold Lower.one
 repeat' split
 all_goals simp
theorem Gh {kind d:Int}:(jT kind d).length≤1:=by unfold jT;split <;> simp
mutual
theorem Gi:∀(e:Lower.Ex) (at':Nat) (d:Int),(cE at' d e).length≤6*cnE e
 |.mk kind op num slot size kids,at',d=>by
   rw[cE,cnE]
   split
   ·exact MZ kids at' d kind
   ·rw[j5]
    have:=qJ kids at' d
    have:=one_le (kind:=kind) (op:=op) (num:=num) (slot:=slot) (size:=size) (d:=d+kids.length)
    omega
theorem qJ:∀(l:List Lower.Ex) (at':Nat) (d:Int),(cEs at' d l).length≤6*ou l
 |[],at',d=>by rw[cEs];simp
 |e::l,at',d=>by
   rw[cEs,ou,j5]
   have:=Gi e at' d
   have:=qJ l (at'+(cE at' d e).length) (d+1)
   omega
theorem MZ:∀(l:List Lower.Ex) (at':Nat) (d kind:Int),(cAO at' d kind l).length≤6*(ou l+1)
 |[],at',d,kind=>by rw[cAO];simp
 |e::l,at',d,kind=>by
   rw[cAO,ou]
   unfold nz
   simp only[j5,j6,j7]
   have h1:=Gi e at' d
   have h2:=BQ l (at'+(cE at' d e).length+(jT kind d).length+3) d
   have h3:=Gh (kind:=kind) (d:=d)
   omega
theorem BQ:∀(l:List Lower.Ex) (at':Nat) (d:Int),(oq at' d l).length≤6*ou l
 |[],at',d=>by rw[oq];simp
 |e::l,at',d=>by
   rw[oq,ou]
   have:=Gi e at' d
   omega
end
theorem yL {w:Bool}:(leave w).length≤2:=by unfold leave;split <;> simp
theorem Jc {w:Bool}{kind slot size:Int}{n:Nat}:(rR w kind slot size n).length≤2:=by
 unfold rR
 have:=yL (w:=w)
 repeat' split
 all_goals first|assumption|simp
mutual
theorem Rm (w:Bool):∀(s:Lower.Stm) (at':Nat),(cS w at' s).length≤6*cnS s
 |.mk kind slot size e th el,at'=>by
   rw[cS,cnS]
   split
   ·unfold kM
    simp only[j5,j6,j7]
    have h1:=BQ e at' 0
    have h2:=nr w th (at'+(oq at' 0 e).length+1)
    omega
   ·rw[j5]
    have h1:=qJ e at' 0
    split
    ·unfold ifC
     split
     ·simp only[j5,j6,j7]
      have h2:=nr w th (at'+(cEs at' 0 e).length+1)
      have h3:=nr w el (at'+(cEs at' 0 e).length+1+(cSs w (at'+(cEs at' 0 e).length+1) th).length+1)
      omega
     ·simp only[j6]
      have h2:=nr w th (at'+(cEs at' 0 e).length+1)
      omega
    ·have:=Jc (w:=w) (kind:=kind) (slot:=slot) (size:=size) (n:=e.length)
     omega
theorem nr (w:Bool):∀(l:List Lower.Stm) (at':Nat),(cSs w at' l).length≤6*mH l
 |[],at'=>by rw[cSs];simp
 |e::l,at'=>by
   rw[cSs,mH,j5]
   have:=Rm w e at'
   have:=nr w l (at'+(cS w at' e).length)
   omega
end
theorem Oe (w:Bool) (l:List Lower.Stm):(codeOf w l).length≤6*mH l+2:=by
 unfold codeOf
 rw[j5]
 have:=nr w l 0
 have:=yL (w:=w)
 omega
theorem Jd {α:Type} (f:α→Nat):∀{l:List α}{x:α},x∈l→f x≤(l.map f).sum
 |a::l,x,h=>by
   simp only[l6,E0]
   rcases y2.1 h with rfl|h
   ·omega
   ·have:=Jd f h;omega
theorem yM (o:Pl):∀(l:List Fn) (w:Int),((dI o l w).1.map fun x=>mH x.body).sum=(l.map fun f=>bu f.body).sum
 |[],w=>rfl
 |f::l,w=>by
   simp only[dI,l6,E0,yM o l]
   unfold nB
   simp only[nV]
end
end Go.Src
namespace Go.Proofs.YthnomjfdcidgbaaGreatDoor.Low
section
open Go Go.Am Go.Lower
open Go.Src (cnE ou cnS mH ap db)
mutual
theorem Fd:∀e:Ex,lr e+1=cnE e
 |.mk _ _ _ _ _ kids=>by rw[lr,cnE,qF kids]
theorem qF:∀l:List Ex,iA l=ou l
 |[]=>by rw[iA,ou]
 |e::l=>by rw[iA,ou,←Fd e,qF l];omega
end
mutual
theorem Fe:∀e:Stm,mv e+1=cnS e
 |.mk _ _ _ e th el=>by rw[mv,cnS,qF e,nP th,nP el]
theorem nP:∀l:List Stm,eH l=mH l
 |[]=>by rw[eH,mH]
 |e::l=>by rw[eH,mH,←Fe e,nP l];omega
end
theorem rz (l:List Src.Fn):(l.map fun f=>Src.bu f.body).sum≤(l.map fun f=>f.params.length+f.locals.length+Src.bu f.body).sum:=by
 induction l with
 |nil=>exact j8 _
 |cons a l ih=>simp only[l6,E0];omega
theorem Iq {p:Src.Prog} (h:db p=0) (hsz:szP p≤1000000):aA Tryz.prog 26 [oB (ap p)] (· = iV (ap p).words (ap p).funcs):=by
 unfold szP at hsz
 have hs1:=Src.yM (Src.bb p).1 p.funcs (Src.bb p).2
 have hs2:=rz p.funcs
 have hsum:((ap p).funcs.map fun x=>mH x.body).sum≤1000000:=by unfold ap;simp only;omega
 refine QQ (ps:=Src.sigs p.funcs) ?_ ?_ ?_ (fun k x hx=>Src.MY h hx)
 ·unfold vj
  rw[show (fun x:Src.CFn=>eH x.body)=fun x=>mH x.body from funext fun x=>nP x.body]
  omega
 ·rw[Src.kx]
  omega
 ·intro x hx
  have h1:=Src.Oe x.word x.body
  have h2:=Src.Jd (fun x:Src.CFn=>mH x.body) hx
  omega
end
section
attribute [local congr] Go.Am.ite_cc
open Go Go.Am Go.Lower
section
variable {x:Ins}
theorem xZ {ps:Sig}{word:Bool}{r:Int×Int} (h:takes ps word x=some r):x.op=1∨x.op=2∨x.op=3∨x.op=4∨x.op=5∨x.op=6∨x.op=7∨x.op=8∨x.op=9∨x.op=10∨x.op=11∨x.op=12∨x.op=13:=by
 unfold takes at h
 by_cases h1:x.op=1∨x.op=2∨x.op=12
 ·omega
 exact Vk
def ksD (l:List Int):D:=.sl (l.map fun k=>[.int .i64 k])
theorem Mj {at':Nat} (hat:at'≤1000000000):aA Tryz.prog 148 [.agg ((bD x).map .d),iv .i64 at'] (· = .one (.d (ksD (next x at')))):=by
 refine hdP Tryz.func148 rfl [4] fun g=>?_
 obtain⟨op,a,b,n⟩:=x
 have hw:=ae (k:=at') a6
 by_cases h8:op=8
 ·subst h8
  simp only[go_sem,bD]
  exact⟨_,⟨_,dK (s:=⟨_,_,_⟩) rfl [a] (fun k=>[.int .i64 k]) (by simp only[upd];rfl) rfl (fun _ _ y hy=>by simp at hy;subst hy;rfl) (fun _ _=>rfl) rfl,rfl⟩,rfl⟩
 by_cases h9:op=9
 ·subst h9
  simp only[go_sem,bD,hw]
  exact⟨_,⟨_,dK (s:=⟨_,_,_⟩) rfl [((at'+1:Nat):Int),a] (fun k=>[.int .i64 k]) (by simp only[upd];rfl) rfl (fun _ _ y hy=>by simp at hy;subst hy;rfl) (fun _ _=>rfl) rfl,rfl⟩,rfl⟩
 by_cases h11:op=11
 ·subst h11
  simp only[go_sem,bD]
  rfl
 ·simp only[go_sem,bD,h8,h9,h11,hw]
  have e:next ⟨op,a,b,n⟩ at'=[((at'+1:Nat):Int)]:=by simp[next,h8,h9,h11]
  rw[e]
  exact⟨_,⟨_,dK (s:=⟨_,_,_⟩) rfl [((at'+1:Nat):Int)] (fun k=>[.int .i64 k]) (by simp only[upd];rfl) rfl (fun _ _ y hy=>by simp at hy;subst hy;rfl) (fun _ _=>rfl) rfl,rfl⟩,rfl⟩
def Ir (fs:List Src.CFn):Sig:=fs.map fun x=>(x.params,x.word)
theorem sk (b:Bool):aA Tryz.prog 222 [bv b] (· = iv .i64 (if b then 1 else 0)):=by
 refine hdP Tryz.func222 rfl [2] fun g=>?_
 cases b <;> (simp only[go_sem])
theorem Ff {w:Int}{fs:List Src.CFn}{f:Nat}{fx:Src.CFn} (hf:fs[f]? = some fx){t p d:Int} (h:takes (Ir fs) fx.word x=some (t,p)) (h0:0≤t) (htd:t≤d) (hd:d≤1000000000) (h11:x.op=11→d=t) :
  aA Tryz.prog 147 [iV w fs,iv .i64 f,.agg ((bD x).map .d),iv .i64 d] (· = .tup [iv .i64 (if x.op=11 then 0 else d-t+p),bv true]):=by
 refine hdP Tryz.func147 rfl [8,9] fun g=>?_
 have hop:=xZ h
 obtain⟨op,a,b,n⟩:=x
 have hfl:f<fs.length:=(l0.1 hf).1
 unfold iV
 simp only at hop h11
 have hw1:IntKind.i64.wrap (d-t)=d-t:=by rw[wrap_i64] <;> omega
 have h30:IntKind.i64.wrap (d-t+0)=d-t+0:=by rw[wrap_i64] <;> omega
 have h31:IntKind.i64.wrap (d-t+1)=d-t+1:=by rw[wrap_i64] <;> omega
 rcases hop with rfl|rfl|rfl|rfl|rfl|rfl|rfl|rfl|rfl|rfl|rfl|rfl|rfl
 all_goals try (obtain⟨rfl,rfl⟩:_=t∧_=p:=by simpa[takes] using h)
 ·simp only[go_sem,bD,hw1,h30,h31,htd]
 ·simp only[go_sem,bD,hw1,h30,h31,htd]
 ·simp only[go_sem,bD,hw1,h30,h31,htd]
 ·simp only[go_sem,bD,hw1,h30,h31,htd]
 ·simp only[go_sem,bD,hw1,h30,h31,htd]
 ·simp only[go_sem,bD,hw1,h30,h31,htd]
 ·simp only[go_sem,bD,hw1,h30,h31,htd]
 ·simp only[go_sem,bD,hw1,h30,h31,htd]
 ·simp only[go_sem,bD,hw1,h30,h31,htd]
 ·by_cases ha:a<0
  ·simp[takes,ha] at h
  ·obtain⟨k,rfl⟩:∃k:Nat,a=(k:Int):=⟨a.toNat,a6⟩
   simp only[takes,Ir,ha,A4,A7,x7,Option.map_map] at h
   cases hk:fs[k]? with
   |none=>simp[hk] at h
   |some y=>
     have hkl:k<fs.length:=(l0.1 hk).1
     have hkl':¬fs.length≤k:=a6
     have hkl2:(k:Int)<(fs.length:Int):=a6
     have hkl3:¬(fs.length:Int)≤(k:Int):=a6
     have hk0:(0:Int)≤(k:Int):=a6
     cases hw:y.word with
     |false=>
       obtain⟨rfl,rfl⟩:y.params=t∧(0:Int)=p:=by simpa[hk,hw] using h
       have hy0:¬y.params<0:=a6
       simp only[go_sem,bD,hk,hkl,hkl',hkl2,hkl3,hk0,ha,hw,sfD,j4,hy0]
       refine jn aU mixed b9 ?_
       simp only[go_sem,bD,hk,hkl,hkl',hkl2,hkl3,hk0,ha,hw,sfD,j4,hy0]
       refine dF rfl (sk false) (eD rfl) rfl ?_
       simp only[go_sem,bD,hk,hkl,hkl',hkl2,hkl3,hk0,ha,hw,sfD,j4,hy0,hw1,h30,htd,B8]
     |true=>
       obtain⟨rfl,rfl⟩:y.params=t∧(1:Int)=p:=by simpa[hk,hw] using h
       have hy0:¬y.params<0:=a6
       simp only[go_sem,bD,hk,hkl,hkl',hkl2,hkl3,hk0,ha,hw,sfD,j4,hy0]
       refine jn aU mixed b9 ?_
       simp only[go_sem,bD,hk,hkl,hkl',hkl2,hkl3,hk0,ha,hw,sfD,j4,hy0]
       refine dF rfl (sk true) (eD rfl) rfl ?_
       simp only[go_sem,bD,hk,hkl,hkl',hkl2,hkl3,hk0,ha,hw,sfD,j4,hy0,hw1,h31,htd]
 ·have hd2:=h11 rfl
  have hf0:(0:Int)≤(f:Int):=a6
  have hf1:(f:Int)<(fs.length:Int):=a6
  cases hw:fx.word with
  |false=>
    obtain⟨rfl,rfl⟩:(0:Int)=t∧(0:Int)=p:=by simpa[takes,hw] using h
    simp only[go_sem,bD,hf,hf0,hf1,hfl,sfD,j4,hw]
    refine eN rfl (sk false) c9 ?_
    rintro _ rfl
    simp only[go_sem,l8 hd2,B8]
  |true=>
    obtain⟨rfl,rfl⟩:(1:Int)=t∧(0:Int)=p:=by simpa[takes,hw] using h
    simp only[go_sem,bD,hf,hf0,hf1,hfl,sfD,j4,hw]
    refine eN rfl (sk true) c9 ?_
    rintro _ rfl
    simp only[go_sem,l8 hd2]
 ·simp only[go_sem,bD,hw1,h30,h31,htd]
 ·simp only[go_sem,bD,hw1,h30,h31,htd]
end
section
def icells (l:List Int):List C:=l.map fun k=>.d (.int .i64 k)
theorem ck (l:List Int):(icells l).length=l.length:=by simp[icells]
theorem iB (l:List Int) (k:Nat):(icells l)[k]? = (l[k]?).map fun k=>.d (.int .i64 k):=by simp[icells]
theorem iC (l:List Int) (k:Nat) (v:Int):(icells l).set k (.d (.int .i64 v))=icells (l.set k v):=by simp[icells,T0]
theorem ks (a b:List Int):icells (a++b)=icells a++icells b:=by simp[icells]
structure rA (T D:Nat) (l:List Int) (g:Nat→Nat) (ob:Obs):Prop where
 t:ob T=some [.osl D (g D) 1 0 l.length]
 d:∃r:List Int,ob D=some (icells (l++r))
variable {l:List Int}{B T D:Nat}{g:Nat→Nat}{ob:Obs}{gT:Nat}
theorem Ml (hB:∀i,B≤i→ob i=none) (hT:T<B) (h:rA T D l g ob) (hgT:g T=gT) :
  dN Tryz.prog 145 [.one (.ptr T gT 0)] g ob (fun r g' ob'=>g'=g∧ob'=ob∧r=iv .i64 l.length) (fun _ _ _=>False):=by
 refine hdM B [] Tryz.func145 rfl [.tmp 2] a7 hB fun b₀ β0 s0 w0=>?_
 obtain⟨h1,r,h2⟩:=h
 simp only[go_sem,h1,h2,hgT,ck,j5]
 refine⟨_,ab.refl _,?_⟩
 simp only[go_sem]
 exact bi.nil (fun i hi=>⟨rfl,rfl⟩) (rs':=[iv .i64 l.length]) ⟨_,_,rfl,.one (.d _),rfl⟩ ⟨rfl,rfl,rfl⟩
theorem zZ {B:Nat}:∀c∈icells l,mD B c:=fun c hc=>by
 obtain⟨x,_,rfl⟩:=F9.1 hc
 trivial
theorem Fg{x:Int} (hB:∀i,B≤i→ob i=none) (hT:T<B) (hD:D<B) (hTD:T≠D) (h:rA T D l g ob) (hgT:g T=gT) (hl:l.length≤1000000000) :
  dN Tryz.prog 144 [.one (.ptr T gT 0),iv .i64 x] g ob (fun _ g' ob'=>rA T D (l++[x]) g' ob'∧(∀i,i≠D→g' i=g i)∧∀i,i≠T→i≠D→ob' i=ob i) (fun _ _ _=>False):=by
 refine hdM B [T,D] Tryz.func144 rfl [] Xy hB fun b₀ β0 s0 w0=>?_
 obtain⟨h1,r,h2⟩:=h
 have n1:∀k,(T=B+k)=False:=fun k=>by simp;omega
 have n2:∀k,(D=B+k)=False:=fun k=>by simp;omega
 have n3:(T=D)=False:=by simp[hTD]
 have n4:(D=T)=False:=by simp[z8 hTD]
 simp only[go_sem,n1,n2,n3,n4,h1,h2,hgT,ck,j5,aD]
 refine⟨a6,⟨a8,a6⟩,?_⟩
 refine⟨_,ab.refl _,?_⟩
 simp only[go_sem]
 refine⟨⟨fun i hi hn=>?_,fun i hi cells hc=>?_⟩,[],rfl,⟨?_,?_⟩,fun i hi=>?_,fun i hi hi2=>?_⟩
 ·have h1:i≠T:=fun e=>hn YH
  have h2:i≠D:=fun e=>hn YH
  exact⟨nu,nu⟩
 ·simp only[y2,z7,D6] at hi
  rcases hi with rfl|rfl
  ·simp[upd] at hc
   subst hc
   intro c hc
   rw[C5.1 hc]
   exact hD
  ·simp[upd,n4] at hc
   subst hc
   intro c hc
   rcases C8.1 hc with hc|hc
   ·exact zZ c (P4 hc)
   ·rw[C5.1 hc];trivial
 ·simp[jz,fA,upd]
 ·refine⟨[],?_⟩
  simp[fA,upd,n4]
  rw[ks]
  simp[icells]
 ·exact Wl
 ·unfold fA
  rw[if_neg (by simp[hi,hi2])]
theorem QR{x:Int} (hB:∀i,B≤i→ob i=none) (hT:T<B) (hD:D<B) (hTD:T≠D) (h:rA T D (l++[x]) g ob) (hgT:g T=gT) (hl:l.length≤1000000000) :
  dN Tryz.prog 146 [.one (.ptr T gT 0)] g ob (fun r g' ob'=>r=iv .i64 x∧rA T D l g' ob'∧g'=g∧∀i,i≠T→ob' i=ob i) (fun _ _ _=>False):=by
 refine hdM B [T] Tryz.func146 rfl [.tmp 2] Xy hB fun b₀ β0 s0 w0=>?_
 obtain⟨h1,r,h2⟩:=h
 have n1:∀k,(T=B+k)=False:=fun k=>by simp;omega
 have n3:(T=D)=False:=by simp[hTD]
 have n4:(D=T)=False:=by simp[z8 hTD]
 have hlen:(l++[x]).length=l.length+1:=a7
 rw[hlen] at h1
 have hw:IntKind.i64.wrap (((l.length+1:Nat):Int)-1)=(l.length:Int):=by rw[wrap_i64] <;> omega
 have hg:(l++[x]++r)[l.length]? = some x:=a7
 have h0:(0:Int)≤(l.length:Int):=a6
 simp only[go_sem,n1,n3,n4,h1,h2,hgT,ck,j5,hw,iB,hg,h0]
 refine⟨a6,a6,a6,?_⟩
 refine⟨_,ab.refl _,?_⟩
 simp only[go_sem]
 refine⟨⟨fun i hi hn=>?_,fun i hi cells hc=>?_⟩,[iv .i64 x],⟨_,_,rfl,.one (.d _),rfl⟩,rfl,⟨?_,x::r,?_⟩,wr (fun i hi=>rfl),fun i hi=>?_⟩
 ·have h1:i≠T:=fun e=>hn YH
  exact⟨nu,nu⟩
 ·simp only[y2,z7,D6] at hi
  subst hi
  simp[upd] at hc
  subst hc
  intro c hc
  rw[C5.1 hc]
  exact hD
 ·rw[wr (fun i hi=>rfl)]
  simp[fA,upd]
 ·simp only[fA,y2,z7,D6,n4,A4]
  rw[h2]
  simp
 ·simp[fA,hi]
end
end
end Go.Proofs.YthnomjfdcidgbaaGreatDoor.Low
namespace Go.Emit
section
open Go.Lower (Ins Code codeOf takes next Inv left)
section
def visit (cd:Lower.Code):List Int→List Int×List Nat→List Int×List Nat
 |[],st=>st
 |y::l,st=>visit cd l (if (st.1[y.toNat]?.getD 0)<0 then(st.1.set y.toNat (((cd[y.toNat]?).map Prod.snd).getD 0),st.2++[y.toNat]) else st)
def search (cd:Lower.Code):Nat→List Int×List Nat→List Int
 |0,st=>st.1
 |n+1,st=>match st.2.getLast? with
   |none=>st.1
   |some a=>match cd[a]? with
     |none=>st.1
     |some x=>search cd n (visit cd (next x.1 a) (st.1,st.2.dropLast))
def lp (cd:Lower.Code):List Int:=search cd cd.length ((List.replicate cd.length (-1)).set 0 0,[0])
theorem zK (cd:Lower.Code) (n:Nat) (out:List Int):search cd n (out,[])=out:=by cases n <;> rfl
theorem xC (cd:Lower.Code) (n:Nat) (out:List Int) (todo:List Nat) (a:Nat) {x:Ins×Int} (h:cd[a]? = some x):search cd (n+1) (out,todo++[a])=search cd n (visit cd (next x.1 a) (out,todo)):=by
 simp only[search,List.getLast?_append,List.getLast?_singleton,Option.some_or,h,List.dropLast_concat]
variable {l:List Int}{out:List Int}{todo:List Nat}
theorem tc {cd:Lower.Code}{y:Int}{u d:Int} (h:out[y.toNat]? = some u) (hu:u<0) (hd:(cd[y.toNat]?).map Prod.snd=some d):visit cd (y::l) (out,todo)=visit cd l (out.set y.toNat d,todo++[y.toNat]):=by
 simp only[visit,h,hd,y7,hu,A9]
theorem td {cd:Lower.Code}{y:Int}{u:Int} (h:out[y.toNat]? = some u) (hu:¬u<0):visit cd (y::l) (out,todo)=visit cd l (out,todo):=by
 simp only[visit,h,y7,hu,A4]
def deepest (l:List Int) (d:Int):Int:=l.foldl max d
theorem vY (a:Int) (l:List Int) (d:Int):deepest (a::l) d=deepest l (max d a):=rfl
def iQ (n:Nat):Nat→List (List Int)→Int→List Int×List Int×Int
 |_,[],w=>([],[],w)
 |k,o::l,w=>
   let b:=if k+1=n then w else w+1
   let r:=iQ n (k+1) l (b+deepest o 0)
   (w::r.1,b::r.2.1,r.2.2)
structure Plan where
 depths:List (List Int)
 back:List Int
 base:List Int
 data:Int
def vZ (w:Int) (fs:List Src.CFn):Plan:=
 let ds:=fs.map fun x=>lp (codeOf x.word x.body)
 let r:=iQ fs.length 0 ds w
 ⟨ds,r.1,r.2.1,r.2.2⟩
theorem xD (n:Nat):∀(l:List (List Int)) (k:Nat) (w:Int) (o:List Int),iQ n k (l++[o]) w =
  let r:=iQ n k l w
  let b:=if k+l.length+1=n then r.2.2 else r.2.2+1
  (r.1++[r.2.2],r.2.1++[b],b+deepest o 0)
 |[],k,w,o=>by simp[iQ]
 |a::l,k,w,o=>by
   simp only[A0,iQ,xD n l,j6]
   rw[show k+1+l.length+1=k+(l.length+1)+1 by omega]
theorem te (n:Nat):∀(l:List (List Int)) (k:Nat) (w:Int),(iQ n k l w).1.length=l.length∧(iQ n k l w).2.1.length=l.length
 |[],k,w=>by simp[iQ]
 |a::l,k,w=>by
   simp only[iQ,j6]
   exact⟨by rw[(te n l _ _).1],by rw[(te n l _ _).2]⟩
abbrev MI:=Int×Int×Int×Int
abbrev Ho:=Int×Int×Int
structure Wr where
 code:List MI
 holes:List Ho
def fq:Nat→Wr:=fun _=>⟨[],[]⟩
def al (op a b c:Int):Nat→Wr:=fun _=>⟨[(op,a,b,c)],[]⟩
def au (op a f pl:Int):Nat→Wr:=fun n=>⟨[(op,a,0,0)],[((n:Int),f,pl)]⟩
def aq (x y:Nat→Wr):Nat→Wr:=fun n=>⟨(x n).code++(y (n+(x n).code.length)).code,(x n).holes++(y (n+(x n).code.length)).holes⟩
def qx:List (Nat→Wr)→Nat→Wr
 |[]=>fq
 |[x]=>x
 |x::y::l=>aq x (qx (y::l))
def kD (P:Plan) (f:Nat) (dp reg below:Int):Nat→Wr:=al 16 reg 0 ((P.base[f]?).getD 0+dp-below)
def lV (P:Plan) (f:Nat) (dp reg below:Int):Nat→Wr:=al 17 reg 0 ((P.base[f]?).getD 0+dp-below)
def hi16 (n:Int):Int:=(n/65536+9223372036854775808)%18446744073709551616-9223372036854775808
def wa (reg n:Int):Nat→Wr:=if 65535<n then aq (al 1 reg 0 (n%65536)) (al 2 reg 0 (hi16 n)) else al 1 reg 0 (n%65536)
def wb (fs:List Src.CFn) (P:Plan) (f:Nat) (dp:Int):Nat→Wr:=
 if f+1=fs.length then al 26 0 0 0
 else
  let back:=aq (al 16 14 0 ((P.back[f]?).getD 0)) (al 22 14 0 0)
  if ((fs[f]?).map (·.word)).getD false then aq (kD P f dp 1 1) back else back
def wc (a:Int):Nat→Nat→Wr
 |0=>fq
 |k+1=>aq (wc a k) (al 17 0 0 (a+k))
def we (a b:Int):Nat→Wr:=
 if b-a≤6 then wc a (b-a).toNat
 else fun n=>⟨[(1,1,0,a),(1,2,0,b),(17,0,1,0),(4,1,1,15),(14,3,1,2),(20,3,0,(n:Int)+2)],[]⟩
def Eh (P:Plan) (f:Nat) (dp params first:Int):Nat→Nat→Wr
 |0=>fq
 |k+1=>aq (Eh P f dp params first k) (aq (kD P f dp 1 (params-k)) (al 17 1 0 (first+k)))
def Bd (fs:List Src.CFn) (P:Plan) (f:Nat) (dp a:Int):Nat→Wr:=
 match fs[a.toNat]? with
 |none=>fq
 |some y=>aq (Eh P f dp y.params y.first y.params.toNat) (aq (au 21 14 a (-1)) (if y.word then lV P f dp 1 y.params else fq))
def uA (fs:List Src.CFn) (P:Plan) (f:Nat) (dp:Int) (x:Ins):Nat→Wr:=
 if x.op=1 then aq (wa 1 x.n) (lV P f dp 1 0)
 else if x.op=2 then aq (al 16 1 0 x.a) (lV P f dp 1 0)
 else if x.op=3 then aq (kD P f dp 1 1) (al 17 1 0 x.a)
 else if x.op=4 then aq (kD P f dp 1 1) (aq (al 25 1 0 x.b) (aq (al 16 1 1 x.a) (lV P f dp 1 1)))
 else if x.op=5 then aq (kD P f dp 1 2) (aq (al 25 1 0 x.b) (aq (kD P f dp 2 1) (al 17 2 1 x.a)))
 else if x.op=6 then aq (kD P f dp 1 2) (aq (kD P f dp 2 1) (aq (al x.a 1 1 2) (lV P f dp 1 2)))
 else if x.op=7 then aq (kD P f dp 1 1) (aq (al 15 1 1 0) (lV P f dp 1 1))
 else if x.op=8 then au 18 0 f x.a
 else if x.op=9 then aq (kD P f dp 1 1) (au 19 1 f x.a)
 else if x.op=10 then Bd fs P f dp x.a
 else if x.op=11 then wb fs P f dp
 else if x.op=12 then aq (al 23 1 0 0) (lV P f dp 1 0)
 else if x.op=13 then aq (kD P f dp 1 1) (al 24 1 0 0)
 else fq
def Ei (fs:List Src.CFn) (P:Plan) (f:Nat):Nat→Wr:=
 if f+1=fs.length then fq
 else match fs[f]? with
  |none=>fq
  |some y=>aq (al 17 14 0 ((P.back[f]?).getD 0)) (we (y.first+y.params) (y.first+y.slots))
def ry (fs:List Src.CFn) (P:Plan) (f:Nat) (cd:Lower.Code) (ds:List Int):Nat→Nat→Wr
 |0=>Ei fs P f
 | k+1=>aq (ry fs P f cd ds k) (match cd[k]?,ds[k]? with
   |some x,some d=>if 0≤d then uA fs P f d x.1 else fq
   | _,_=>fq)
def placesOf (fs:List Src.CFn) (P:Plan) (f:Nat) (cd:Lower.Code) (ds:List Int) (n:Nat):List Int:=
 (List.range cd.length).map fun k=>((n+(ry fs P f cd ds k n).code.length:Nat):Int)
structure jr where
 code:List MI
 holes:List Ho
 ent:List Int
 pls:List (List Int)
def fG (fs:List Src.CFn) (P:Plan) (d:jr) (f:Nat):jr:=
 match fs[f]?,P.depths[f]? with
 |some y,some ds=>
   let cd:=codeOf y.word y.body
   let w:=ry fs P f cd ds cd.length d.code.length
   ⟨d.code++w.code,d.holes++w.holes,d.ent.set f d.code.length,d.pls.set f (placesOf fs P f cd ds d.code.length)⟩
 |_,_=>d
def start (fs:List Src.CFn) (P:Plan):jr:=fG fs P ⟨[(1,15,0,1)],[],List.replicate fs.length 0,List.replicate fs.length []⟩ (fs.length-1)
def Ly (fs:List Src.CFn) (P:Plan):Nat→jr
 |0=>start fs P
 |k+1=>fG fs P (Ly fs P k) k
def whole (fs:List Src.CFn) (P:Plan):jr:=Ly fs P (fs.length-1)
def place (d:jr) (h:Ho):Int:=if 0≤h.2.2 then(((d.pls[h.2.1.toNat]?).getD [])[h.2.2.toNat]?).getD 0 else(d.ent[h.2.1.toNat]?).getD 0
def fill (d:jr) (code:List MI) (h:Ho):List MI:=
 match code[h.1.toNat]? with
 |some x=>code.set h.1.toNat (x.1,x.2.1,x.2.2.1,place d h)
 |none=>code
def filled (d:jr):List MI:=d.holes.foldl (fill d) d.code
end
end
end Go.Emit

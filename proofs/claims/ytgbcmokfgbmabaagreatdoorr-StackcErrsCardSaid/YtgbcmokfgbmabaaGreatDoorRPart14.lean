/- A part of the proof; no conditions. -/
import Derived.Test.YtgbcmokfgbmabaaGreatDoorRPart13
set_option linter.unusedSimpArgs false
set_option linter.unusedVariables false
set_option maxHeartbeats 64000000
set_option maxRecDepth 100000
namespace Go.Proofs.YtgbcmokfgbmabaaGreatDoorR
section
attribute [local congr] Go.Am.ite_cc
open Go Go.Am Go.Asm
open Go.Src (Ex Stm szE aG szS au Pl iQ cY fy cO coreS cD jX jY)
section
mutual
def cxD:Lower.Ex→List D
 |.mk kind op num slot size kids=>[.int .i64 kind,.int .i64 op,.int .u32 num,.int .i64 slot,.int .i64 size,.sl (wP kids)]
def wP:List Lower.Ex→List (List D)
 |[]=>[]
 |e::l=>cxD e::wP l
end
theorem mR:∀l:List Lower.Ex,wP l=l.map cxD
 |[]=>by simp[wP]
 |e::l=>by simp[wP,mR l]
theorem BW (e:Lower.Ex):(cxD e).length=6:=by cases e;simp[cxD]
mutual
def csD:Lower.Stm→List D
 |.mk kind slot size e th el=>[.int .i64 kind,.int .i64 slot,.int .i64 size,.sl (wP e),.sl (oO th),.sl (oO el)]
def oO:List Lower.Stm→List (List D)
 |[]=>[]
 |e::l=>csD e::oO l
end
theorem mT:∀l:List Lower.Stm,oO l=l.map csD
 |[]=>by simp[oO]
 |e::l=>by simp[oO,mT l]
theorem BX (e:Lower.Stm):(csD e).length=6:=by cases e;simp[csD]
def uL (l:List Lower.Ex):AV:=.one (.d (.sl (l.map cxD)))
def qK (l:List Lower.Stm):AV:=.one (.d (.sl (l.map csD)))
def plD (t:Int×Int):List D:=[.int .i64 t.1,.int .i64 t.2]
def pO (M:List C) (m:Pl):Prop:=∀s:Str,mget M (.str s)=(iQ m s).map fun t=>.d (.iptr (plD t))
theorem pO.put {M:List C}{m:Pl} (h:pO M m) (nm:Str) (t:Int×Int):pO (mset M (.str nm) (.d (.iptr (plD t)))) ((nm,t)::m):=fun s=>by
 rw[nh]
 simp only[jk,iQ]
 by_cases hs:nm=s
 ·subst hs
  simp
 ·simp only[hs,J9,C3,A9]
  exact h s
structure Gl (lo li:Pl) (io ii go gi:Nat) (g:Nat→Nat) (ob:Obs):Prop where
 mo:∃M,ob io=some M∧pO M lo
 mi:∃M,ob ii=some M∧pO M li
 go:g io=go
 gi:g ii=gi
theorem Gl.mono {lo li:Pl}{io ii go gi B:Nat}{g g':Nat→Nat}{ob ob':Obs} (h:Gl lo li io ii go gi g ob) (ho:io<B) (hi:ii<B) (hs:∀i,i<B→g' i=g i∧ob' i=ob i):Gl lo li io ii go gi g' ob' where
 mo:=by rw[(hs io ho).2];exact h.mo
 mi:=by rw[(hs ii hi).2];exact h.mi
 go:=by rw[(hs io ho).1];exact h.go
 gi:=by rw[(hs ii hi).1];exact h.gi
def rX (io ii go gi:Nat):AV:=.agg [.mp io go 208,.mp ii gi 208]
def BY (lo li:Pl) (io ii go gi:Nat) (f:FuncId) (xs:List AV) (r:AV):Prop:=∀(B:Nat) (g:Nat→Nat) (ob:Obs),io<B→ii<B→(∀i,B≤i→ob i=none)→Gl lo li io ii go gi g ob→
 ew Tryz.prog f (rX io ii go gi::xs) g ob (fun r' g' ob'=>g'=g∧ob'=ob∧r'=r) (fun _ _ _=>False)
section
variable {b₀:Bs}{rd:Option Nat}{Φ:St→Am.Loc→List Deferred→World→Prop}
theorem oQ {Ψ:fO}{B0:Nat} (hΦ:aY b₀ Φ) {o:Oper}{s:St}{K:St→Prop}{k:Box K}{f:FuncId}{args:Array Operand}{tys:Array TypeId} (ho:o.op=.call ⟨.value (.func f),args,tys⟩) {xs:List AV}{r:AV}{lo li:Pl}{io ii go gi:Nat}
  (hr:BY lo li io ii go gi f xs r) (hx:args.toList.map s.ev=rX io ii go gi::xs) (Bc:Nat) (h1:io<Bc) (h2:ii<Bc) (hfree:∀i,Bc≤i→s.obj i=none) (E:Gl lo li io ii go gi s.gen s.obj) (hk:K (s.put o.dst r)):bj (spF Tryz.prog rd b₀ Φ B0 Ψ) o s k:=by
 refine bB (R:=fun r' g' ob'=>g'=s.gen∧ob'=s.obj∧r'=r) (Ψ0:=fun _ _ _=>False) hΦ ho (by rw[hx];exact hr Bc s.gen s.obj h1 h2 hfree E) (fun _ _ _ h=>h.elim) ?_
 rintro _ g' ob' ⟨rfl,rfl,rfl⟩
 exact hk
end
section
variable {lo li:Pl}{io ii go gi:Nat}
theorem Gm (nm:Str):BY lo li io ii go gi 95 [sv nm] (.agg ((plD (cY lo li nm)).map .d)):=by
 intro B g ob h1 h2 hB E
 obtain⟨⟨Mo,oo,mo⟩,⟨Mi,oi,mi⟩,hgo,hgi⟩:=E
 unfold rX
 refine hdM B [] Tryz.func95 rfl [.cell 4 124] a7 hB fun b₀ β0 s0 w0=>?_
 have n1:∀k,(io=B+k)=False:=fun k=>by simp;omega
 have n2:∀k,(ii=B+k)=False:=fun k=>by simp;omega
 have mi1:=mi nm
 have mo1:=mo nm
 unfold cY
 cases hfi:iQ li nm with
 |some t=>
   rw[hfi] at mi1
   simp only[y8,plD] at mi1
   simp only[go_sem,n1,n2,hgi,oi,C8,B1,mi1]
   exact W2
 |none=>
   rw[hfi] at mi1
   simp only[F8] at mi1
   cases hfo:iQ lo nm with
   |some t=>
     rw[hfo] at mo1
     simp only[y8,plD] at mo1
     simp only[go_sem,n1,n2,hgi,hgo,oi,C8,B1,mi1,oo,mo1]
     exact W2
   |none=>
     rw[hfo] at mo1
     simp only[F8] at mo1
     simp only[go_sem,n1,n2,hgi,hgo,oi,C8,B1,mi1,oo,mo1]
     refine⟨_,ag.refl _,?_⟩
     simp only[go_sem,n1,n2]
     exact aZ.nil (fun i hi=>⟨nu,nu⟩) (rs':=[.agg ((plD (0,0)).map .d)]) ⟨_,_,rfl,Di (plD (0,0)),rfl⟩ ⟨rfl,rfl,rfl⟩
def cxC (l:List Lower.Ex):List C:=l.flatMap fun a=>(cxD a).map .d
theorem Jq (l:List Lower.Ex):(cxC l).length=l.length*6:=by
 induction l with
 |nil=>rfl
 |cons a l ih=>simp only[cxC,D3,j5,j4,BW,j6] at ih ⊢;omega
theorem Jr (l m:List Lower.Ex):cxC (l++m)=cxC l++cxC m:=by simp[cxC]
theorem Js (e:Lower.Ex):cxC [e]=(cxD e).map .d:=by simp[cxC]
def csC (l:List Lower.Stm):List C:=l.flatMap fun a=>(csD a).map .d
theorem Jt (l:List Lower.Stm):(csC l).length=l.length*6:=by
 induction l with
 |nil=>rfl
 |cons a l ih=>simp only[csC,D3,j5,j4,BX,j6] at ih ⊢;omega
theorem Ju (l m:List Lower.Stm):csC (l++m)=csC l++csC m:=by simp[csC]
theorem Jv (e:Lower.Stm):csC [e]=(csD e).map .d:=by simp[csC]
theorem vx {α β:Type}{f:α→β}{l:List α}{k:Nat}{x:α} (h:l[k]? = some x):(l.take (k+1)).map f=(l.take k).map f++[f x]:=by
 rw[B4,h,J0,A1];rfl
theorem Jw:∀(N:Nat) (l:List Ex),aG l≤N→N≤1000000000→BY lo li io ii go gi 96 [dj l] (uL (cO lo li l)):=by
 intro N
 induction N using Nat.strongRecOn with
 |ind N ih=>
 intro l hszl hN B g ob h1 h2 hB E
 rw[jX]
 unfold rX
 refine hdM B [] Tryz.func96 rfl [.tmp 4] a7 hB fun b₀ β0 s0 w0=>?_
 have hll:=Src.Hl l
 unfold dj
 simp only[go_sem,j4]
 refine mP _ (sf (t:=5) (id:=B+36) (sz:=6) (by simp only[go_sem])) (fun m st=>∃k:Nat,m+k=l.length∧st.f 2=.one (.ptr (B+2) (st.gen (B+2)) 0)∧st.f 5=.one (.osl (B+36) (st.gen (B+36)) 6 0 k)∧st.f 9=.one (.d (.sl (l.map exD)))∧st.f 10=iv .i64 l.length∧st.f 11=iv .i64 k∧
   st.obj (B+2)=some [.mp io go 208,.mp ii gi 208]∧st.obj (B+36)=some (cxC ((l.take k).map (fy lo li)))∧(∀j,j<B→st.gen j=g j∧st.obj j=ob j)∧(∀j,B+39≤j→st.obj j=none)) l.length ?_ ?_
 ·exact Xt
 rintro m f g1 ob1 ⟨k,hk,q2,q5,q9,q10,q11,o2,o36,fr,hfr⟩
 simp only at q2 q5 q9 q10 q11 o2 o36 fr hfr
 have hw:=ab (k:=k) a6
 by_cases hlt:k<l.length
 case neg=>
  have hki:¬(k:Int)<(l.length:Int):=a6
  obtain rfl:k=l.length:=a6
  rw[l7 (j8 _)] at o36
  simp only[go_sem,q5,q10,q11,hki]
  refine⟨_,ag.refl _,?_⟩
  simp only[go_sem,q5]
  exact aZ.nil fr (rs':=[uL (l.map (fy lo li))]) ⟨_,_,rfl,.one (eH a6 rfl (l.map (fy lo li)) cxD o36 rfl (fun a _=>BW a) (by rw[j4])),rfl⟩ ⟨rfl,rfl,rfl⟩
 have hki:(k:Int)<(l.length:Int):=a6
 have hk0:(0:Int)≤(k:Int):=a6
 obtain⟨e,he⟩:=getq hlt
 have hsze:=Src.Kv (l0 he)
 obtain⟨kind,op,num,name,kids⟩:=e
 rw[szE] at hsze
 have hE:exD (.mk kind op num name kids)=[.int .i64 kind,.int .i64 op,.int .u32 num,.str name,.sl (kids.map exD)]:=by simp only[exD,aw]
 have hih:=ih (aG kids) a6 kids (j8 _) a6
 simp only[go_sem,q2,q5,q9,q10,q11,o2,hki,hk0,he,hE]
 refine oQ aa rfl (Gm name) (by simp only[go_sem,rX]) (B+39) a6 a6 (fun i hi=>nt (hfr i a6)) ((E.mono h1 h2 fr).mono h1 h2 fun i hi=>⟨nu,nu⟩) ?_
 obtain⟨ps,hps⟩:∃x,cY lo li name=x:=⟨_,rfl⟩
 rw[hps]
 have hce:fy lo li (.mk kind op num name kids)=.mk kind op num ps.1 ps.2 (cO lo li kids):=by rw[fy,hps]
 unfold plD
 simp only[go_sem]
 refine dD aP mixed aa [B+35,B+36] [([5],[0],[],false),([7],[],[],false),([20],[],[],false),([7],[],[],false),([22],[],[],false),([7],[],[],false),([24],[],[],false),([8],[],[],false),([26],[],[],false),([8],[],[],false),([28],[],[],false),([2],[],[],false),([7],[],[],false),([31],[],[],false),([30,32],[],[],false),([21,23,25,27,29,33],[],[],false),([34],[],[0],false),([19,35],[],[1],false),([36],[],[],true)] 2 rfl b9 rfl a7 ?_
 simp only[go_sem]
 iterate 10 (apply ax;(case hg=>first|exact w7|exact⟨_,rfl,by decide,rfl⟩);(case h1=>intro fa ga oa K' hK;simp only[go_sem,q2,q5,o2] at hK ⊢;exact hK))
 iterate 4 (apply ax;(case hg=>first|exact w7|exact⟨_,rfl,by decide,rfl⟩);(case h1=>intro fa ga oa K' hK;simp only[go_sem,q2,q5,o2] at hK ⊢;exact hK))
 apply ax (v:=uL (cO lo li kids))
 case hg=>exact w7
 case h1=>
  intro fa ga oa K' hK
  simp only[go_sem,uL] at hK ⊢
  refine oQ aa rfl hih (by simp only[go_sem,rX];rfl) (B+39) a6 a6 (fun i hi=>nt (hfr i a6)) ((E.mono h1 h2 fr).mono h1 h2 fun i hi=>⟨nu,nu⟩) ?_
  unfold uL
  exact XR
 (apply ax;(case hg=>first|exact w7|exact⟨_,rfl,by decide,rfl⟩);(case h1=>intro fa ga oa K' hK;simp only[go_sem,uL] at hK ⊢;exact hK))
 (apply ci;(case hg=>first|exact w7|exact⟨_,rfl,by decide,rfl⟩);(case h1=>intro fa ga oa K' hK;simp only[go_sem,aH] at hK ⊢;exact hK))
 have hcl:=Jq ((l.take k).map (fy lo li))
 have htl:((l.take k).map (fy lo li)).length=k:=by rw[j4,C2];omega
 rw[htl] at hcl
 refine ci (a:=1) (v:=.one (.osl (B+36) (nxC (apC 249 (g1 (B+36)) 0) (g1 (B+36))) 6 0 (k+1))) (x:=nxC (apC 249 (g1 (B+36)) 0) (g1 (B+36))) (y:=some (cxC ((l.take k).map (fy lo li)++[fy lo li (.mk kind op num name kids)]))) w7 (fun fa ga oa K' hK=>?_) ?_
 ·have e1:List.take (k*6) (cxC ((l.take k).map (fy lo li)))++(cxD (fy lo li (.mk kind op num name kids))).map .d=cxC ((l.take k).map (fy lo li)++[fy lo li (.mk kind op num name kids)]):=by
   rw[l7 a6,Jr,Js]
  rw[hce] at e1
  simp only[cxD,mR,l5,v8] at e1
  rw[hce] at hK
  simp only[go_sem,aH,o36,hcl] at hK ⊢
  exact Xx
 exact Ww
end
end
section
section
variable {lo li:Pl}{io ii go gi:Nat}
theorem Jx:∀(N:Nat) (l:List Stm),au l≤N→N≤1000000000→BY lo li io ii go gi 60 [dO l] (qK (cD lo li l)):=by
 intro N
 induction N using Nat.strongRecOn with
 |ind N ih=>
 intro l hszl hN B g ob h1 h2 hB E
 rw[jY]
 unfold rX
 refine hdM B [] Tryz.func60 rfl [.tmp 4] a7 hB fun b₀ β0 s0 w0=>?_
 have hll:=Src.Hm l
 unfold dO
 simp only[go_sem,j4]
 refine mP _ (sf (t:=5) (id:=B+40) (sz:=6) (by simp only[go_sem])) (fun m st=>∃k:Nat,m+k=l.length∧st.f 2=.one (.ptr (B+2) (st.gen (B+2)) 0)∧st.f 5=.one (.osl (B+40) (st.gen (B+40)) 6 0 k)∧st.f 9=.one (.d (.sl (l.map smD)))∧st.f 10=iv .i64 l.length∧st.f 11=iv .i64 k∧
   st.obj (B+2)=some [.mp io go 208,.mp ii gi 208]∧st.obj (B+40)=some (csC ((l.take k).map (coreS lo li)))∧(∀j,j<B→st.gen j=g j∧st.obj j=ob j)∧(∀j,B+43≤j→st.obj j=none)) l.length ?_ ?_
 ·exact Xt
 rintro m f g1 ob1 ⟨k,hk,q2,q5,q9,q10,q11,o2,o36,fr,hfr⟩
 simp only at q2 q5 q9 q10 q11 o2 o36 fr hfr
 have hw:=ab (k:=k) a6
 by_cases hlt:k<l.length
 case neg=>
  have hki:¬(k:Int)<(l.length:Int):=a6
  obtain rfl:k=l.length:=a6
  rw[l7 (j8 _)] at o36
  simp only[go_sem,q5,q10,q11,hki]
  refine⟨_,ag.refl _,?_⟩
  simp only[go_sem,q5]
  exact aZ.nil fr (rs':=[qK (l.map (coreS lo li))]) ⟨_,_,rfl,.one (eH a6 rfl (l.map (coreS lo li)) csD o36 rfl (fun a _=>BX a) (by rw[j4])),rfl⟩ ⟨rfl,rfl,rfl⟩
 have hki:(k:Int)<(l.length:Int):=a6
 have hk0:(0:Int)≤(k:Int):=a6
 obtain⟨e,he⟩:=getq hlt
 have hsze:=Src.Kw (l0 he)
 obtain⟨kind,name,es,th,el⟩:=e
 rw[szS] at hsze
 have hE:smD (.mk kind name es th el)=[.int .i64 kind,.str name,.sl (es.map exD),.sl (th.map smD),.sl (el.map smD)]:=by simp only[smD,aw,cK]
 have hth:=ih (au th) a6 th (j8 _) a6
 have hel:=ih (au el) a6 el (j8 _) a6
 have hes:=Jw (lo:=lo) (li:=li) (io:=io) (ii:=ii) (go:=go) (gi:=gi) (aG es) es (j8 _) a6
 simp only[go_sem,q2,q5,q9,q10,q11,o2,hki,hk0,he,hE]
 refine oQ aa rfl (Gm name) (by simp only[go_sem,rX]) (B+43) a6 a6 (fun i hi=>nt (hfr i a6)) ((E.mono h1 h2 fr).mono h1 h2 fun i hi=>⟨nu,nu⟩) ?_
 obtain⟨ps,hps⟩:∃x,cY lo li name=x:=⟨_,rfl⟩
 rw[hps]
 have hce:coreS lo li (.mk kind name es th el)=.mk kind ps.1 ps.2 (cO lo li es) (cD lo li th) (cD lo li el):=by rw[coreS,hps]
 unfold plD
 simp only[go_sem]
 refine dD aP mixed aa [B+39,B+40] [([5],[0],[],false),([7],[],[],false),([20],[],[],false),([8],[],[],false),([22],[],[],false),([8],[],[],false),([24],[],[],false),([2],[],[],false),([7],[],[],false),([27],[],[],false),([26,28],[],[],false),([2],[],[],false),([7],[],[],false),([31],[],[],false),([30,32],[],[],false),([2],[],[],false),([7],[],[],false),([35],[],[],false),([34,36],[],[],false),([21,23,25,29,33,37],[],[],false),([38],[],[0],false),([19,39],[],[1],false),([40],[],[],true)] 2 rfl b9 rfl a7 ?_
 simp only[go_sem]
 iterate 10 (apply ax;(case hg=>first|exact w7|exact⟨_,rfl,by decide,rfl⟩);(case h1=>intro fa ga oa K' hK;simp only[go_sem,q2,q5,o2] at hK ⊢;exact hK))
 apply ax (v:=uL (cO lo li es))
 case hg=>exact w7
 case h1=>
  intro fa ga oa K' hK
  simp only[go_sem,uL] at hK ⊢
  refine oQ aa rfl hes (by simp only[go_sem,rX];rfl) (B+43) a6 a6 (fun i hi=>nt (hfr i a6)) ((E.mono h1 h2 fr).mono h1 h2 fun i hi=>⟨nu,nu⟩) ?_
  unfold uL
  exact XR
 iterate 3 (apply ax;(case hg=>first|exact w7|exact⟨_,rfl,by decide,rfl⟩);(case h1=>intro fa ga oa K' hK;simp only[go_sem,q2,q5,o2] at hK ⊢;exact hK))
 apply ax (v:=qK (cD lo li th))
 case hg=>exact w7
 case h1=>
  intro fa ga oa K' hK
  simp only[go_sem,qK] at hK ⊢
  refine oQ aa rfl hth (by simp only[go_sem,rX];rfl) (B+43) a6 a6 (fun i hi=>nt (hfr i a6)) ((E.mono h1 h2 fr).mono h1 h2 fun i hi=>⟨nu,nu⟩) ?_
  unfold qK
  exact XR
 iterate 3 (apply ax;(case hg=>first|exact w7|exact⟨_,rfl,by decide,rfl⟩);(case h1=>intro fa ga oa K' hK;simp only[go_sem,q2,q5,o2] at hK ⊢;exact hK))
 apply ax (v:=qK (cD lo li el))
 case hg=>exact w7
 case h1=>
  intro fa ga oa K' hK
  simp only[go_sem,qK] at hK ⊢
  refine oQ aa rfl hel (by simp only[go_sem,rX];rfl) (B+43) a6 a6 (fun i hi=>nt (hfr i a6)) ((E.mono h1 h2 fr).mono h1 h2 fun i hi=>⟨nu,nu⟩) ?_
  unfold qK
  exact XR
 (apply ax;(case hg=>first|exact w7|exact⟨_,rfl,by decide,rfl⟩);(case h1=>intro fa ga oa K' hK;simp only[go_sem,uL,qK] at hK ⊢;exact hK))
 (apply ci;(case hg=>first|exact w7|exact⟨_,rfl,by decide,rfl⟩);(case h1=>intro fa ga oa K' hK;simp only[go_sem,aH] at hK ⊢;exact hK))
 have hcl:=Jt ((l.take k).map (coreS lo li))
 have htl:((l.take k).map (coreS lo li)).length=k:=by rw[j4,C2];omega
 rw[htl] at hcl
 refine ci (a:=1) (v:=.one (.osl (B+40) (nxC (apC 189 (g1 (B+40)) 0) (g1 (B+40))) 6 0 (k+1))) (x:=nxC (apC 189 (g1 (B+40)) 0) (g1 (B+40))) (y:=some (csC ((l.take k).map (coreS lo li)++[coreS lo li (.mk kind name es th el)]))) w7 (fun fa ga oa K' hK=>?_) ?_
 ·have e1:List.take (k*6) (csC ((l.take k).map (coreS lo li)))++(csD (coreS lo li (.mk kind name es th el))).map .d=csC ((l.take k).map (coreS lo li)++[coreS lo li (.mk kind name es th el)]):=by
   rw[l7 a6,Ju,Jv]
  rw[hce] at e1
  simp only[csD,mR,mT,l5,v8] at e1
  rw[hce] at hK
  simp only[go_sem,aH,o36,hcl] at hK ⊢
  exact Xx
 exact Ww
end
end
end
section
attribute [local congr] Go.Am.ite_cc
open Go Go.Am Go.Asm
open Go.Src (Ex Stm szE aG szS au Pl iQ cY gV gA gF aK lP)
theorem dropq {α:Type}{l:List α}{k:Nat}{x:α} (h:l[k]? = some x):l.drop k=x::l.drop (k+1):=by
 have hlt:=(l4.1 h).1
 rw[A5 hlt,(l4.1 h).2]
theorem Dm {g:Nat→Nat}{ob:Obs}{p:Src.Prog} (hsz:szP p≤1000000) (har:∀a∈p.arrays,0≤a.2∧a.2≤4096) :
  ew Tryz.prog 59 [bO p] g ob (fun r g' ob'=>r=.tup [.one (.mp 1012 (g' 1012) 208),iv .i64 (aK p).2]∧(0≤(aK p).2∧(aK p).2≤1000000+4096*1000000)∧(∃M,ob' 1012=some M∧pO M (aK p).1)∧∀i,i<1000∨1100≤i→g' i=g i∧ob' i=ob i) (fun _ _ _=>False):=by
 refine hdX 1000 Tryz.func59 rfl [.tmp 2,.tmp 3] fun b₀ β0 s0 w0=>?_
 obtain⟨vs,ars,fs⟩:=p
 unfold szP at hsz
 simp only at hsz har
 obtain⟨Lm,Lw⟩:∃L,aK ⟨vs,ars,fs⟩=L:=⟨_,rfl⟩
 obtain⟨L,hL⟩:∃L,aK ⟨vs,ars,fs⟩=L:=⟨_,rfl⟩
 rw[hL]
 unfold aK at hL
 simp only at hL
 unfold bO iq
 simp only[go_sem,j4]
 refine ak (fun m st=>∃(k:Nat) (pm:Pl) (w:Int),m+k=vs.length∧gV (vs.drop k) pm w=gV vs [] 0∧0≤w∧w≤k∧st.f 1=.one (.ptr 1001 (st.gen 1001) 0)∧st.f 4=.one (.mp 1012 (st.gen 1012) 208)∧st.f 5=iv .i64 w∧st.obj 1001=some (ir ⟨vs,ars,fs⟩)∧(∃M,st.obj 1012=some M∧pO M pm)∧st.f 14=.one (.d (.sl (vs.map fun s=>[.str s])))∧st.f 15=iv .i64 vs.length∧st.f 16=iv .i64 k∧
   ∀i,i<1000∨1100≤i→st.gen i=g i∧st.obj i=ob i) vs.length ?_ ?_
 ·refine⟨0,[],0,rfl,by rw[C5],a6,a6,?_⟩
  simp only[go_sem]
  exact⟨rfl,⟨[],rfl,fun s=>rfl⟩,fun i hi=>⟨nu,nu⟩⟩
 rintro m f g1 ob1 ⟨k,pm,w,hk,hgv,hw0,hw1,q1,q4,q5,o1,⟨M,oM,mM⟩,q14,q15,q16,fr⟩
 simp only at q1 q4 q5 o1 oM q14 q15 q16 fr
 have hw:=ab (k:=k) a6
 by_cases hlt:k<vs.length
 ·have hki:(k:Int)<(vs.length:Int):=a6
  have hk0:(0:Int)≤(k:Int):=a6
  have hww:IntKind.i64.wrap (w+1)=w+1:=by rw[wrap_i64] <;> omega
  obtain⟨v,he⟩:=getq hlt
  rw[dropq he,gV] at hgv
  have hput:=mM.put v (w,0)
  unfold plD at hput
  simp only[go_sem,q4,q5,q14,q15,q16,hki,hk0,he,oM,hww,hw]
  refine ah (m-1) a6 ⟨k+1,_,_,a6,hgv,a6,a6,?_⟩
  simp only[go_sem,q1,q4,q14,q15,o1]
  exact⟨⟨_,rfl,hput⟩,fun i hi=>⟨(fr i hi).1,nt ((fr i hi).2)⟩⟩
 have hki:¬(k:Int)<(vs.length:Int):=a6
 obtain rfl:k=vs.length:=a6
 rw[E4,gV] at hgv
 rw[←hgv] at hL
 simp only at hL
 have o1':=o1
 unfold ir iq at o1
 simp only[l5,v8] at o1
 simp only[go_sem,q1,o1,q15,q16,hki,j4]
 refine ak (fun m st=>∃(k:Nat) (pm2:Pl) (w2:Int),m+k=ars.length∧gA (ars.drop k) pm2 w2=gA ars pm w∧0≤w2∧w2≤1000000+4096*k∧st.f 1=.one (.ptr 1001 (st.gen 1001) 0)∧st.f 4=.one (.mp 1012 (st.gen 1012) 208)∧st.f 5=iv .i64 w2∧st.obj 1001=some (ir ⟨vs,ars,fs⟩)∧(∃M,st.obj 1012=some M∧pO M pm2)∧st.f 28=.one (.d (.sl (ars.map arD)))∧st.f 29=iv .i64 ars.length∧st.f 30=iv .i64 k∧
   ∀i,i<1000∨1100≤i→st.gen i=g i∧st.obj i=ob i) ars.length ?_ ?_
 ·refine⟨0,pm,w,rfl,by rw[C5],hw0,a6,?_⟩
  simp only[go_sem,q1,q4,q5,o1]
  exact⟨rfl,⟨M,oM,mM⟩,fr⟩
 clear q1 q4 q5 o1 o1' oM q14 q15 q16 fr mM M hw hlt hki hk hw0 hw1 hgv
 rintro m f g1 ob1 ⟨k,pm2,w2,hk,hgv,hw0,hw1,q1,q4,q5,o1,⟨M,oM,mM⟩,q14,q15,q16,fr⟩
 simp only at q1 q4 q5 o1 oM q14 q15 q16 fr
 have hw:=ab (k:=k) a6
 by_cases hlt:k<ars.length
 ·have hki:(k:Int)<(ars.length:Int):=a6
  have hk0:(0:Int)≤(k:Int):=a6
  obtain⟨⟨v,z⟩,he⟩:=getq hlt
  have hz:=har _ (l0 he)
  simp only at hz
  have hww:IntKind.i64.wrap (w2+z)=w2+z:=by rw[wrap_i64] <;> omega
  rw[dropq he,gA] at hgv
  simp only at hgv
  have hput:=mM.put v (w2,z)
  unfold plD at hput
  simp only[go_sem,q4,q5,q14,q15,q16,hki,hk0,he,arD,oM,hww,hw]
  refine ah (m-1) a6 ⟨k+1,_,_,a6,hgv,a6,a6,?_⟩
  simp only[go_sem,q1,q4,q14,q15,o1]
  exact⟨⟨_,rfl,hput⟩,fun i hi=>⟨nt ((fr i hi).1),nt ((fr i hi).2)⟩⟩
 have hki:¬(k:Int)<(ars.length:Int):=a6
 obtain rfl:k=ars.length:=a6
 rw[E4,gA] at hgv
 rw[←hgv] at hL
 simp only at hL
 have o1':=o1
 unfold ir iq at o1
 simp only[l5,v8] at o1
 simp only[go_sem,q1,o1,q15,q16,hki,j4]
 refine ak (fun m st=>∃(k:Nat) (pm3:Pl),m+k=fs.length∧gF k (fs.drop k) pm3=gF 0 fs pm2∧st.f 4=.one (.mp 1012 (st.gen 1012) 208)∧st.f 5=iv .i64 w2∧(∃M,st.obj 1012=some M∧pO M pm3)∧st.f 47=.one (.d (.sl (fs.map fnD)))∧st.f 48=iv .i64 fs.length∧st.f 49=iv .i64 k∧
   ∀i,i<1000∨1100≤i→st.gen i=g i∧st.obj i=ob i) fs.length ?_ ?_
 ·refine⟨0,pm2,rfl,by rw[C5],?_⟩
  simp only[go_sem,q4,q5]
  exact⟨⟨M,oM,mM⟩,fr⟩
 clear q1 q4 q5 o1 o1' oM q14 q15 q16 fr mM M hw hlt hki hk hgv
 rintro m f g1 ob1 ⟨k,pm3,hk,hgv,q4,q5,⟨M,oM,mM⟩,q14,q15,q16,fr⟩
 simp only at q4 q5 oM q14 q15 q16 fr
 have hw:=ab (k:=k) a6
 by_cases hlt:k<fs.length
 ·have hki:(k:Int)<(fs.length:Int):=a6
  have hk0:(0:Int)≤(k:Int):=a6
  obtain⟨x,he⟩:=getq hlt
  rw[dropq he,gF] at hgv
  have hput:=mM.put x.name ((k:Int),0)
  unfold plD at hput
  simp only[go_sem,q4,q5,q14,q15,q16,hki,hk0,he,fnD,oM,hw]
  refine ah (m-1) a6 ⟨k+1,_,a6,hgv,?_⟩
  simp only[go_sem,q4,q5,q14,q15]
  exact⟨⟨_,rfl,hput⟩,fun i hi=>⟨nt ((fr i hi).1),nt ((fr i hi).2)⟩⟩
 have hki:¬(k:Int)<(fs.length:Int):=a6
 obtain rfl:k=fs.length:=a6
 rw[E4,gF] at hgv
 rw[←hgv] at hL
 subst hL
 simp only[go_sem,q4,q5,q15,q16,hki]
 refine⟨_,ag.refl _,?_⟩
 simp only[go_sem]
 exact⟨rfl,⟨hw0,a6⟩,⟨M,oM,mM⟩,fr⟩
end
section
attribute [local congr] Go.Am.ite_cc
open Go Go.Am Go.Asm
open Go.Src (Ex Stm szE aG szS au Pl iQ cY gV gA gF aK lP CFn Core ng cF ac fX cD bL dw)
def cfD (x:CFn):List D:=[.int .i64 x.params,.int .i64 x.slots,.int .i64 x.first,.bool x.word,.sl (x.body.map csD)]
def nR (c:Core):AV:=.agg [.d (.int .i64 c.words),.d (.sl (c.funcs.map cfD))]
def cfC (l:List CFn):List C:=l.flatMap fun a=>(cfD a).map .d
theorem Jy (l:List CFn):(cfC l).length=l.length*5:=by
 induction l with
 |nil=>rfl
 |cons a l ih=>simp only[cfC,D3,j5,j4,cfD,j6,j7] at ih ⊢;omega
theorem Jz (l m:List CFn):cfC (l++m)=cfC l++cfC m:=by simp[cfC]
theorem JA (e:CFn):cfC [e]=(cfD e).map .d:=by simp[cfC]
theorem Nx {o:cn} (ho:ji o) (p:Src.Prog) (hsz:szP p≤1000000):bI Tryz.prog 3 o 24 [bO p] (· = .tup [nR (fX p).1,iv .i64 ((fX p).2:Nat)]):=by
 refine hdG Tryz.func24 rfl [.cell 2 68,.tmp 3] fun b₀ β0 s0 w0 g=>?_
 have hpV:bO p=.agg [.d (.sl (p.vars.map fun s=>[.str s])),.d (.sl (p.arrays.map arD)),.d (.sl (p.funcs.map fnD))]:=rfl
 obtain⟨z,hz⟩:∃z,fX p=z:=⟨_,rfl⟩
 rw[hz]
 unfold fX at hz
 have hS:=Jp ho p a6
 rw[hpV] at hS ⊢
 simp only[go_sem]
 refine ck rfl (by simp only[go_sem];exact hS) ?_
 rintro _ rfl
 by_cases hs:bL p=0
 case neg=>
  rw[if_pos hs] at hz
  subst hz
  have hs2:¬((bL p:Nat):Int)=0:=a6
  simp only[go_sem,hs2]
  exact⟨_,⟨_,⟨_,_,rfl,pN [.int .i64 0,.nsl],_,_,rfl,jb _,rfl⟩,rfl⟩,rfl⟩
 rw[if_neg (by simp[hs])] at hz
 have hr:dw p=true:=by
  unfold bL at hs
  split at hs
  ·cases hs
  ·rename_i h;simpa using h
 have har:∀a∈p.arrays,0≤a.2∧a.2≤4096:=by
  unfold dw at hr
  simp only[l6,x7] at hr
  intro a ha
  have:=hr.2.1 a ha
  exact Yp
 simp only[go_sem,hs]
 refine bB aN rfl (by simp only[go_sem];rw[←hpV];exact Dm hsz har) ?_ ?_
 ·exact VQ
 rintro r g1 ob1 ⟨rfl,⟨hw0,hw1⟩,⟨M,oM,mM⟩,fr⟩
 have e1:=fr 1 (.inl a8)
 have e2:=fr 2 (.inl a8)
 simp[upd] at e1 e2
 have hfr:∀j,1100≤j→ob1 j=none:=fun j hj=>by rw[(fr j (.inr a6)).2];(try simp only[upd]);(repeat rw[if_neg (by omega)])
 clear fr
 unfold ac at hz
 obtain⟨om,hom⟩:∃x,(aK p).1=x:=⟨_,rfl⟩
 obtain⟨w0',hw0'⟩:∃x,(aK p).2=x:=⟨_,rfl⟩
 rw[hom,hw0'] at hz
 rw[hom] at mM
 rw[hw0'] at hw0 hw1 ⊢
 obtain⟨F,hF⟩:∃F,cF om p.funcs w0'=F:=⟨_,rfl⟩
 rw[hF] at hz
 unfold szP at hsz
 simp only[go_sem,e1.1,e1.2,j4]
 refine mP _ (cN (t:=7) (o:=7) (b:=95) (j:=1) (sz:=5) (off:=0) (cells:=[.d (.int .i64 0),.d .nsl]) (by simp only[go_sem]) (by simp only[go_sem]) rfl a8) (fun m st=>∃(k:Nat) (w:Int) (acc:List CFn),m+k=p.funcs.length∧(acc++(cF om (p.funcs.drop k) w).1,(cF om (p.funcs.drop k) w).2)=F∧acc.length=k∧0≤w∧w≤5000000000+1000000*k∧st.f 2=.one (.ptr 2 (st.gen 2) 0)∧st.f 5=.one (.mp 1012 (st.gen 1012) 208)∧st.f 7=.one (.ptr 7 (st.gen 7) 0)∧st.f 28=.one (.d (.sl (p.funcs.map fnD)))∧st.f 29=iv .i64 p.funcs.length∧st.f 30=iv .i64 k∧st.f 6=iv .i64 w∧st.obj 2=some [.d (.int .i64 0),.d .nsl]∧st.obj 7=some [.d (.int .i64 0),.osl 95 (st.gen 95) 5 0 acc.length]∧st.obj 95=some (cfC acc)∧(∃M,st.obj 1012=some M∧pO M om)∧(∀j,1100≤j→st.obj j=none)) p.funcs.length ?_ ?_
 ·refine⟨0,w0',[],rfl,by rw[C5];exact hF,rfl,hw0,a6,?_⟩
  simp only[St.claimAt]
  simp only[go_sem,e2.1,e2.2]
  exact⟨rfl,⟨M,oM,mM⟩,fun j hj=>nt (hfr j hj)⟩
 clear e1 e2 hfr oM mM M hF
 rintro m f g1 ob1 ⟨k,w,acc,hk,hFk,hacc,hwlo,hwhi,q2,q5,q7,q28,q29,q30,q6,o2,o7,o95,⟨M,oM,mM⟩,hfr⟩
 simp only at q2 q5 q7 q28 q29 q30 q6 o2 o7 o95 oM hfr
 have hwk:=ab (k:=k) a6
 by_cases hlt:k<p.funcs.length
 ·have hki:(k:Int)<(p.funcs.length:Int):=a6
  have hk0:(0:Int)≤(k:Int):=a6
  obtain⟨x,he⟩:=getq hlt
  have hszf:=kh (p:=p) (l0 he)
  unfold szP at hszf
  have hfD:fnD x=[.str x.name,.sl (x.params.map fun s=>[.str s]),.sl (x.locals.map fun s=>[.str s]),.bool x.word,.sl (x.body.map smD)]:=rfl
  have hslots:IntKind.i64.wrap ((x.params.length:Int)+(x.locals.length:Int))=((x.params.length+x.locals.length:Nat):Int):=by rw[wrap_i64] <;> omega
  rw[dropq he,cF] at hFk
  simp only at hFk
  simp only[go_sem,q5,q28,q29,q30,hki,hk0,he,hfD,j4,hslots]
  refine ak (fun m2 st=>∃(n:Nat) (pm:Pl),m2+n=x.params.length∧lP w n (x.params.drop n) pm=lP w 0 x.params []∧st.f 45=.one (.d (.sl (x.params.map fun s=>[.str s])))∧st.f 46=iv .i64 x.params.length∧st.f 47=iv .i64 n∧st.f 9=.one (.ptr 9 (st.gen 9) 0)∧st.f 10=.one (.ptr 10 (st.gen 10) 0)∧st.f 11=iv .i64 ((x.params.length+x.locals.length:Nat):Int)∧st.obj 9=some ((fnD x).map .d)∧st.obj 10=some [.mp 1012 (st.gen 1012) 208,.mp 35 (st.gen 35) 208]∧(∃M,st.obj 35=some M∧pO M pm)∧st.f 2=.one (.ptr 2 (st.gen 2) 0)∧st.f 5=.one (.mp 1012 (st.gen 1012) 208)∧st.f 7=.one (.ptr 7 (st.gen 7) 0)∧st.f 28=.one (.d (.sl (p.funcs.map fnD)))∧st.f 29=iv .i64 p.funcs.length∧st.f 30=iv .i64 k∧st.f 6=iv .i64 w∧st.obj 2=some [.d (.int .i64 0),.d .nsl]∧st.obj 7=some [.d (.int .i64 0),.osl 95 (st.gen 95) 5 0 acc.length]∧st.obj 95=some (cfC acc)∧(∃M,st.obj 1012=some M∧pO M om)∧(∀j,1100≤j→st.obj j=none)) x.params.length ?_ ?_
  ·refine⟨0,[],rfl,by rw[C5],?_⟩
   simp only[go_sem,q2,q5,q7,q28,q29,q30,q6,o2,o7,o95]
   exact⟨rfl,⟨[],rfl,fun s=>rfl⟩,⟨M,oM,mM⟩,fun j hj=>nt (hfr j hj)⟩
  clear q2 q5 q7 q28 q29 q30 q6 o2 o7 o95 oM hfr mM M
  rintro m2 f g1 ob1 ⟨n,pm,hn,hlP,q45,q46,q47,q9,q10,q11,o9,o10,⟨M2,o35,m35⟩,q2,q5,q7,q28,q29,q30,q6,o2,o7,o95,⟨M,oM,mM⟩,hfr⟩
  simp only at q45 q46 q47 q9 q10 q11 o9 o10 o35 q2 q5 q7 q28 q29 q30 q6 o2 o7 o95 oM hfr
  have hwn:=ab (k:=n) a6
  by_cases hlt2:n<x.params.length
  ·have hki2:(n:Int)<(x.params.length:Int):=a6
   have hk02:(0:Int)≤(n:Int):=a6
   obtain⟨v,he2⟩:=getq hlt2
   have hww:IntKind.i64.wrap (w+(n:Int))=w+n:=by rw[wrap_i64] <;> omega
   rw[dropq he2,lP] at hlP
   have hput:=m35.put v (w+n,0)
   unfold plD at hput
   simp only[go_sem,q45,q46,q47,hki2,hk02,he2,q10,o10,o35,q6,hww,hwn]
   refine ah (m2-1) a6 ⟨n+1,_,a6,hlP,?_⟩
   simp only[go_sem,q2,q5,q7,q28,q29,q30,q6,o2,o7,o95,q45,q46,q9,q10,q11,o9,o10]
   exact⟨⟨_,rfl,hput⟩,⟨M,oM,mM⟩,fun j hj=>nt (hfr j hj)⟩
  have hki2:¬(n:Int)<(x.params.length:Int):=a6
  obtain rfl:n=x.params.length:=a6
  rw[E4,lP] at hlP
  have o9':=o9
  rw[hfD] at o9'
  simp only[l5,v8] at o9'
  simp only[go_sem,q9,o9',q46,q47,hki2,j4]
  refine ak (fun m2 st=>∃(n:Nat) (pm2:Pl),m2+n=x.locals.length∧lP (w+x.params.length) n (x.locals.drop n) pm2=lP (w+x.params.length) 0 x.locals pm∧st.f 61=.one (.d (.sl (x.locals.map fun s=>[.str s])))∧st.f 62=iv .i64 x.locals.length∧st.f 63=iv .i64 n∧st.f 9=.one (.ptr 9 (st.gen 9) 0)∧st.f 10=.one (.ptr 10 (st.gen 10) 0)∧st.f 11=iv .i64 ((x.params.length+x.locals.length:Nat):Int)∧st.obj 9=some ((fnD x).map .d)∧st.obj 10=some [.mp 1012 (st.gen 1012) 208,.mp 35 (st.gen 35) 208]∧(∃M,st.obj 35=some M∧pO M pm2)∧st.f 2=.one (.ptr 2 (st.gen 2) 0)∧st.f 5=.one (.mp 1012 (st.gen 1012) 208)∧st.f 7=.one (.ptr 7 (st.gen 7) 0)∧st.f 28=.one (.d (.sl (p.funcs.map fnD)))∧st.f 29=iv .i64 p.funcs.length∧st.f 30=iv .i64 k∧st.f 6=iv .i64 w∧st.obj 2=some [.d (.int .i64 0),.d .nsl]∧st.obj 7=some [.d (.int .i64 0),.osl 95 (st.gen 95) 5 0 acc.length]∧st.obj 95=some (cfC acc)∧(∃M,st.obj 1012=some M∧pO M om)∧(∀j,1100≤j→st.obj j=none)) x.locals.length ?_ ?_
  ·refine⟨0,pm,rfl,by rw[C5],?_⟩
   simp only[go_sem,q2,q5,q7,q28,q29,q30,q6,o2,o7,o95,q9,q10,q11,o9,o10]
   exact⟨⟨M2,o35,m35⟩,⟨M,oM,mM⟩,hfr⟩
  clear q2 q5 q7 q28 q29 q30 q6 o2 o7 o95 oM hfr mM M q45 q46 q47 q9 q10 q11 o9 o9' o10 o35 m35 M2 hwn hlt2 hki2 hn
  rintro m2 f g1 ob1 ⟨n,pm2,hn,hlP2,q45,q46,q47,q9,q10,q11,o9,o10,⟨M2,o35,m35⟩,q2,q5,q7,q28,q29,q30,q6,o2,o7,o95,⟨M,oM,mM⟩,hfr⟩
  simp only at q45 q46 q47 q9 q10 q11 o9 o10 o35 q2 q5 q7 q28 q29 q30 q6 o2 o7 o95 oM hfr
  have hwn:=ab (k:=n) a6
  rw[hfD] at o9
  simp only[l5,v8] at o9
  by_cases hlt2:n<x.locals.length
  ·have hki2:(n:Int)<(x.locals.length:Int):=a6
   have hk02:(0:Int)≤(n:Int):=a6
   obtain⟨v,he2⟩:=getq hlt2
   have hww1:IntKind.i64.wrap (w+(x.params.length:Int))=w+x.params.length:=by rw[wrap_i64] <;> omega
   have hww:IntKind.i64.wrap (w+(x.params.length:Int)+(n:Int))=w+x.params.length+n:=by rw[wrap_i64] <;> omega
   rw[dropq he2,lP] at hlP2
   have hput:=m35.put v (w+x.params.length+n,0)
   unfold plD at hput
   simp only[go_sem,q45,q46,q47,hki2,hk02,he2,q9,o9,j4,q10,o10,o35,q6,hww1,hww,hwn]
   refine ah (m2-1) a6 ⟨n+1,_,a6,hlP2,?_⟩
   simp only[go_sem,q2,q5,q7,q28,q29,q30,q6,o2,o7,o95,q45,q46,q9,q10,q11,o9,o10,hfD,l5,v8]
   exact⟨⟨_,rfl,hput⟩,⟨M,oM,mM⟩,fun j hj=>nt (hfr j hj)⟩
  have hki2:¬(n:Int)<(x.locals.length:Int):=a6
  obtain rfl:n=x.locals.length:=a6
  rw[E4,lP] at hlP2
  rw[hlP] at hlP2
  have hst:=Jx (lo:=om) (li:=pm2) (io:=1012) (ii:=35) (go:=g1 1012) (gi:=g1 35) (au x.body) x.body (j8 _) a6
  simp only[go_sem,q46,q47,hki2]
  refine dD aP mixed aN [94,95,7] [([7],[0],[],false),([80],[0],[],false),([9],[],[],false),([82],[],[],false),([83],[],[],false),([11],[],[],false),([6],[],[],false),([9],[],[],false),([87],[],[],false),([10],[],[],false),([9],[],[],false),([90],[],[],false),([89,91],[],[],false),([84,85,86,88,92],[],[],false),([93],[],[0],false),([81,94],[],[1],false),([7],[],[],false),([96,95],[],[],true)] 3 rfl b9 rfl a8 ?_
  simp only[go_sem]
  iterate 12 (apply ax;(case hg=>first|exact w7|exact⟨_,rfl,by decide,rfl⟩);(case h1=>intro fa ga oa K' hK;simp only[go_sem,q7,o7,q9,o9,q11,q6,q10,o10,j4] at hK ⊢;exact hK))
  apply ax (v:=qK (cD om pm2 x.body))
  case hg=>exact w7
  case h1=>
   intro fa ga oa K' hK
   simp only[go_sem,qK] at hK ⊢
   refine oQ aN rfl hst (by simp only[go_sem,rX];rfl) 1100 a8 a8 (fun i hi=>nt (hfr i a6)) ⟨⟨M,oM,mM⟩,⟨M2,o35,m35⟩,rfl,rfl⟩ ?_
   unfold qK
   exact XR
  (apply ax;(case hg=>first|exact w7|exact⟨_,rfl,by decide,rfl⟩);(case h1=>intro fa ga oa K' hK;simp only[go_sem,qK] at hK ⊢;exact hK))
  (apply ci;(case hg=>first|exact w7|exact⟨_,rfl,by decide,rfl⟩);(case h1=>intro fa ga oa K' hK;simp only[go_sem,aH] at hK ⊢;exact hK))
  have hcl:=Jy acc
  have hcf:ng om x w=⟨x.params.length,((x.params.length+x.locals.length:Nat):Int),w,x.word,cD om pm2 x.body⟩:=by
   unfold ng
   rw[←hlP2]
   rfl
  refine ci (a:=1) (v:=.one (.osl 95 (nxC (apC 128 (g1 95) 0) (g1 95)) 5 0 (acc.length+1))) (x:=nxC (apC 128 (g1 95) 0) (g1 95)) (y:=some (cfC (acc++[ng om x w]))) w7 (fun fa ga oa K' hK=>?_) ?_
  ·have e1:List.take (acc.length*5) (cfC acc)++(cfD (ng om x w)).map .d=cfC (acc++[ng om x w]):=by
    rw[l7 a6,Jz,JA]
   rw[hcf] at e1 hK
   simp only[cfD,l5,v8] at e1
   simp only[go_sem,aH,o95,hcl] at hK ⊢
   exact Xx
  (apply ax;(case hg=>first|exact w7|exact⟨_,rfl,by decide,rfl⟩);(case h1=>intro fa ga oa K' hK;simp only[go_sem,q7,o7] at hK ⊢;exact hK))
  refine dE w7 ?_
  intro K' hK'
  simp only[go_sem,q7,o7]
  refine hK' _ ?_
  clear hK' K'
  have hwl:IntKind.i64.wrap (w+((x.params.length+x.locals.length:Nat):Int))=w+((x.params.length:Int)+(x.locals.length:Int)):=by rw[wrap_i64] <;> omega
  simp only[go_sem,q6,q11,q30,hwl,hwk]
  refine ah (m-1) a6 ⟨k+1,w+((x.params.length:Int)+(x.locals.length:Int)),acc++[ng om x w],a6,by rw[←hFk,s5];rfl,by rw[j5];simp;omega,a6,a6,?_⟩
  simp only[go_sem,q2,q5,q7,q28,q29,o2,j5,j6,j7]
  exact⟨⟨M,oM,mM⟩,fun j hj=>nt (hfr j hj)⟩
 have hki:¬(k:Int)<(p.funcs.length:Int):=a6
 obtain rfl:k=p.funcs.length:=a6
 rw[E4,cF] at hFk
 simp only[l8] at hFk
 subst hFk
 simp only at hz
 by_cases hw:32768<w
 ·rw[if_pos hw] at hz
  subst hz
  simp only[go_sem,q29,q30,hki,q6,hw,q2,o2]
  exact⟨_,⟨_,⟨_,_,rfl,pN [.int .i64 0,.nsl],_,_,rfl,jb _,rfl⟩,rfl⟩,rfl⟩
 rw[if_neg hw] at hz
 subst hz
 simp only[go_sem,q29,q30,hki,q6,hw,q2,o2,q7,o7]
 refine⟨_,⟨_,⟨_,_,rfl,⟨[.int .i64 w,.sl (acc.map cfD)],rfl,fun i c hc=>?_,rfl⟩,_,_,rfl,jb _,rfl⟩,rfl⟩,rfl⟩
 match i,hc with
 |0,hc=>cases hc;exact⟨_,rfl,.d _⟩
 |1,hc=>
   cases hc
   refine⟨_,rfl,dm (s:=⟨_,_,_⟩) rfl acc cfD ?_ rfl (fun a _ y hy=>?_) (fun _ _=>rfl) rfl⟩
   ·simp[upd]
    exact o95
   ·simp only[cfD,z6,A4,E3] at hy
    rcases hy with rfl|rfl|rfl|rfl|rfl <;> rfl
end
end Go.Proofs.YtgbcmokfgbmabaaGreatDoorR
namespace Go.Lower
section
section
variable {w:Int}{ps:Sig}{f:Nat}{word:Bool}{T:Nat→Option Int}
variable {at':Nat}{a b n d:Int}
theorem fL{x:Ins}{d:Int} (t p:Int) (h1:takes ps word x=some (t,p)) (h2:0≤t) (h3:t≤d) (h4:x.op≠8∧x.op≠9∧x.op≠11) (h5:T (at'+1)=some (d-t+p)):OkI ps word T at' x d:=by
 refine⟨t,p,h1,h2,h3,fun h=>absurd h h4.2.2,fun k hk=>?_⟩
 simp only[next,h4.1,h4.2.1,h4.2.2,A9,C4] at hk
 exact⟨at'+1,hk,h5⟩
theorem tZ (k:Nat) (ha:a=(k:Int)) (hd:0≤d) (h:T k=some d):OkI ps word T at' ⟨8,a,b,n⟩ d:=by
 refine⟨0,0,rfl,E6 _,hd,fun h=>absurd h a7,fun k' hk=>?_⟩
 simp only[next,B6,C4] at hk
 exact⟨k,by rw[hk,ha],by rw[h];simp⟩
theorem pT (k:Nat) (ha:a=(k:Int)) (hd:0≤d) (h:T k=some d) (h1:T (at'+1)=some d):OkI ps word T at' ⟨9,a,b,n⟩ (d+1):=by
 refine⟨1,0,rfl,a8,a6,fun h=>absurd h a7,fun k' hk=>?_⟩
 simp only[next,show ¬((9:Int)=8) by decide,A9,B6,z6,A4,E3] at hk
 rcases hk with rfl|rfl
 ·exact⟨at'+1,rfl,by rw[h1];simp⟩
 ·exact⟨k,ha,by rw[h];simp⟩
theorem Kn {lv kind op num slot size d:Int}{n:Nat} (h:okE w ps f lv kind op num slot size n) (hk:¬(kind=8∨kind=9)):(one kind op num slot size d).length=1:=by
 obtain⟨_,_,_,_,_,h⟩:=h
 rcases h with⟨h|h,_⟩|⟨h,_⟩|⟨h,_⟩|⟨h,_⟩|⟨h,_⟩|⟨h,_⟩|⟨h,_⟩
 any_goals (subst h;rfl)
 exact absurd h hk
theorem GU {lv kind op num slot size d:Int}{n at':Nat} (h:okE w ps f lv kind op num slot size n) (hk:¬(kind=8∨kind=9)) (hd:0≤d) (hT:T (at'+1)=some (d+1)) :
  (one kind op num slot size (d+n)).length=1∧Good ps word T at' (one kind op num slot size (d+n))∧(Seg T at' (one kind op num slot size (d+n))→T at'=some (d+n)):=by
 obtain⟨_,_,_,_,_,h⟩:=h
 rcases h with⟨h|h,hn⟩|⟨h,_,hn⟩|⟨h,_,_,_,hn⟩|⟨h,k,hs,hkf,hps⟩|⟨h,_,_,hn⟩|⟨h,hn⟩|⟨h,_⟩
 ·exact WZ
 ·exact WZ
 ·exact WZ
 ·exact X1
 ·subst h hs
  refine⟨rfl,⟨fL n 1 ?_ a6 a6 a7 (by rw[hT];congr 1;omega),trivial⟩,fun h=>h.1⟩
  have:¬((k:Nat):Int)<0:=a6
  simp[takes,hps,this]
 ·subst h hn
  exact⟨rfl,⟨fL 2 1 rfl a8 a6 a7 (by rw[hT];congr 1;omega),trivial⟩,fun h=>h.1⟩
 ·exact X1
 ·exact absurd h hk
theorem AS {kind d:Int}{c0:Code}{c1:Nat→Code} (hd:0≤d)
  (h0:Seg T at' c0→T (at'+c0.length)=some (d+1)→T at'=some d∧Good ps word T at' c0)
  (h1:∀r,Seg T r (c1 r)→T (r+(c1 r).length)=some (d+1)→T r=some d∧Good ps word T r (c1 r))
  (hs:Seg T at' (kT at' d kind c0 c1)) (hT:T (at'+(kT at' d kind c0 c1).length)=some (d+1)):T at'=some d∧Good ps word T at' (kT at' d kind c0 c1):=by
 unfold kT at hs hT ⊢
 simp only at hs hT ⊢
 rw[gg,gg] at hs
 obtain⟨s0,sn,hs⟩:=hs
 simp only[Seg] at hs
 obtain⟨tz,tp,tj,hs⟩:=hs
 rw[gg] at hs
 obtain⟨s1,t1,t2,_⟩:=hs
 have hnl:(jf kind d).length=0∧jf kind d=[]∨(jf kind d).length=1∧jf kind d=[(⟨7,0,0,0⟩,d+1)]:=by
  unfold jf;split
  ·exact .inr ⟨rfl,rfl⟩
  ·exact .inl ⟨rfl,rfl⟩
 generalize hr:at'+c0.length+(jf kind d).length=r at *
 have e3:r+1+1+1=r+3:=a6
 rw[e3] at s1 t1 t2
 obtain⟨hr3,g1⟩:=h1 (r+3) s1 t1
 have hTe:T (r+3+(c1 (r+3)).length+2)=some (d+1):=by
  rw[←hT];congr 1
  simp only[j5,j6,j7];omega
 have ht0:T (at'+c0.length)=some (d+1):=by
  rcases hnl with⟨hl,_⟩|⟨hl,he⟩
  ·rw[←tz];congr 1;omega
  ·rw[he] at sn;exact sn.1
 obtain⟨ha,g0⟩:=h0 s0 ht0
 refine⟨ha,?_⟩
 rw[eR,eR]
 refine⟨g0,?_,?_⟩
 ·rcases hnl with⟨_,he⟩|⟨hl,he⟩
  ·rw[he];trivial
  ·rw[he]
   exact⟨fL 1 1 rfl a8 a6 a7 (by rw[show at'+c0.length+1=r by omega,tz];congr 1;omega),trivial⟩
 ·rw[hr]
  refine⟨pT (r+3) rfl hd hr3 tp,fL 0 1 rfl a8 hd a7 (by rw[tj];congr 1;omega),tZ (r+3+(c1 (r+3)).length+2) rfl a6 hTe,?_⟩
  rw[e3,eR]
  exact⟨g1,fL 1 1 rfl a8 a6 a7 (by rw[t2];congr 1;omega),fL 1 1 rfl a8 a6 a7 (by rw[show r+3+(c1 (r+3)).length+1+1=r+3+(c1 (r+3)).length+2 by omega,hTe];congr 1;omega),trivial⟩
mutual
theorem wY:∀(e:Ex) {lv d:Int}{at':Nat},rE w ps f lv e→0≤d→Seg T at' (cE at' d e)→T (at'+(cE at' d e).length)=some (d+1)→T at'=some d∧Good ps word T at' (cE at' d e)
 |.mk kind op num slot size kids,lv,d,at',h,hd,hs,hT=>by
   rw[rE] at h
   rw[cE] at hs hT ⊢
   by_cases hk:kind=8∨kind=9
   ·rw[if_pos hk] at hs hT ⊢
    have hn:kids.length=2:=by
     obtain⟨⟨_,_,_,_,_,h⟩,_⟩:=h
     omega
    exact GV kids hn h.2 hd hs hT
   ·rw[if_neg hk] at hs hT ⊢
    rw[gg] at hs
    obtain⟨hl,hg,hse⟩:=GU (T:=T) (word:=word) (at':=at'+(cEs at' d kids).length) h.1 hk hd (by rw[←hT,j5,Kn h.1 hk,C1])
    have:=ua kids h.2 hd hs.1 (hse hs.2)
    exact⟨this.1,eR.2 ⟨this.2,hg⟩⟩
theorem ua:∀(l:List Ex) {lv d:Int}{at':Nat},rEs w ps f lv l→0≤d→Seg T at' (cEs at' d l)→T (at'+(cEs at' d l).length)=some (d+l.length)→T at'=some d∧Good ps word T at' (cEs at' d l)
 |[],lv,d,at',h,hd,hs,hT=>by
   rw[cEs] at hT ⊢
   exact⟨by simpa using hT,trivial⟩
 |e::l,lv,d,at',h,hd,hs,hT=>by
   rw[rEs] at h
   rw[cEs] at hs hT ⊢
   rw[gg] at hs
   obtain⟨t1,g1⟩:=ua l h.2 a6 hs.2 (by rw[j5,←C1] at hT;rw[hT];congr 1;simp only[j6];omega)
   obtain⟨t0,g0⟩:=wY e h.1 hd hs.1 t1
   exact⟨t0,eR.2 ⟨g0,g1⟩⟩
theorem GV:∀(l:List Ex) {lv d kind:Int}{at':Nat},l.length=2→rEs w ps f lv l→0≤d→Seg T at' (cAO at' d kind l)→T (at'+(cAO at' d kind l).length)=some (d+1)→T at'=some d∧Good ps word T at' (cAO at' d kind l)
 |[],lv,d,kind,at',hn,h,hd,hs,hT=>by cases hn
 |e::l,lv,d,kind,at',hn,h,hd,hs,hT=>by
   rw[rEs] at h
   rw[cAO] at hs hT ⊢
   exact AS hd (fun s t=>wY e h.1 hd s t) (fun r s t=>vJ l (by simpa using hn) h.2 hd s t) hs hT
theorem vJ:∀(l:List Ex) {lv d:Int}{at':Nat},l.length=1→rEs w ps f lv l→0≤d→Seg T at' (lL at' d l)→T (at'+(lL at' d l).length)=some (d+1)→T at'=some d∧Good ps word T at' (lL at' d l)
 |[],lv,d,at',hn,h,hd,hs,hT=>by cases hn
 |e::l,lv,d,at',hn,h,hd,hs,hT=>by
   rw[rEs] at h
   rw[lL] at hs hT ⊢
   exact wY e h.1 hd hs hT
end
end
section
variable {w:Int}{ps:Sig}{f:Nat}{word:Bool}{T:Nat→Option Int}
def leave (word:Bool):Code:=if word then [(⟨1,0,0,0⟩,0),(⟨11,0,0,0⟩,1)] else [(⟨11,0,0,0⟩,0)]
def jU (at':Nat) (c0:Code) (c1:Nat→Code):Code:=
 c0++(⟨9,(at'+c0.length+1+(c1 (at'+c0.length+1)).length+1:Nat),0,0⟩,1)::(c1 (at'+c0.length+1)++[(⟨8,(at':Int),0,0⟩,0)])
def ifC (at':Nat) (c1:Nat→Code) (has:Bool) (c2:Nat→Code):Code:=
 if has then
  let r:=at'+1+(c1 (at'+1)).length+1
  (⟨9,(r:Int),0,0⟩,1)::(c1 (at'+1)++(⟨8,(r+(c2 r).length:Nat),0,0⟩,0)::c2 r)
 else(⟨9,(at'+1+(c1 (at'+1)).length:Nat),0,0⟩,1)::c1 (at'+1)
def qQ (word:Bool) (kind slot size:Int) (n:Nat):Code:=
 if kind=1 then [(⟨3,slot,0,0⟩,n)] else if kind=2 then [(⟨5,slot,size,0⟩,n)] else if kind=3 then [(⟨13,0,0,0⟩,n)]
 else if kind=6 then [(⟨10,slot,0,0⟩,n)] else if kind=7 then(if n=0 then leave word else [(⟨11,0,0,0⟩,n)]) else []
mutual
def cS (word:Bool) (at':Nat):Stm→Code
 |.mk kind slot size e th el=>
   if kind=5 then jU at' (lL at' 0 e) (fun r=>cSs word r th)
   else cEs at' 0 e++(if kind=4 then ifC (at'+(cEs at' 0 e).length) (fun r=>cSs word r th) (!el.isEmpty) (fun r=>cSs word r el) else qQ word kind slot size e.length)
def cSs (word:Bool) (at':Nat):List Stm→Code
 |[]=>[]
 |e::l=>cS word at' e++cSs word (at'+(cS word at' e).length) l
end
variable {at':Nat}
theorem ub (hs:Seg T at' (leave word)):T at'=some 0∧Good ps word T at' (leave word):=by
 cases word with
 |true=>
   obtain⟨h1,h2,_⟩:=hs
   exact⟨h1,fL 0 1 rfl a8 a8 a7 h2,⟨1,0,rfl,a8,a8,fun _=>rfl,fun k hk=>by simp[next] at hk⟩,trivial⟩
 |false=>
   obtain⟨h1,_⟩:=hs
   exact⟨h1,⟨0,0,rfl,a8,a8,fun _=>rfl,fun k hk=>by simp[next] at hk⟩,trivial⟩
theorem DH {lv kind slot size:Int}{n nt ne at':Nat} (h:okS w ps f word lv kind slot size n nt ne) (h4:kind≠4) (h5:kind≠5) (hs:Seg T at' (qQ word kind slot size n)) (hT:T (at'+(qQ word kind slot size n).length)=some 0) :
  T at'=some (n:Int)∧Good ps word T at' (qQ word kind slot size n):=by
 obtain⟨_,_,_,_,_,h⟩:=h
 rcases h with⟨h,_,hn⟩|⟨h,_,_,_,hn⟩|⟨h,hn⟩|⟨h,k,hsl,hkf,hps⟩|⟨h,hn⟩
 ·subst h hn
  exact⟨hs.1,fL 1 0 rfl a8 a8 a7 hT,trivial⟩
 ·subst h hn
  exact⟨hs.1,fL 2 0 rfl a8 a8 a7 hT,trivial⟩
 ·subst hn
  rcases h with h|h|h
  ·subst h
   exact⟨hs.1,fL 1 0 rfl a8 a8 a7 hT,trivial⟩
  ·exact absurd h h4
  ·exact absurd h h5
 ·subst h hsl
  refine⟨hs.1,fL n 0 ?_ a6 a6 a7 (by rw[show at'+1=at'+(qQ word 6 (k:Int) size n).length from rfl,hT];congr 1;omega),trivial⟩
  have:¬((k:Nat):Int)<0:=a6
  simp[takes,hps,this]
 ·subst h
  rcases hn with hn|⟨hw,hn⟩
  ·subst hn
   exact ub hs
  ·subst hw hn
   exact⟨hs.1,⟨1,0,rfl,a8,a8,fun _=>rfl,fun k hk=>by simp[next] at hk⟩,trivial⟩
theorem yP{c0:Code}{c1:Nat→Code}
  (h0:Seg T at' c0→T (at'+c0.length)=some 1→T at'=some 0∧Good ps word T at' c0)
  (h1:∀r,Seg T r (c1 r)→T (r+(c1 r).length)=some 0→T r=some 0∧Good ps word T r (c1 r))
  (hs:Seg T at' (jU at' c0 c1)) (hT:T (at'+(jU at' c0 c1).length)=some 0):T at'=some 0∧Good ps word T at' (jU at' c0 c1):=by
 unfold jU at hs hT ⊢
 rw[gg] at hs
 obtain⟨s0,tz,hs⟩:=hs
 rw[gg] at hs
 obtain⟨s1,tj,_⟩:=hs
 obtain⟨ha,g0⟩:=h0 s0 tz
 obtain⟨hr,g1⟩:=h1 _ s1 tj
 refine⟨ha,eR.2 ⟨g0,pT _ rfl a8 ?_ hr,eR.2 ⟨g1,tZ at' rfl a8 ha,trivial⟩⟩⟩
 rw[←hT];congr 1
 simp only[j5,j6,j7];omega
theorem GW{has:Bool}{c1 c2:Nat→Code}
  (h1:∀r,Seg T r (c1 r)→T (r+(c1 r).length)=some 0→T r=some 0∧Good ps word T r (c1 r))
  (h2:∀r,Seg T r (c2 r)→T (r+(c2 r).length)=some 0→T r=some 0∧Good ps word T r (c2 r))
  (hs:Seg T at' (ifC at' c1 has c2)) (hT:T (at'+(ifC at' c1 has c2).length)=some 0):T at'=some 1∧Good ps word T at' (ifC at' c1 has c2):=by
 unfold ifC at hs hT ⊢
 cases has with
 |false=>
   simp only[C3,A9] at hs hT ⊢
   obtain⟨tz,s1⟩:=hs
   have hT':T (at'+1+(c1 (at'+1)).length)=some 0:=by rw[←hT];congr 1;simp only[j6];omega
   obtain⟨hr,g1⟩:=h1 _ s1 hT'
   exact⟨tz,pT _ rfl a8 hT' hr,g1⟩
 |true=>
   simp only[B6] at hs hT ⊢
   obtain⟨tz,hs⟩:=hs
   rw[gg] at hs
   obtain⟨s1,tj,s2⟩:=hs
   generalize hr:at'+1+(c1 (at'+1)).length+1=r at *
   have hT':T (r+(c2 r).length)=some 0:=by rw[←hT];congr 1;simp only[j6,j5];omega
   obtain⟨hr1,g1⟩:=h1 _ s1 tj
   obtain⟨hr2,g2⟩:=h2 _ s2 hT'
   refine⟨tz,pT _ rfl a8 hr2 hr1,eR.2 ⟨g1,tZ _ rfl a8 hT',?_⟩⟩
   rw[hr];exact g2
mutual
theorem Ko:∀(s:Stm) {lv:Int}{at':Nat},rS w ps f word lv s→Seg T at' (cS word at' s)→T (at'+(cS word at' s).length)=some 0→T at'=some 0∧Good ps word T at' (cS word at' s)
 |.mk kind slot size e th el,lv,at',h,hs,hT=>by
   rw[rS] at h
   obtain⟨hok,he,hth,hel⟩:=h
   rw[cS] at hs hT ⊢
   by_cases h5:kind=5
   ·rw[if_pos h5] at hs hT ⊢
    have hn:e.length=1:=by
     obtain⟨_,_,_,_,_,h⟩:=hok
     omega
    exact yP (fun s t=>vJ e hn he a8 s t) (fun r s t=>nf th hth s t) hs hT
   ·rw[if_neg h5] at hs hT ⊢
    rw[gg] at hs
    obtain⟨s0,s1⟩:=hs
    rw[j5,←C1] at hT
    have key:T (at'+(cEs at' 0 e).length)=some (e.length:Int)∧Good ps word T (at'+(cEs at' 0 e).length) (if kind=4 then ifC (at'+(cEs at' 0 e).length) (fun r=>cSs word r th) (!el.isEmpty) (fun r=>cSs word r el) else qQ word kind slot size e.length):=by
     by_cases h4:kind=4
     ·rw[if_pos h4] at s1 hT ⊢
      have hn:e.length=1:=by
       obtain⟨_,_,_,_,_,h⟩:=hok
       omega
      rw[hn]
      exact GW (fun r s t=>nf th hth s t) (fun r s t=>nf el hel s t) s1 hT
     ·rw[if_neg h4] at s1 hT ⊢
      exact DH hok h4 h5 s1 hT
    obtain⟨t0,g0⟩:=ua e he (E6 0) s0 (by rw[key.1];congr 1;omega)
    exact⟨t0,eR.2 ⟨g0,key.2⟩⟩
theorem nf:∀(l:List Stm) {lv:Int}{at':Nat},rSs w ps f word lv l→Seg T at' (cSs word at' l)→T (at'+(cSs word at' l).length)=some 0→T at'=some 0∧Good ps word T at' (cSs word at' l)
 |[],lv,at',h,hs,hT=>by
   rw[cSs] at hT ⊢
   exact⟨by simpa using hT,trivial⟩
 |e::l,lv,at',h,hs,hT=>by
   rw[rSs] at h
   rw[cSs] at hs hT ⊢
   rw[gg] at hs
   rw[j5,←C1] at hT
   obtain⟨t1,g1⟩:=nf l h.2 hs.2 hT
   obtain⟨t0,g0⟩:=Ko e h.1 hs.1 t1
   exact⟨t0,eR.2 ⟨g0,g1⟩⟩
end
def codeOf (word:Bool) (body:List Stm):Code:=cSs word 0 body++leave word
theorem yQ:∀(c pre:Code),Seg (fun k=>((pre++c)[k]?).map Prod.snd) pre.length c
 |[],_=>trivial
 |(x,d)::c,pre=>by
   refine⟨a7,?_⟩
   have:=yQ c (pre++[(x,d)])
   exact XJ
theorem yR {body:List Stm} (h:rSs w ps f word 1 body) :
  let T:=fun k=>((codeOf word body)[k]?).map Prod.snd
  T 0=some 0∧Good ps word T 0 (codeOf word body):=by
 intro T
 have hs:Seg T 0 (codeOf word body):=yQ (codeOf word body) []
 unfold codeOf at hs ⊢
 rw[gg] at hs
 obtain⟨hl,gl⟩:=ub (ps:=ps) hs.2
 obtain⟨h0,g0⟩:=nf body h hs.1 hl
 exact⟨h0,eR.2 ⟨g0,gl⟩⟩
end
section
variable {w:Int}{ps:Sig}{f:Nat}{word:Bool}{T:Nat→Option Int}
theorem eS:∀{c:Code}{at' i:Nat}{x:Ins}{d:Int},Good ps word T at' c→c[i]? = some (x,d)→OkI ps word T (at'+i) x d
 |(y,e)::c,at',0,x,d,h,hi=>by cases hi;exact h.1
 |(y,e)::c,at',i+1,x,d,h,hi=>by
   have:=eS (i:=i) h.2 (by simpa using hi)
   rwa [show at'+(i+1)=at'+1+i by omega]
theorem Kp {body:List Stm} (h:rSs w ps f word 1 body) {i:Nat}{x:Ins}{d:Int} (hi:(codeOf word body)[i]? = some (x,d)) (hj:x.op=8∨x.op=9):0≤x.a∧x.a<((codeOf word body).length:Int):=by
 obtain⟨t,p,_,_,_,_,hn⟩:=eS (yR h).2 hi
 obtain⟨k,hk,hT⟩:=hn x.a (by unfold next;rcases hj with hj|hj <;> simp[hj])
 have hkl:k<(codeOf word body).length:=by
  rcases T9 k (codeOf word body).length with h|h
  ·exact h
  ·simp only[D6 h,F8] at hT;cases hT
 omega
def Inv (T:Nat→Option Int) (n:Nat) (out:List Int) (todo:List Nat):Prop:=
 out.length=n∧(∀k v,out[k]? = some v→v = -1∨(T k=some v∧0≤v))∧∀a∈todo,∃v,out[a]? = some v∧T a=some v∧0≤v
def left (out:List Int):Nat:=out.countP (· < 0)
theorem kx:∀{out:List Int}{k:Nat}{v x:Int},out[k]? = some v→v<0→0≤x→left (out.set k x)+1=left out
 |a::out,0,v,x,h,hv,hx=>by
   cases h
   have:¬x<0:=a6
   simp[left,hv,this]
 |a::out,k+1,v,x,h,hv,hx=>by
   have:=kx (out:=out) (k:=k) (by simpa using h) hv hx
   simp only[left,N9,T6] at *
   omega
variable {out:List Int}{todo:List Nat}{deep v:Int}
theorem Inv.seen {n k:Nat} (h:Inv T n out todo) (hT:T k=some deep) (hv:out[k]? = some v):v<0∨v=deep:=by
 rcases h.2.1 k v hv with h|⟨h,_⟩
 ·exact .inl a6
 ·rw[h] at hT;cases hT;exact .inr rfl
theorem Inv.find {n k:Nat} (h:Inv T n out todo) (hT:T k=some deep) (h0:0≤deep) (hv:out[k]? = some v) (hn:v<0) :
  Inv T n (out.set k deep) (todo++[k])∧left (out.set k deep)+(todo++[k]).length=left out+todo.length:=by
 have hk:=(l4.1 hv).1
 refine⟨⟨by simp[h.1],fun j u hj=>?_,fun a ha=>?_⟩,?_⟩
 ·rw[D2] at hj
  by_cases hjk:k=j
  ·subst hjk;rw[if_pos rfl,if_pos hk] at hj;cases hj;exact .inr ⟨hT,h0⟩
  ·rw[if_neg hjk] at hj;exact h.2.1 j u hj
 ·rcases B9.1 ha with ha|ha
  ·obtain⟨u,hu,h2,h3⟩:=h.2.2 a ha
   by_cases hak:k=a
   ·subst hak;rw[hu] at hv;cases hv;omega
   ·exact⟨u,by rw[D2,if_neg hak];exact hu,h2,h3⟩
  ·obtain rfl:a=k:=by simpa using ha
   exact⟨deep,by rw[D2,if_pos rfl,if_pos hk],hT,h0⟩
 ·have:=kx hv hn h0
  simp only[j5,j6,j7];omega
end
end
end Go.Lower
namespace Go.Proofs.YtgbcmokfgbmabaaGreatDoorR.Low
section
open Go Go.Am Go.Lower
mutual
def kO:Ex→Nat
 |.mk _ _ _ _ _ kids=>gu kids
def gu:List Ex→Nat
 |[]=>0
 |e::l=>1+kO e+gu l
end
theorem lE:∀l:List Ex,gu l=l.length+(l.map kO).sum
 |[]=>by simp[gu]
 |e::l=>by simp only[gu,lE l,j6,l5,C6];omega
def oS (l:List Ex) (k:Nat):Nat:=l.length+((l.take k).map kO).sum
theorem Dq (l:List Ex) (k:Nat):oS l k≤gu l:=by
 rw[lE,oS]
 conv=>rhs;rw[←F6 k l]
 simp only[A1,L0,j5,C2,E0];omega
theorem yq {l:List Ex}{k:Nat}{e:Ex} (h:l[k]? = some e):oS l (k+1)=oS l k+kO e:=by
 simp only[oS,B4,h,J0,A1,L0,l5,v8,C6,R2];omega
mutual
def lV:Stm→Nat
 |.mk _ _ _ e th el=>gu e+ed th+ed el
def ed:List Stm→Nat
 |[]=>0
 |e::l=>1+lV e+ed l
end
theorem oT:∀l:List Stm,ed l=l.length+(l.map lV).sum
 |[]=>by simp[ed]
 |e::l=>by simp only[ed,oT l,j6,l5,C6];omega
def Aw (l:List Stm) (k:Nat):Nat:=l.length+((l.take k).map lV).sum
theorem JJ (l:List Stm) (k:Nat):Aw l k≤ed l:=by
 rw[oT,Aw]
 conv=>rhs;rw[←F6 k l]
 simp only[A1,L0,j5,C2,E0];omega
theorem Dr {l:List Stm}{k:Nat}{e:Stm} (h:l[k]? = some e):Aw l (k+1)=Aw l k+lV e:=by
 simp only[Aw,B4,h,J0,A1,L0,l5,v8,C6,R2];omega
theorem Gq (l:List Stm):(oO l).length=l.length:=by rw[mT,j4]
end
section
attribute [local congr] Go.Am.ite_cc
open Go Go.Am Go.Lower
section
def wV (x:Ins):List C:=[.d (.int .i64 x.op),.d (.int .i64 x.a),.d (.int .i64 x.b),.d (.int .u32 x.n)]
def eC (l:List Ins):List C:=l.flatMap wV
theorem Dv:eC []=[]:=rfl
theorem oW (x:Ins) (l:List Ins):eC (x::l)=wV x++eC l:=rfl
theorem Dw (a b:List Ins):eC (a++b)=eC a++eC b:=by simp[eC]
theorem gU:∀l:List Ins,(eC l).length=l.length*4
 |[]=>rfl
 |x::l=>by rw[oW,j5,gU l];simp only[wV,j6,j7];omega
theorem vF:∀(pre:List Ins) (x:Ins) (post:List Ins) (n:Int),(eC (pre++x::post)).set (pre.length*4+1) (.d (.int .i64 n))=eC (pre ++ { x with a:=n }::post)
 |[],x,post,n=>rfl
 |y::pre,x,post,n=>by
   rw[A2,oW,A2,oW,←vF pre x post n]
   rw[J5 _ _ (by simp only[wV,j6,j7];omega)]
   congr 2
   simp only[wV,j6,j7];omega
variable {word:Bool}{code:List Ins}{g0 g:Nat→Nat}{ob0 ob:Obs}{s:St}{K K2 T B:Nat}{res:List Nat}{R:AV→(Nat→Nat)→Obs→Prop}{f:Nat→AV}{args:Array Operand}{tys:Array TypeId}{K':St→Prop}
theorem mA (p:Nat→Bool):ag s ⟨s.f,s.gen,fun i=>if p i=true then none else s.obj i⟩:=by
 exact Wz
theorem bt (p:Nat→Bool) (h:R (nL s.f res) s.gen (fun i=>if p i=true then none else s.obj i)):xi res R .normal s:=⟨_,mA p,h⟩
theorem gL (p:Nat→Bool) (h:R (nL s.f res) s.gen (fun i=>if p i=true then none else s.obj i)):xi res R .ret s:=⟨_,mA p,h⟩
structure Tape (T B:Nat) (word:Bool) (code:List Ins) (g:Nat→Nat) (ob:Obs):Prop where
 t:ob T=some [.d (.bool word),.osl B (g B) 4 0 code.length]
 b:ob B=some (eC code)
 ne:T≠B
theorem Tape.same {T B:Nat}{g g':Nat→Nat}{ob ob':Obs} (h:Tape T B word code g ob) (hg:g' B=g B) (h1:ob' T=ob T) (h2:ob' B=ob B):Tape T B word code g' ob':=
 ⟨by rw[h1,hg];exact h.t,by rw[h2];exact h.b,h.ne⟩
structure yF (K T B:Nat) (word:Bool) (code:List Ins) (g:Nat→Nat) (ob:Obs) (g':Nat→Nat) (ob':Obs):Prop where
 tape:Tape T B word code g' ob'
 gen:∀i,i<K→i≠B→g' i=g i
 obj:∀i,i≠T→i≠B→ob' i=ob i
def ee (f:FuncId) (rest:List AV) (new:Bool→Nat→List Ins):Prop:=
 ∀(K T B:Nat) (word:Bool) (code:List Ins) (g:Nat→Nat) (ob:Obs) (gT:Nat),Tape T B word code g ob→g T=gT→T<K→B<K→(∀i,K≤i→ob i=none)→code.length+(new word code.length).length≤1000000000→
  jZ Tryz.prog f (.one (.ptr T gT 0)::rest) g ob (fun r g' ob'=>r=uv∧yF K T B word (code++new word code.length) g ob g' ob')
theorem Sb {T B V gT gV n:Nat}{code xs:List Ins}{g:Nat→Nat}{ob:Obs} (ht:Tape T B word code g ob) (hgT:g T=gT) (hv:ob V=some (eC xs)) (hgV:g V=gV) (hn:xs.length=n) (hT:V≠T) (hB:V≠B) (hl:code.length+xs.length≤1000000000) :
  jZ Tryz.prog 181 [.one (.ptr T gT 0),.one (.osl V gV 4 0 n)] g ob (fun r g' ob'=>r=uv∧Tape T B word (code++xs) g' ob'∧(∀i,i≠B→g' i=g i)∧∀i,i≠T→i≠B→ob' i=ob i):=by
 refine hdF 0 Tryz.func181 rfl [] ?_
 obtain⟨h1,h2,h3⟩:=ht
 subst hgT hgV hn
 simp only[go_sem,h1,h2,hv,h3,gU]
 refine⟨j8 _,j8 _,⟨a8,a6⟩,⟨_,ag.refl _,rfl,⟨?_,?_,h3⟩,fun i hi=>?_,fun i hi hi'=>?_⟩⟩
 ·simp only[upd,B6,j5]
 ·simp only[upd,B6,if_neg (A3 h3)]
  rw[l7 (by rw[gU];omega),l7 (by rw[gU];omega),Dw]
 ·simp only[upd,if_neg hi]
 ·simp only[upd,if_neg hi,if_neg hi']
structure Prog (K K2 T B:Nat) (word:Bool) (code:List Ins) (g0:Nat→Nat) (ob0:Obs) (g:Nat→Nat) (ob:Obs):Prop where
 tape:Tape T B word code g ob
 gen:∀i,i<K→i≠B→g i=g0 i
 obj:∀i,i<K→i≠T→i≠B→ob i=ob0 i
 top:∀i,K2≤i→ob i=none
 tk:T<K
 bk:B<K
 kk:K≤K2
theorem Prog.start{g:Nat→Nat}{ob:Obs} (h:Tape T B word code g ob) (hT:T<K) (hB:B<K) (hK:∀i,K≤i→ob i=none) (hk:K≤K2):Prog K K2 T B word code g ob g ob:=
 ⟨h,fun _ _ _=>rfl,fun _ _ _ _=>rfl,fun i hi=>hK i a6,hT,hB,hk⟩
theorem Prog.fin (h:Prog K K2 T B word code g0 ob0 g ob) (hK:∀i,K≤i→ob0 i=none):yF K T B word code g0 ob0 g (fun i=>if decide (K≤i)=true then none else ob i):=by
 refine⟨h.tape.same rfl ?_ ?_,h.gen,fun i h1 h2=>?_⟩
 ·have:=h.tk;simp[show ¬K≤T by omega]
 ·have:=h.bk;simp[show ¬K≤B by omega]
 ·by_cases hi:K≤i
  ·simp[hi,hK i hi]
  ·simp only[hi,J9,C3,A9]
   exact h.obj i a6 h1 h2
theorem Prog.new {K K2 T B V x:Nat}{y:Option (List C)} (h:Prog K K2 T B word code g0 ob0 g ob) (h1:K≤V) (h2:V<K2):Prog K K2 T B word code g0 ob0 (upd g V x) (upd ob V y):=by
 have hT:¬T=V:=by have:=h.tk;omega
 have hB:¬B=V:=by have:=h.bk;omega
 refine⟨h.tape.same (by simp[upd,hB]) (by simp[upd,hT]) (by simp[upd,hB]),fun i hi hb=>?_,fun i hi ht hb=>?_,fun i hi=>?_,h.tk,h.bk,h.kk⟩
 ·simp only[upd,if_neg (show ¬i=V by omega)];exact h.gen i hi hb
 ·simp only[upd,if_neg (show ¬i=V by omega)];exact h.obj i hi ht hb
 ·simp only[upd,if_neg (show ¬i=V by omega)];exact h.top i hi
theorem Prog.genT (h:Prog K K2 T B word code g0 ob0 g ob):g T=g0 T:=h.gen T h.tk h.tape.ne
theorem bY {K K2 T B V gT gV n:Nat} (xs:List Ins) (h:Prog K K2 T B word code g0 ob0 g ob) {o:Oper}{k:Box K'}{Bs:Nat}
  (ho:o.op=.call ⟨.value (.func 181),args,tys⟩) (hgT:g0 T=gT) (h1:K≤V) (h2:V<K2) (hn:xs.length=n) (ha:args.toList.map (St.ev ⟨f,upd g V gV,upd ob V (some (eC xs))⟩)=[.one (.ptr T gT 0),.one (.osl V gV 4 0 n)]) (hl:code.length+xs.length≤1000000000)
  (hk:∀g' ob',Prog K K2 T B word (code++xs) g0 ob0 g' ob'→(∀i,i≠B→i≠V→g' i=g i)→(∀i,i≠T→i≠B→i≠V→ob' i=ob i)→K' (St.put ⟨f,g',ob'⟩ o.dst uv)):bj (spB Tryz.prog Bs) o ⟨f,upd g V gV,upd ob V (some (eC xs))⟩ k:=by
 have hp:=h.new (x:=gV) (y:=some (eC xs)) h1 h2
 have hT:V≠T:=by have:=h.tk;omega
 have hB:V≠B:=by have:=h.bk;omega
 refine eN ho (R:=fun r g' ob'=>r=uv∧Tape T B word (code++xs) g' ob'∧(∀i,i≠B→g' i=upd g V gV i)∧∀i,i≠T→i≠B→ob' i=upd ob V (some (eC xs)) i) ?_ ?_
 ·rw[ha]
  exact Sb hp.tape (hp.genT.trans hgT) (by simp[upd]) (by simp[upd]) hn hT hB hl
 ·rintro _ g' ob' ⟨rfl,t,q1,q2⟩
  refine hk g' ob' ⟨t,fun i hi hb=>?_,fun i hi ht hb=>?_,fun i hi=>?_,h.tk,h.bk,h.kk⟩ (fun i hb hv=>?_) (fun i ht hb hv=>?_)
  ·rw[q1 i hb];exact hp.gen i hi hb
  ·rw[q2 i ht hb];exact hp.obj i hi ht hb
  ·have:=h.tk;have:=h.bk;have:=h.kk
   rw[q2 i a6 a6];exact hp.top i hi
  ·rw[q1 i hb];simp only[upd,if_neg hv]
  ·rw[q2 i ht hb];simp only[upd,if_neg hv]
theorem bw {K K2 T B gT:Nat}{f':FuncId}{rest:List AV}{new:Bool→Nat→List Ins} (hw:ee f' rest new) (h:Prog K K2 T B word code g0 ob0 g ob) {o:Oper}{k:Box K'}{Bs:Nat}
  (ho:o.op=.call ⟨.value (.func f'),args,tys⟩) (hgT:g0 T=gT) (ha:args.toList.map (St.ev ⟨f,g,ob⟩)=.one (.ptr T gT 0)::rest) (hl:code.length+(new word code.length).length≤1000000000)
  (hk:∀g' ob',Prog K K2 T B word (code++new word code.length) g0 ob0 g' ob'→(∀i,i<K2→i≠B→g' i=g i)→(∀i,i≠T→i≠B→ob' i=ob i)→K' (St.put ⟨f,g',ob'⟩ o.dst uv)):bj (spB Tryz.prog Bs) o ⟨f,g,ob⟩ k:=by
 have h1:=h.tk;have h2:=h.bk;have h3:=h.kk
 refine eN ho (R:=fun r g' ob'=>r=uv∧yF K2 T B word (code++new word code.length) g ob g' ob') ?_ ?_
 ·rw[ha]
  exact hw K2 T B word code g ob gT h.tape (h.genT.trans hgT) a6 a6 h.top hl
 ·rintro _ g' ob' ⟨rfl,t,q1,q2⟩
  refine hk g' ob' ⟨t,fun i hi hb=>?_,fun i hi ht hb=>?_,fun i hi=>?_,h1,h2,h3⟩ q1 q2
  ·rw[q1 i a6 hb];exact h.gen i hi hb
  ·rw[q2 i ht hb];exact h.obj i hi ht hb
  ·rw[q2 i a6 a6];exact h.top i hi
theorem Ce:ee 103 [] (fun word _=>(leave word).map Prod.fst):=by
 intro K T B word code g ob gT ht hgT hTK hBK hK hl
 have hp:=Prog.start (K2:=K+14) ht hTK hBK hK a6
 refine hdF K Tryz.func103 rfl [] ?_
 have h1:=ht.t
 cases word with
 |false=>
   have hl':code.length+1≤1000000000:=hl
   simp only[go_sem,h1,hgT]
   refine bY [⟨11,0,0,0⟩] hp rfl hgT a6 a6 rfl rfl (by exact hl') ?_
   intro g1 ob1 p1 _ _
   simp only[go_sem]
   refine bt (fun i=>decide (K≤i)) ?_
   exact⟨rfl,p1.fin hK⟩
 |true=>
   have hl':code.length+2≤1000000000:=hl
   simp only[go_sem,h1,hgT]
   refine bY [⟨1,0,0,0⟩] hp rfl hgT a6 a6 rfl rfl (by show code.length+1≤1000000000;omega) ?_
   intro g1 ob1 p1 _ _
   simp only[go_sem,p1.tape.t,p1.genT,hgT]
   refine bY [⟨11,0,0,0⟩] p1 rfl hgT a6 a6 rfl rfl (by simp only[j5,j6,j7];omega) ?_
   intro g2 ob2 p2 _ _
   rw[s5] at p2
   simp only[go_sem]
   refine bt (fun i=>decide (K≤i)) ?_
   exact⟨rfl,p2.fin hK⟩
theorem Kc {T B I J gT gI gJ:Nat}{pre post:List Ins}{x:Ins}{g:Nat→Nat}{ob:Obs} (ht:Tape T B word (pre++x::post) g ob) (hgT:g T=gT) (hI:ob I=some [.ptr T gT 0]) (hgI:g I=gI)
  (hJ:ob J=some [.d (.int .i64 pre.length)]) (hgJ:g J=gJ) (hl:(pre++x::post).length≤1000000000) :
  jZ Tryz.prog 256 [.one (.ptr I gI 0),.one (.ptr J gJ 0)] g ob (fun r g' ob'=>r=uv∧g'=g∧Tape T B word (pre ++ { x with a:=((pre++x::post).length:Int)}::post) g ob'∧∀i,i≠B→ob' i=ob i):=by
 refine hdF 0 Tryz.func256 rfl [] ?_
 obtain⟨h1,h2,h3⟩:=ht
 subst hgT hgI hgJ
 simp only[go_sem]
 refine dy b9 ?_
 have hlen:pre.length<(pre++x::post).length:=by simp only[j5,j6];omega
 simp only[go_sem,h1,h2,hI,hJ,h3,gU,hlen]
 refine⟨a6,_,ag.refl _,rfl,rfl,⟨?_,?_,h3⟩,fun i hi=>by simp[upd,hi]⟩
 ·simp only[upd,if_neg h3,h1,j5,j6]
 ·simp only[upd,B6]
  exact congrArg some (vF pre x post _)
structure yG (I J:Nat) (T gT at':Nat) (g:Nat→Nat) (ob:Obs) (v:AV):Prop where
 v:v=.one (.clo 256 [.ptr I (g I) 0,.ptr J (g J) 0])
 i:ob I=some [.ptr T gT 0]
 j:ob J=some [.d (.int .i64 at')]
theorem yG.same {I J T gT at':Nat}{g g':Nat→Nat}{ob ob':Obs}{v:AV} (h:yG I J T gT at' g ob v) (h1:g' I=g I) (h2:g' J=g J) (h3:ob' I=ob I) (h4:ob' J=ob J):yG I J T gT at' g' ob' v:=
 ⟨by rw[h1,h2];exact h.v,by rw[h3];exact h.i,by rw[h4];exact h.j⟩
theorem NS {K T B gT:Nat}{op:Int}{g:Nat→Nat}{ob:Obs} (ht:Tape T B word code g ob) (hgT:g T=gT) (hTK:T<K) (hBK:B<K) (hK:∀i,K≤i→ob i=none) (hl:code.length+1≤1000000000) :
  jZ Tryz.prog 225 [.one (.ptr T gT 0),iv .i64 op] g ob (fun r g' ob'=>yG (K+2) (K+5) T gT code.length g' ob' r∧Tape T B word (code++[⟨op,0,0,0⟩]) g' ob'∧(∀i,i<K→i≠B→g' i=g i)∧(∀i,i<K→i≠T→i≠B→ob' i=ob i)∧∀i,K+6≤i→ob' i=none):=by
 refine hdF K Tryz.func225 rfl [4] ?_
 have hp:=Prog.start (K2:=K+17) ht hTK hBK hK a6
 have h1:=ht.t
 have h2:=ht.b
 have t1:¬T=K+2:=a6
 have t2:¬T=K+5:=a6
 have b1:¬B=K+2:=a6
 have b2:¬B=K+5:=a6
 have hp1:=hp.new (V:=K+2) (x:=nxC 267 (g (K+2))) (y:=some [.ptr T gT 0]) a6 a6
 have hp2:=hp1.new (V:=K+5) (x:=nxC 4 (g (K+5))) (y:=some [.d (.int .i64 0)]) a6 a6
 have hp3:Prog K (K+17) T B word code g ob (upd (upd g (K+2) (nxC 267 (g (K+2)))) (K+5) (nxC 4 (g (K+5)))) (upd (upd (upd ob (K+2) (some [.ptr T gT 0])) (K+5) (some [.d (.int .i64 0)])) (K+5) (some [.d (.int .i64 code.length)])):=by
  have:=hp2.new (V:=K+5) (x:=(upd (upd g (K+2) (nxC 267 (g (K+2)))) (K+5) (nxC 4 (g (K+5)))) (K+5)) (y:=some [.d (.int .i64 code.length)]) a6 a6
  have e:∀(f:Nat→Nat) (i:Nat),upd f i (f i)=f:=fun f i=>by funext j;simp only[upd];split <;> simp_all
  rw[e] at this
  exact this
 simp only[go_sem,h1,h2,hgT,t1,t2,b1,b2]
 refine bY [⟨op,0,0,0⟩] hp3 rfl hgT a6 a6 rfl rfl (by exact hl) ?_
 intro g1 ob1 p1 q1 q2
 have e1:g1 (K+2)=nxC 267 (g (K+2)):=by rw[q1 _ a6 a6];simp[upd]
 have e2:g1 (K+5)=nxC 4 (g (K+5)):=by rw[q1 _ a6 a6];simp[upd]
 have e3:ob1 (K+2)=some [.ptr T gT 0]:=by rw[q2 _ a6 a6 a6];simp[upd]
 have e4:ob1 (K+5)=some [.d (.int .i64 code.length)]:=by rw[q2 _ a6 a6 a6];simp[upd]
 simp only[go_sem,e1,e2]
 refine gL (fun i=>decide (K+6≤i)) ?_
 refine⟨⟨?_,?_,?_⟩,p1.tape.same rfl ?_ ?_,p1.gen,fun i hi hT hB=>?_,fun i hi=>?_⟩
 ·simp only[go_sem,nL,e1,e2]
 ·simp[e3]
 ·simp[e4]
 ·simp[show ¬K+6≤T by omega]
 ·simp[show ¬K+6≤B by omega]
 ·simp only[show ¬K+6≤i by omega,J9,C3,A9];exact p1.obj i hi hT hB
 ·simp[hi]
end
section
variable {word:Bool}{g0 g:Nat→Nat}{ob0 ob:Obs}{code:List Ins}{f:Nat→AV}{args:Array Operand}{tys:Array TypeId}{K':St→Prop}{op num slot size:Int}
theorem Prog.more {K K2 K3 T B:Nat} (h:Prog K K2 T B word code g0 ob0 g ob) (hk:K2≤K3):Prog K K3 T B word code g0 ob0 g ob:=
 ⟨h.tape,h.gen,h.obj,fun i hi=>h.top i a6,h.tk,h.bk,by have:=h.kk;omega⟩
structure Open (I J T gT at' gI gJ:Nat) (g:Nat→Nat) (ob:Obs):Prop where
 gi:g I=gI
 gj:g J=gJ
 i:ob I=some [.ptr T gT 0]
 j:ob J=some [.d (.int .i64 at')]
theorem Open.same {I J T gT at' gI gJ:Nat}{g g':Nat→Nat}{ob ob':Obs} (h:Open I J T gT at' gI gJ g ob) (h1:g' I=g I) (h2:g' J=g J) (h3:ob' I=ob I) (h4:ob' J=ob J):Open I J T gT at' gI gJ g' ob':=
 ⟨h1.trans h.gi,h2.trans h.gj,h3.trans h.i,h4.trans h.j⟩
theorem gW {K K2 T B gT:Nat}{op:Int} (h:Prog K K2 T B word code g0 ob0 g ob) {o:Oper}{k:Box K'}{Bs:Nat}
  (ho:o.op=.call ⟨.value (.func 225),args,tys⟩) (hgT:g0 T=gT) (ha:args.toList.map (St.ev ⟨f,g,ob⟩)=[.one (.ptr T gT 0),iv .i64 op]) (hl:code.length+1≤1000000000)
  (hk:∀g' ob' gI gJ,Prog K (K2+6) T B word (code++[⟨op,0,0,0⟩]) g0 ob0 g' ob'→Open (K2+2) (K2+5) T gT code.length gI gJ g' ob'→(∀i,i<K2→i≠B→g' i=g i)→(∀i,i<K2→i≠T→i≠B→ob' i=ob i)→K' (St.put ⟨f,g',ob'⟩ o.dst (.one (.clo 256 [.ptr (K2+2) gI 0,.ptr (K2+5) gJ 0])))):bj (spB Tryz.prog Bs) o ⟨f,g,ob⟩ k:=by
 have h1:=h.tk;have h2:=h.bk;have h3:=h.kk
 refine eN ho (R:=fun r g' ob'=>yG (K2+2) (K2+5) T gT code.length g' ob' r∧Tape T B word (code++[⟨op,0,0,0⟩]) g' ob'∧(∀i,i<K2→i≠B→g' i=g i)∧(∀i,i<K2→i≠T→i≠B→ob' i=ob i)∧∀i,K2+6≤i→ob' i=none) ?_ ?_
 ·rw[ha]
  exact NS h.tape (h.genT.trans hgT) a6 a6 h.top hl
 ·rintro _ g' ob' ⟨⟨rfl,l2,l3⟩,t,q1,q2,q3⟩
  refine hk g' ob' _ _ ⟨t,fun i hi hb=>?_,fun i hi ht hb=>?_,q3,h1,h2,a6⟩ ⟨rfl,rfl,l2,l3⟩ q1 q2
  ·rw[q1 i a6 hb];exact h.gen i hi hb
  ·rw[q2 i a6 ht hb];exact h.obj i hi ht hb
theorem fp {K K2 T B gT I J gI gJ t:Nat}{pre post:List Ins}{x:Ins} (h:Prog K K2 T B word (pre++x::post) g0 ob0 g ob) (hop:Open I J T gT pre.length gI gJ g ob) {o:Oper}{k:Box K'}{Bs:Nat}
  (ho:o.op=.call ⟨.value (.tmp t),args,tys⟩) (hgT:g0 T=gT) (hf:f t=.one (.clo 256 [.ptr I gI 0,.ptr J gJ 0])) (ha:args.toList.map (St.ev ⟨f,g,ob⟩)=[]) (hl:(pre++x::post).length≤1000000000)
  (hk:∀ob',Prog K K2 T B word (pre ++ { x with a:=((pre++x::post).length:Int)}::post) g0 ob0 g ob'→(∀i,i≠B→ob' i=ob i)→K' (St.put ⟨f,g,ob'⟩ o.dst uv)):bj (spB Tryz.prog Bs) o ⟨f,g,ob⟩ k:=by
 have h1:=h.tk;have h2:=h.bk;have h3:=h.kk
 refine Ee ho hf (R:=fun r g' ob'=>r=uv∧g'=g∧Tape T B word (pre ++ { x with a:=((pre++x::post).length:Int)}::post) g ob'∧∀i,i≠B→ob' i=ob i) ?_ ?_
 ·rw[ha]
  exact Kc h.tape (h.genT.trans hgT) hop.i hop.gi hop.j hop.gj hl
 ·rintro _ g' ob' ⟨rfl,rfl,t,q⟩
  refine hk ob' ⟨t,h.gen,fun i hi ht hb=>?_,fun i hi=>?_,h1,h2,h3⟩ q
  ·rw[q i hb];exact h.obj i hi ht hb
  ·rw[q i a6];exact h.top i hi
theorem cR (e:Ex):(cxD e).length=6:=by cases e;simp[cxD]
abbrev ipE (e:Ex):AV:=.one (.d (.iptr (cxD e)))
abbrev bi (d:Int) (e:Ex):Bool→Nat→List Ins:=fun _ at'=>(cE at' d e).map Prod.fst
theorem yH {α:Type} (f:Nat→α) (i:Nat):upd f i (f i)=f:=by funext j;simp only[upd];split <;> simp_all
theorem Dx{a b:Ex}{d:Int} (ha:ee 224 [ipE a] (bi d a)) (hb:ee 224 [ipE b] (bi d b)) :
  ee 255 [ipE (.mk 8 op num slot size [a,b])] (bi d (.mk 8 op num slot size [a,b])):=by
 intro K T B word code g ob gT ht hgT hTK hBK hK hl
 have hlen:code.length+((cE code.length d a).length+4+(cE (code.length+(cE code.length d a).length+1+3) d b).length+2)≤1000000000:=by
  have:(bi d (.mk 8 op num slot size [a,b]) word code.length).length=_:=rfl
  simp only[bi,cE,cAO,kT,jf,lL,j4,B6,Vr,j5,j6,j7] at hl
  simp only[C1,Nat.reduceAdd] at hl ⊢
  omega
 have hp:=Prog.start (K2:=K+50) ht hTK hBK hK a6
 refine hdF K Tryz.func255 rfl [] ?_
 have hp1:=hp.new (V:=K+4) (x:=nxC 257 (g (K+4))) (y:=some [.d (.int .i64 0),.d (.int .i64 0),.d (.int .i64 0),.d (.int .u32 0)]) a6 a6
 have hp2:=hp1.new (V:=K+4) (x:=(upd g (K+4) (nxC 257 (g (K+4)))) (K+4)) (y:=some (wV ⟨7,0,0,0⟩)) a6 a6
 rw[yH] at hp2
 have h1:=ht.t
 have h2:=ht.b
 have hE:cxD (.mk 8 op num slot size [a,b])=[.int .i64 8,.int .i64 op,.int .u32 num,.int .i64 slot,.int .i64 size,.sl [cxD a,cxD b]]:=by simp only[cxD,wP]
 unfold ipE
 rw[hE]
 simp only[go_sem,h1,h2,hgT,cR]
 refine bw ha hp2 rfl hgT rfl (by simp only[bi,j4];omega) ?_
 intro g1 ob1 p1 q1 r1
 have e4:ob1 (K+4)=some [.d (.int .i64 7),.d (.int .i64 0),.d (.int .i64 0),.d (.int .u32 0)]:=by rw[r1 _ a6 a6];simp[upd,wV]
 have g4:g1 (K+4)=nxC 257 (g (K+4)):=by rw[q1 _ a6 a6];simp[upd]
 simp only[go_sem,e4,g4]
 refine bY [⟨7,0,0,0⟩] p1 rfl hgT a6 a6 rfl rfl (by simp only[bi,j5,j4,j6,j7];omega) ?_
 intro g2 ob2 p2 q2 r2
 have e4:ob2 (K+4)=some [.d (.int .i64 7),.d (.int .i64 0),.d (.int .i64 0),.d (.int .u32 0)]:=by rw[r2 _ a6 a6 a6];exact e4
 have g4:g2 (K+4)=nxC 257 (g (K+4)):=by rw[q2 _ a6 a6];exact g4
 simp only[go_sem,e4,g4]
 refine gW p2 rfl hgT rfl (by simp only[bi,j5,j4,j6,j7];omega) ?_
 intro g3 ob3 gI1 gJ1 p3 o1 q3 r3
 have e4:ob3 (K+4)=some [.d (.int .i64 7),.d (.int .i64 0),.d (.int .i64 0),.d (.int .u32 0)]:=by rw[r3 _ a6 a6 a6];exact e4
 have g4:g3 (K+4)=nxC 257 (g (K+4)):=by rw[q3 _ a6 a6];exact g4
 simp only[go_sem,e4,g4]
 refine bY [⟨1,0,0,0⟩] p3 rfl hgT a6 a6 rfl rfl (by simp only[bi,j5,j4,j6,j7];omega) ?_
 intro g4' ob4 p4 q4 r4
 have e4:ob4 (K+4)=some [.d (.int .i64 7),.d (.int .i64 0),.d (.int .i64 0),.d (.int .u32 0)]:=by rw[r4 _ a6 a6 a6];exact e4
 have g4:g4' (K+4)=nxC 257 (g (K+4)):=by rw[q4 _ a6 a6];exact g4
 have o1:=o1.same (g':=g4') (ob':=ob4) (q4 _ a6 a6) (q4 _ a6 a6) (r4 _ a6 a6 a6) (r4 _ a6 a6 a6)
 simp only[go_sem,e4,g4]
 refine gW p4 rfl hgT rfl (by simp only[bi,j5,j4,j6,j7];omega) ?_
 intro g5 ob5 gI2 gJ2 p5 o2 q5 r5
 have e4:ob5 (K+4)=some [.d (.int .i64 7),.d (.int .i64 0),.d (.int .i64 0),.d (.int .u32 0)]:=by rw[r5 _ a6 a6 a6];exact e4
 have g4:g5 (K+4)=nxC 257 (g (K+4)):=by rw[q5 _ a6 a6];exact g4
 have o1:=o1.same (g':=g5) (ob':=ob5) (q5 _ a6 a6) (q5 _ a6 a6) (r5 _ a6 a6 a6) (r5 _ a6 a6 a6)
 simp only[go_sem,e4,g4]
 rw[s5,s5] at p5
 have hlA:(code++bi d a word code.length++[(⟨7,0,0,0⟩:Ins)]).length=code.length+(cE code.length d a).length+1:=by simp only[bi,j5,j4,j6,j7]
 have hlB:(code++bi d a word code.length++[(⟨7,0,0,0⟩:Ins)]++(⟨9,0,0,0⟩:Ins)::[⟨1,0,0,0⟩,⟨8,0,0,0⟩]).length=code.length+(cE code.length d a).length+1+3:=by rw[j5,hlA];rfl
 have hlC:(code++bi d a word code.length++[(⟨7,0,0,0⟩:Ins)]++(⟨9,0,0,0⟩:Ins)::[⟨1,0,0,0⟩]).length=code.length+(cE code.length d a).length+1+2:=by rw[j5,hlA];rfl
 refine fp (pre:=code++bi d a word code.length++[⟨7,0,0,0⟩]) (x:=⟨9,0,0,0⟩) (post:=[⟨1,0,0,0⟩,⟨8,0,0,0⟩]) p5 o1 rfl hgT rfl rfl (by rw[hlB];omega) ?_
 intro ob6 p6 r6
 have e4:ob6 (K+4)=some [.d (.int .i64 7),.d (.int .i64 0),.d (.int .i64 0),.d (.int .u32 0)]:=by rw[r6 _ a6];exact e4
 have o2:=o2.same (g':=g5) (ob':=ob6) rfl rfl (r6 _ a6) (r6 _ a6)
 rw[hlB] at p6
 generalize hX:code++bi d a word code.length++[(⟨7,0,0,0⟩:Ins)]=X at *
 have hlD:(X++(⟨9,((code.length+(cE code.length d a).length+1+3:Nat):Int),0,0⟩:Ins)::[⟨1,0,0,0⟩,⟨8,0,0,0⟩]).length=code.length+(cE code.length d a).length+1+3:=by rw[j5,hlA];rfl
 simp only[go_sem,e4,g4,cR]
 refine bw hb p6 rfl hgT rfl (by simp only[hlD,bi,j4];omega) ?_
 intro g7 ob7 p7 q7 r7
 rw[hlD] at p7
 have e4:ob7 (K+4)=some [.d (.int .i64 7),.d (.int .i64 0),.d (.int .i64 0),.d (.int .u32 0)]:=by rw[r7 _ a6 a6];exact e4
 have g4:g7 (K+4)=nxC 257 (g (K+4)):=by rw[q7 _ a6 a6];exact g4
 have o2:=o2.same (g':=g7) (ob':=ob7) (q7 _ a6 a6) (q7 _ a6 a6) (r7 _ a6 a6) (r7 _ a6 a6)
 simp only[go_sem,e4,g4]
 refine bY [⟨7,0,0,0⟩,⟨7,0,0,0⟩] p7 rfl hgT a6 a6 rfl rfl (by simp only[j5,hlA,bi,j4,j6,j7];omega) ?_
 intro g8 ob8 p8 q8 r8
 have o2:=o2.same (g':=g8) (ob':=ob8) (q8 _ a6 a6) (q8 _ a6 a6) (r8 _ a6 a6 a6) (r8 _ a6 a6 a6)
 have p8:Prog K (K+50+6+6) T B word ((X++[⟨9,((code.length+(cE code.length d a).length+1+3:Nat):Int),0,0⟩,⟨1,0,0,0⟩])++⟨8,0,0,0⟩::(bi d b word (code.length+(cE code.length d a).length+1+3)++[⟨7,0,0,0⟩,⟨7,0,0,0⟩])) g ob g8 ob8:=by
  have:=p8
  exact WT
 have hlE:(X++[(⟨9,((code.length+(cE code.length d a).length+1+3:Nat):Int),0,0⟩:Ins),(⟨1,0,0,0⟩:Ins)]).length=(X++[(⟨9,0,0,0⟩:Ins)]++[(⟨1,0,0,0⟩:Ins)]).length:=a7
 have hlF:((X++[(⟨9,((code.length+(cE code.length d a).length+1+3:Nat):Int),0,0⟩:Ins),⟨1,0,0,0⟩])++(⟨8,0,0,0⟩:Ins)::(bi d b word (code.length+(cE code.length d a).length+1+3)++[⟨7,0,0,0⟩,⟨7,0,0,0⟩])).length=code.length+(cE code.length d a).length+1+3+(cE (code.length+(cE code.length d a).length+1+3) d b).length+2:=by
  simp only[j5,j6,j7,hlA,bi,j4];omega
 rw[←hlE] at o2
 simp only[go_sem]
 refine fp p8 o2 rfl hgT rfl rfl (by rw[hlF];omega) ?_
 intro ob9 p9 r9
 rw[hlF] at p9
 simp only[go_sem]
 refine bt (fun i=>decide (K≤i)) ?_
 refine⟨rfl,?_⟩
 have e:code++bi d (.mk 8 op num slot size [a,b]) word code.length=(X++[(⟨9,((code.length+(cE code.length d a).length+1+3:Nat):Int),0,0⟩:Ins),⟨1,0,0,0⟩])++⟨8,((code.length+(cE code.length d a).length+1+3+(cE (code.length+(cE code.length d a).length+1+3) d b).length+2:Nat):Int),0,0⟩::(bi d b word (code.length+(cE code.length d a).length+1+3)++[⟨7,0,0,0⟩,⟨7,0,0,0⟩]):=by
  rw[←hX]
  simp only[bi,cE,cAO,kT,jf,lL,B6,Vr,A1,l5,v8,s5,A2,z8,j6,j7,C0]
 rw[e]
 exact p9.fin hK
theorem Dy{a b:Ex}{d:Int} (ha:ee 224 [ipE a] (bi d a)) (hb:ee 224 [ipE b] (bi d b)) :
  ee 255 [ipE (.mk 9 op num slot size [a,b])] (bi d (.mk 9 op num slot size [a,b])):=by
 intro K T B word code g ob gT ht hgT hTK hBK hK hl
 have hlen:code.length+((cE code.length d a).length+3+(cE (code.length+(cE code.length d a).length+3) d b).length+2)≤1000000000:=by
  have:(bi d (.mk 9 op num slot size [a,b]) word code.length).length=_:=rfl
  simp only[bi,cE,cAO,kT,jf,lL,j4,show ¬(9:Int)=8 by decide,A9,B6,U9,j5,j6,j7] at hl
  simp only[C1,K7,Nat.reduceAdd] at hl ⊢
  omega
 have hp:=Prog.start (K2:=K+50) ht hTK hBK hK a6
 refine hdF K Tryz.func255 rfl [] ?_
 have hp1:=hp.new (V:=K+4) (x:=nxC 257 (g (K+4))) (y:=some [.d (.int .i64 0),.d (.int .i64 0),.d (.int .i64 0),.d (.int .u32 0)]) a6 a6
 have hp2:=hp1.new (V:=K+4) (x:=(upd g (K+4) (nxC 257 (g (K+4)))) (K+4)) (y:=some (wV ⟨7,0,0,0⟩)) a6 a6
 rw[yH] at hp2
 have h1:=ht.t
 have h2:=ht.b
 have hE:cxD (.mk 9 op num slot size [a,b])=[.int .i64 9,.int .i64 op,.int .u32 num,.int .i64 slot,.int .i64 size,.sl [cxD a,cxD b]]:=by simp only[cxD,wP]
 unfold ipE
 rw[hE]
 simp only[go_sem,h1,h2,hgT,cR]
 refine bw ha hp2 rfl hgT rfl (by simp only[bi,j4];omega) ?_
 intro g1 ob1 p1 q1 r1
 have e4:ob1 (K+4)=some [.d (.int .i64 7),.d (.int .i64 0),.d (.int .i64 0),.d (.int .u32 0)]:=by rw[r1 _ a6 a6];simp[upd,wV]
 have g4:g1 (K+4)=nxC 257 (g (K+4)):=by rw[q1 _ a6 a6];simp[upd]
 simp only[go_sem,e4,g4]
 refine gW p1 rfl hgT rfl (by simp only[bi,j5,j4,j6,j7];omega) ?_
 intro g3 ob3 gI1 gJ1 p3 o1 q3 r3
 have e4:ob3 (K+4)=some [.d (.int .i64 7),.d (.int .i64 0),.d (.int .i64 0),.d (.int .u32 0)]:=by rw[r3 _ a6 a6 a6];exact e4
 have g4:g3 (K+4)=nxC 257 (g (K+4)):=by rw[q3 _ a6 a6];exact g4
 simp only[go_sem,e4,g4]
 refine bY [⟨1,0,0,1⟩] p3 rfl hgT a6 a6 rfl rfl (by simp only[bi,j5,j4,j6,j7];omega) ?_
 intro g4' ob4 p4 q4 r4
 have e4:ob4 (K+4)=some [.d (.int .i64 7),.d (.int .i64 0),.d (.int .i64 0),.d (.int .u32 0)]:=by rw[r4 _ a6 a6 a6];exact e4
 have g4:g4' (K+4)=nxC 257 (g (K+4)):=by rw[q4 _ a6 a6];exact g4
 have o1:=o1.same (g':=g4') (ob':=ob4) (q4 _ a6 a6) (q4 _ a6 a6) (r4 _ a6 a6 a6) (r4 _ a6 a6 a6)
 simp only[go_sem,e4,g4]
 refine gW p4 rfl hgT rfl (by simp only[bi,j5,j4,j6,j7];omega) ?_
 intro g5 ob5 gI2 gJ2 p5 o2 q5 r5
 have e4:ob5 (K+4)=some [.d (.int .i64 7),.d (.int .i64 0),.d (.int .i64 0),.d (.int .u32 0)]:=by rw[r5 _ a6 a6 a6];exact e4
 have g4:g5 (K+4)=nxC 257 (g (K+4)):=by rw[q5 _ a6 a6];exact g4
 have o1:=o1.same (g':=g5) (ob':=ob5) (q5 _ a6 a6) (q5 _ a6 a6) (r5 _ a6 a6 a6) (r5 _ a6 a6 a6)
 simp only[go_sem,e4,g4]
 rw[s5,s5] at p5
 have hlA:(code++bi d a word code.length).length=code.length+(cE code.length d a).length:=by simp only[bi,j5,j4,j6,j7]
 have hlB:(code++bi d a word code.length++(⟨9,0,0,0⟩:Ins)::[⟨1,0,0,1⟩,⟨8,0,0,0⟩]).length=code.length+(cE code.length d a).length+3:=by rw[j5,hlA];rfl
 have hlC:(code++bi d a word code.length++(⟨9,0,0,0⟩:Ins)::[⟨1,0,0,1⟩]).length=code.length+(cE code.length d a).length+2:=by rw[j5,hlA];rfl
 refine fp (pre:=code++bi d a word code.length) (x:=⟨9,0,0,0⟩) (post:=[⟨1,0,0,1⟩,⟨8,0,0,0⟩]) p5 o1 rfl hgT rfl rfl (by rw[hlB];omega) ?_
 intro ob6 p6 r6
 have e4:ob6 (K+4)=some [.d (.int .i64 7),.d (.int .i64 0),.d (.int .i64 0),.d (.int .u32 0)]:=by rw[r6 _ a6];exact e4
 have o2:=o2.same (g':=g5) (ob':=ob6) rfl rfl (r6 _ a6) (r6 _ a6)
 rw[hlB] at p6
 generalize hX:code++bi d a word code.length=X at *
 have hlD:(X++(⟨9,((code.length+(cE code.length d a).length+3:Nat):Int),0,0⟩:Ins)::[⟨1,0,0,1⟩,⟨8,0,0,0⟩]).length=code.length+(cE code.length d a).length+3:=by rw[j5,hlA];rfl
 simp only[go_sem,e4,g4,cR]
 refine bw hb p6 rfl hgT rfl (by simp only[hlD,bi,j4];omega) ?_
 intro g7 ob7 p7 q7 r7
 rw[hlD] at p7
 have e4:ob7 (K+4)=some [.d (.int .i64 7),.d (.int .i64 0),.d (.int .i64 0),.d (.int .u32 0)]:=by rw[r7 _ a6 a6];exact e4
 have g4:g7 (K+4)=nxC 257 (g (K+4)):=by rw[q7 _ a6 a6];exact g4
 have o2:=o2.same (g':=g7) (ob':=ob7) (q7 _ a6 a6) (q7 _ a6 a6) (r7 _ a6 a6) (r7 _ a6 a6)
 simp only[go_sem,e4,g4]
 refine bY [⟨7,0,0,0⟩,⟨7,0,0,0⟩] p7 rfl hgT a6 a6 rfl rfl (by simp only[j5,hlA,bi,j4,j6,j7];omega) ?_
 intro g8 ob8 p8 q8 r8
 have o2:=o2.same (g':=g8) (ob':=ob8) (q8 _ a6 a6) (q8 _ a6 a6) (r8 _ a6 a6 a6) (r8 _ a6 a6 a6)
 have p8:Prog K (K+50+6+6) T B word ((X++[⟨9,((code.length+(cE code.length d a).length+3:Nat):Int),0,0⟩,⟨1,0,0,1⟩])++⟨8,0,0,0⟩::(bi d b word (code.length+(cE code.length d a).length+3)++[⟨7,0,0,0⟩,⟨7,0,0,0⟩])) g ob g8 ob8:=by
  have:=p8
  exact WT
 have hlE:(X++[(⟨9,((code.length+(cE code.length d a).length+3:Nat):Int),0,0⟩:Ins),(⟨1,0,0,1⟩:Ins)]).length=(X++[(⟨9,0,0,0⟩:Ins)]++[(⟨1,0,0,1⟩:Ins)]).length:=a7
 have hlF:((X++[(⟨9,((code.length+(cE code.length d a).length+3:Nat):Int),0,0⟩:Ins),⟨1,0,0,1⟩])++(⟨8,0,0,0⟩:Ins)::(bi d b word (code.length+(cE code.length d a).length+3)++[⟨7,0,0,0⟩,⟨7,0,0,0⟩])).length=code.length+(cE code.length d a).length+3+(cE (code.length+(cE code.length d a).length+3) d b).length+2:=by
  simp only[j5,j6,j7,hlA,bi,j4];omega
 rw[←hlE] at o2
 simp only[go_sem]
 refine fp p8 o2 rfl hgT rfl rfl (by rw[hlF];omega) ?_
 intro ob9 p9 r9
 rw[hlF] at p9
 simp only[go_sem]
 refine bt (fun i=>decide (K≤i)) ?_
 refine⟨rfl,?_⟩
 have e:code++bi d (.mk 9 op num slot size [a,b]) word code.length=(X++[(⟨9,((code.length+(cE code.length d a).length+3:Nat):Int),0,0⟩:Ins),⟨1,0,0,1⟩])++⟨8,((code.length+(cE code.length d a).length+3+(cE (code.length+(cE code.length d a).length+3) d b).length+2:Nat):Int),0,0⟩::(bi d b word (code.length+(cE code.length d a).length+3)++[⟨7,0,0,0⟩,⟨7,0,0,0⟩]):=by
  rw[←hX]
  simp only[bi,cE,cAO,kT,jf,lL,show ¬(9:Int)=8 by decide,A9,B6,U9,A1,l5,v8,s5,A2,z8,j6,j7,K7]
 rw[e]
 exact p9.fin hK
end
theorem tV:∀(l:List Ex) (k:Nat) (e:Ex) (at':Nat) (d:Int),l[k]? = some e→cEs at' d (l.take (k+1))=cEs at' d (l.take k)++cE (at'+(cEs at' d (l.take k)).length) (d+k) e
 |[],k,e,at',d,h=>by simp at h
 |x::l,0,e,at',d,h=>by
   simp at h;subst h
   simp[cEs]
 |x::l,k+1,e,at',d,h=>by
   have h':l[k]? = some e:=by simpa using h
   have ih:=tV l k e (at'+(cE at' d x).length) (d+1) h'
   rw[E9,E9,cEs,cEs,ih,s5,j5,C1]
   rw[show d+1+(k:Int)=d+((k+1:Nat):Int) by omega]
theorem qP (l:List Ex) (k:Nat) (at':Nat) (d:Int):(cEs at' d (l.take k)).length≤(cEs at' d l).length:=by
 have:∀(l:List Ex) (k at':Nat) (d:Int),(cEs at' d (l.take k)).length≤(cEs at' d l).length:=by
  intro l
  induction l with
  |nil=>intro k at' d;simp[cEs]
  |cons x l ih=>
    intro k at' d
    cases k with
    |zero=>simp[cEs]
    |succ k=>
      rw[E9,cEs,cEs,j5,j5]
      have:=ih k (at'+(cE at' d x).length) (d+1)
      omega
 exact this l k at' d
theorem pS {w:Int}{ps:Sig}{f:Nat}{lv:Int}:∀{l:List Ex}{k:Nat}{e:Ex},rEs w ps f lv l→l[k]? = some e→rE w ps f lv e
 |[],k,e,_,h=>by simp at h
 |x::l,0,e,hr,h=>by simp at h;subst h;rw[rEs] at hr;exact hr.1
 |x::l,k+1,e,hr,h=>by rw[rEs] at hr;exact pS hr.2 (by simpa using h)
theorem kQ {l:List Ex}{k:Nat}{e:Ex} (h:l[k]? = some e):kO e<gu l:=by
 have h2:=yq h
 have h3:=Dq l (k+1)
 have hk:=(l4.1 h).1
 have h4:l.length≤oS l k:=by unfold oS;omega
 omega
theorem NT {w:Int}{ps:Sig}{fi:Nat}:∀(N:Nat) (e:Ex) (lv d:Int),kO e≤N→N≤1000000000000→rE w ps fi lv e→ee 224 [ipE e] (bi d e):=by
 intro N
 induction N using Nat.strongRecOn with
 |ind N ih=>
 intro e lv d hN hN' hr
 obtain⟨kind,op,num,slot,size,kids⟩:=e
 have hsz:kO (.mk kind op num slot size kids)=gu kids:=rfl
 rw[rE] at hr
 obtain⟨hok,hrk⟩:=hr
 have hE:cxD (.mk kind op num slot size kids)=[.int .i64 kind,.int .i64 op,.int .u32 num,.int .i64 slot,.int .i64 size,.sl (kids.map cxD)]:=by simp only[cxD,mR]
 intro K T B word code g ob gT ht hgT hTK hBK hK hl
 have hp:=Prog.start (K2:=K+107) ht hTK hBK hK a6
 refine hdF K Tryz.func224 rfl [] ?_
 unfold ipE
 rw[hE]
 by_cases h89:kind=8∨kind=9
 ·have hk2:kids.length=2:=by
   rcases h89 with rfl|rfl
   ·exact XC
   ·exact XC
  obtain⟨a,b,rfl⟩:∃a b,kids=[a,b]:=by
   match kids,hk2 with
   |[a,b],_=>exact⟨a,b,rfl⟩
  have ha:ee 224 [ipE a] (bi d a):=ih (kO a) (by have:=kQ (l:=[a,b]) (k:=0) rfl;omega) a (lv+1) d (j8 _) (by have:=kQ (l:=[a,b]) (k:=0) rfl;omega) (pS (k:=0) hrk rfl)
  have hb:ee 224 [ipE b] (bi d b):=ih (kO b) (by have:=kQ (l:=[a,b]) (k:=1) rfl;omega) b (lv+1) d (j8 _) (by have:=kQ (l:=[a,b]) (k:=1) rfl;omega) (pS (k:=1) hrk rfl)
  rcases h89 with rfl|rfl
  ·simp only[go_sem]
   refine bw (Dx (op:=op) (num:=num) (slot:=slot) (size:=size) ha hb) hp rfl hgT (by unfold ipE;rw[hE];rfl) hl ?_
   exact WR
  ·simp only[go_sem]
   refine bw (Dy (op:=op) (num:=num) (slot:=slot) (size:=size) ha hb) hp rfl hgT (by unfold ipE;rw[hE];rfl) hl ?_
   exact WR
 ·have h8:¬kind=8:=fun h=>h89 (.inl h)
  have h9:¬kind=9:=fun h=>h89 (.inr h)
  have hcE:cE code.length d (.mk kind op num slot size kids)=cEs code.length d kids++one kind op num slot size (d+kids.length):=by rw[cE,if_neg h89]
  have hl1:code.length+(cEs code.length d kids).length+(one kind op num slot size (d+kids.length)).length≤1000000000:=by
   have:(bi d (.mk kind op num slot size kids) word code.length).length=_:=rfl
   simp only[bi,hcE,j4,j5] at hl
   omega
  simp only[go_sem,h8,h9,j4]
  refine ey (fun n s=>∃k:Nat,n+k=kids.length∧s.f 0=.one (.ptr T gT 0)∧s.f 1=.one (.d (.iptr [.int .i64 kind,.int .i64 op,.int .u32 num,.int .i64 slot,.int .i64 size,.sl (kids.map cxD)]))∧s.f 24=iv .i64 kids.length∧s.f 25=iv .i64 k∧
   Prog K (K+107) T B word (code++(cEs code.length d (kids.take k)).map Prod.fst) g ob s.gen s.obj) kids.length ?_ ?_
  ·refine⟨0,rfl,?_⟩
   rw[K8,cEs,v8,l8]
   simp only[go_sem]
   exact hp
  ·rintro n f g1 ob1 ⟨k,hk,f0,f1,f24,f25,p1⟩
   simp only at f0 f1 f24 f25 p1
   have hkl:kids.length≤gu kids:=by rw[lE];omega
   have hw:=ab (k:=k) a6
   by_cases hlt:k<kids.length
   ·obtain⟨e,he⟩:=getq hlt
    have hse:=kQ he
    have hsn:=tV kids k e code.length d he
    have hle:=qP kids (k+1) code.length d
    have hl2:(cEs code.length d (kids.take k)).length+(cE (code.length+(cEs code.length d (kids.take k)).length) (d+k) e).length≤(cEs code.length d kids).length:=by
     rw[hsn,j5] at hle;exact hle
    have hlc:(code++(cEs code.length d (kids.take k)).map Prod.fst).length=code.length+(cEs code.length d (kids.take k)).length:=by rw[j5,j4]
    simp only[go_sem,f0,f1,f24,f25,hlt,he,j4,cR]
    refine bw (ih (kO e) a6 e (lv+1) (d+k) (j8 _) a6 (pS hrk he)) p1 rfl hgT rfl (by rw[hlc];simp only[bi,j4];omega) ?_
    intro g2 ob2 p2 q2 r2
    rw[hlc] at p2
    simp only[go_sem,f0,f1,f24,f25,hw]
    refine de (n-1) a6 ⟨k+1,a6,?_⟩
    simp only[go_sem,f0,f1,f24,f25,hw]
    rw[hsn,A1,←s5]
    exact p2
   ·have hkk:k=kids.length:=a6
    subst hkk
    rw[G1] at p1
    have hlc:(code++(cEs code.length d kids).map Prod.fst).length=code.length+(cEs code.length d kids).length:=by rw[j5,j4]
    have hfin:∀(x:Ins),one kind op num slot size (d+kids.length)=[(x,d+kids.length)]→∀g' ob',Prog K (K+107) T B word (code++(cEs code.length d kids).map Prod.fst++[x]) g ob g' ob'→yF K T B word (code++bi d (.mk kind op num slot size kids) word code.length) g ob g' (fun i=>if decide (K≤i)=true then none else ob' i):=by
     intro x hx g' ob' hp'
     have:code++bi d (.mk kind op num slot size kids) word code.length=code++(cEs code.length d kids).map Prod.fst++[x]:=by
      simp only[bi,hcE,hx,A1,l5,v8,s5]
     rw[this]
     exact hp'.fin hK
    obtain⟨_,_,_,_,_,h⟩:=hok
    have hk17:kind=1∨kind=2∨kind=3∨kind=4∨kind=5∨kind=6∨kind=7:=by
     rcases h with⟨h|h,_⟩|⟨h,_⟩|⟨h,_⟩|⟨h,_⟩|⟨h,_⟩|⟨h,_⟩|⟨h|h,_⟩ <;> omega
    have hone:(one kind op num slot size (d+kids.length)).length=1:=by
     rcases hk17 with rfl|rfl|rfl|rfl|rfl|rfl|rfl <;> rfl
    rcases hk17 with rfl|rfl|rfl|rfl|rfl|rfl|rfl
    ·simp only[go_sem,f0,f1,f24,f25,hlt,j4]
     refine bY [⟨1,0,0,num⟩] p1 rfl hgT a6 a6 rfl rfl (by rw[hlc];simp only[j6,j7];omega) ?_
     exact VM
    ·simp only[go_sem,f0,f1,f24,f25,hlt,j4]
     refine bY [⟨2,slot,0,0⟩] p1 rfl hgT a6 a6 rfl rfl (by rw[hlc];simp only[j6,j7];omega) ?_
     exact VM
    ·simp only[go_sem,f0,f1,f24,f25,hlt,j4]
     refine fg aP mixed [K+73] [([0],[0],[],false),([1],[],[],false),([64],[],[],false),([65],[],[],false),([66],[],[],false),([1],[],[],false),([68],[],[],false),([69],[],[],false),([70],[],[],false),([67,71],[],[],false),([72],[],[0],false),([63,73],[],[],true)] 1 b9 rfl a7 ?_
     simp only[go_sem]
     iterate 10 (apply aE;· (intro fa ga oa K' hK;simp only[go_sem,f0,f1] at hK ⊢;exact hK))
     (apply cq;· (intro fa ga oa K' hK;simp only[go_sem,f0,f1] at hK ⊢;exact hK))
     apply cw
     intro K' hK'
     simp only[go_sem]
     refine bY [⟨4,slot,size,0⟩] p1 rfl hgT a6 a6 rfl rfl (by rw[hlc];simp only[j6,j7];omega) ?_
     intro g2 ob2 p2 q2 r2
     refine hK' _ ?_
     simp only[go_sem]
     refine bt (fun i=>decide (K≤i)) ?_
     exact⟨rfl,hfin _ rfl _ _ p2⟩
    ·simp only[go_sem,f0,f1,f24,f25,hlt,j4]
     refine bY [⟨10,slot,0,0⟩] p1 rfl hgT a6 a6 rfl rfl (by rw[hlc];simp only[j6,j7];omega) ?_
     exact VM
    ·simp only[go_sem,f0,f1,f24,f25,hlt,j4]
     refine bY [⟨12,0,0,0⟩] p1 rfl hgT a6 a6 rfl rfl (by rw[hlc];simp only[j6,j7];omega) ?_
     exact VM
    ·simp only[go_sem,f0,f1,f24,f25,hlt,j4]
     refine bY [⟨6,op,0,0⟩] p1 rfl hgT a6 a6 rfl rfl (by rw[hlc];simp only[j6,j7];omega) ?_
     exact VM
    ·simp only[go_sem,f0,f1,f24,f25,hlt,j4]
     refine bY [⟨7,0,0,0⟩] p1 rfl hgT a6 a6 rfl rfl (by rw[hlc];simp only[j6,j7];omega) ?_
     exact VM
section
abbrev ipS (s:Stm):AV:=.one (.d (.iptr (csD s)))
abbrev slS (l:List Stm):AV:=.one (.d (.sl (oO l)))
abbrev mV (s:Stm):Bool→Nat→List Ins:=fun word at'=>(cS word at' s).map Prod.fst
abbrev bu (l:List Stm):Bool→Nat→List Ins:=fun word at'=>(cSs word at' l).map Prod.fst
theorem yr {word:Bool}:∀(l:List Stm) (k:Nat) (e:Stm) (at':Nat),l[k]? = some e→cSs word at' (l.take (k+1))=cSs word at' (l.take k)++cS word (at'+(cSs word at' (l.take k)).length) e
 |[],k,e,at',h=>by simp at h
 |x::l,0,e,at',h=>by
   simp at h;subst h
   simp[cSs]
 |x::l,k+1,e,at',h=>by
   have h':l[k]? = some e:=by simpa using h
   have ih:=yr (word:=word) l k e (at'+(cS word at' x).length) h'
   rw[E9,E9,cSs,cSs,ih,s5,j5,C1]
theorem mW {word:Bool}:∀(l:List Stm) (k at':Nat),(cSs word at' (l.take k)).length≤(cSs word at' l).length:=by
 intro l
 induction l with
 |nil=>intro k at';simp[cSs]
 |cons x l ih=>
   intro k at'
   cases k with
   |zero=>simp[cSs]
   |succ k=>
     rw[E9,cSs,cSs,j5,j5]
     have:=ih k (at'+(cS word at' x).length)
     omega
theorem ss {w:Int}{ps:Sig}{f:Nat}{word:Bool}{lv:Int}:∀{l:List Stm}{k:Nat}{e:Stm},rSs w ps f word lv l→l[k]? = some e→rS w ps f word lv e
 |[],k,e,_,h=>by simp at h
 |x::l,0,e,hr,h=>by simp at h;subst h;rw[rSs] at hr;exact hr.1
 |x::l,k+1,e,hr,h=>by rw[rSs] at hr;exact ss hr.2 (by simpa using h)
variable {l:List Stm}
theorem mX{k:Nat}{e:Stm} (h:l[k]? = some e):lV e<ed l:=by
 have h2:=Dr h
 have h3:=JJ l (k+1)
 have hk:=(l4.1 h).1
 have h4:l.length≤Aw l k:=by unfold Aw;omega
 omega
theorem kj (e:Stm):(csD e).length=6:=by cases e;simp[csD]
theorem tS (hN:ed l≤1000000000000) (hS:∀(k:Nat) (e:Stm),l[k]? = some e→ee 180 [ipS e] (mV e)):ee 102 [slS l] (bu l):=by
 intro K T B word code g ob gT ht hgT hTK hBK hK hl
 have hp:=Prog.start (K2:=K+16) ht hTK hBK hK a6
 have hl':code.length+(cSs word code.length l).length≤1000000000:=by simpa only[bu,j4] using hl
 refine hdF K Tryz.func102 rfl [] ?_
 unfold slS
 rw[mT]
 simp only[go_sem,j4]
 refine ey (fun n s=>∃k:Nat,n+k=l.length∧s.f 0=.one (.ptr T gT 0)∧s.f 1=.one (.d (.sl (l.map csD)))∧s.f 6=iv .i64 l.length∧s.f 7=iv .i64 k∧
  Prog K (K+16) T B word (code++(cSs word code.length (l.take k)).map Prod.fst) g ob s.gen s.obj) l.length ?_ ?_
 ·refine⟨0,rfl,?_⟩
  rw[K8,cSs,v8,l8]
  simp only[go_sem]
  exact hp
 ·rintro n f g1 ob1 ⟨k,hk,f0,f1,f6,f7,p1⟩
  simp only at f0 f1 f6 f7 p1
  have hkl:l.length≤ed l:=by rw[oT];omega
  have hw:=ab (k:=k) a6
  by_cases hlt:k<l.length
  ·obtain⟨e,he⟩:=getq hlt
   have hsn:=yr (word:=word) l k e code.length he
   have hle:=mW (word:=word) l (k+1) code.length
   have hl2:(cSs word code.length (l.take k)).length+(cS word (code.length+(cSs word code.length (l.take k)).length) e).length≤(cSs word code.length l).length:=by
    rw[hsn,j5] at hle;exact hle
   have hlc:(code++(cSs word code.length (l.take k)).map Prod.fst).length=code.length+(cSs word code.length (l.take k)).length:=by rw[j5,j4]
   simp only[go_sem,f0,f1,f6,f7,hlt,he,j4,kj]
   refine bw (hS k e he) p1 rfl hgT rfl (by rw[hlc];simp only[mV,j4];omega) ?_
   intro g2 ob2 p2 q2 r2
   rw[hlc] at p2
   simp only[go_sem,f0,f1,f6,f7,hw]
   refine de (n-1) a6 ⟨k+1,a6,?_⟩
   simp only[go_sem,f0,f1,f6,f7,hw]
   rw[hsn,A1,←s5]
   exact p2
  ·have hkk:k=l.length:=a6
   subst hkk
   rw[G1] at p1
   simp only[go_sem,f0,f1,f6,f7,hlt,j4]
   refine bt (fun i=>decide (K≤i)) ?_
   exact⟨rfl,p1.fin hK⟩
theorem JK {slot size:Int}{c:Ex}{th el:List Stm} (hc:ee 224 [ipE c] (bi 0 c)) (hth:ee 102 [slS th] (bu th)) :
  ee 223 [ipS (.mk 5 slot size [c] th el)] (mV (.mk 5 slot size [c] th el)):=by
 intro K T B word code g ob gT ht hgT hTK hBK hK hl
 have hp:=Prog.start (K2:=K+33) ht hTK hBK hK a6
 have hcS:(mV (.mk 5 slot size [c] th el) word code.length)=(jU code.length (cE code.length 0 c) (fun r=>cSs word r th)).map Prod.fst:=by simp only[mV,cS,B6,lL]
 have hlen:code.length+((cE code.length 0 c).length+1+(cSs word (code.length+(cE code.length 0 c).length+1) th).length+1)≤1000000000:=by
  simp only[hcS,jU,j4,j5,j6,j7] at hl
  omega
 refine hdF K Tryz.func223 rfl [] ?_
 have h1:=ht.t
 have h2:=ht.b
 have hE:csD (.mk 5 slot size [c] th el)=[.int .i64 5,.int .i64 slot,.int .i64 size,.sl [cxD c],.sl (oO th),.sl (oO el)]:=by simp only[csD,wP]
 unfold ipS
 rw[hE]
 simp only[go_sem,h1,h2,hgT,cR]
 refine bw hc hp rfl hgT rfl (by simp only[bi,j4];omega) ?_
 intro g1 ob1 p1 q1 r1
 have hlA:(code++bi 0 c word code.length).length=code.length+(cE code.length 0 c).length:=by simp only[bi,j5,j4]
 generalize hA:code++bi 0 c word code.length=A at *
 simp only[go_sem]
 refine gW p1 rfl hgT rfl a6 ?_
 intro g2 ob2 gI gJ p2 o1 q2 r2
 have hlB:(A++[(⟨9,0,0,0⟩:Ins)]).length=code.length+(cE code.length 0 c).length+1:=by rw[j5,hlA];rfl
 simp only[go_sem]
 refine bw hth p2 rfl hgT rfl (by rw[hlB];simp only[bu,j4];omega) ?_
 intro g3 ob3 p3 q3 r3
 rw[hlB] at p3
 have o1:=o1.same (g':=g3) (ob':=ob3) (q3 _ a6 a6) (q3 _ a6 a6) (r3 _ a6 a6) (r3 _ a6 a6)
 simp only[go_sem]
 refine bY [⟨8,code.length,0,0⟩] p3 rfl hgT a6 a6 rfl rfl (by rw[j5,hlB];simp only[bu,j4,j6,j7];omega) ?_
 intro g4 ob4 p4 q4 r4
 have o1:=o1.same (g':=g4) (ob':=ob4) (q4 _ a6 a6) (q4 _ a6 a6) (r4 _ a6 a6 a6) (r4 _ a6 a6 a6)
 have p4:Prog K (K+33+6) T B word (A++(⟨9,0,0,0⟩:Ins)::(bu th word (code.length+(cE code.length 0 c).length+1)++[(⟨8,code.length,0,0⟩:Ins)])) g ob g4 ob4:=by
  have:=p4
  exact WT
 have hlF:(A++(⟨9,0,0,0⟩:Ins)::(bu th word (code.length+(cE code.length 0 c).length+1)++[(⟨8,code.length,0,0⟩:Ins)])).length=code.length+(cE code.length 0 c).length+1+(cSs word (code.length+(cE code.length 0 c).length+1) th).length+1:=by
  simp only[j5,j6,j7,hlA,bu,j4];omega
 simp only[go_sem]
 refine fp p4 o1 rfl hgT rfl rfl (by rw[hlF];omega) ?_
 intro ob5 p5 r5
 rw[hlF] at p5
 simp only[go_sem]
 refine bt (fun i=>decide (K≤i)) ?_
 refine⟨rfl,?_⟩
 have e:code++mV (.mk 5 slot size [c] th el) word code.length=A++(⟨9,((code.length+(cE code.length 0 c).length+1+(cSs word (code.length+(cE code.length 0 c).length+1) th).length+1:Nat):Int),0,0⟩:Ins)::(bu th word (code.length+(cE code.length 0 c).length+1)++[(⟨8,code.length,0,0⟩:Ins)]):=by
  rw[hcS,←hA]
  simp only[bi,bu,jU,A1,l5,v8,s5,A2,z8]
 rw[e]
 exact p5.fin hK
end
theorem NB {w:Int}{ps:Sig}{fi:Nat}{fw:Bool}:∀(N:Nat) (s:Stm) (lv:Int),lV s≤N→N≤100000000000→rS w ps fi fw lv s→ee 180 [ipS s] (mV s):=by
 intro N
 induction N using Nat.strongRecOn with
 |ind N ih=>
 intro s lv hN hN' hr
 obtain⟨kind,slot,size,e,th,el⟩:=s
 have hsz:lV (.mk kind slot size e th el)=gu e+ed th+ed el:=rfl
 rw[rS] at hr
 obtain⟨hok,hre,hrt,hrl⟩:=hr
 have hth:ee 102 [slS th] (bu th):=tS a6 fun k s hs=>ih (lV s) (by have:=mX hs;omega) s (lv+1) (j8 _) (by have:=mX hs;omega) (ss hrt hs)
 have hel:ee 102 [slS el] (bu el):=tS a6 fun k s hs=>ih (lV s) (by have:=mX hs;omega) s (lv+1) (j8 _) (by have:=mX hs;omega) (ss hrl hs)
 have hex:∀(k:Nat) (x:Ex) (d:Int),e[k]? = some x→ee 224 [ipE x] (bi d x):=fun k x d hx=>NT (kO x) x (lv+1) d (j8 _) (by have:=kQ hx;omega) (pS hre hx)
 have hE:csD (.mk kind slot size e th el)=[.int .i64 kind,.int .i64 slot,.int .i64 size,.sl (e.map cxD),.sl (oO th),.sl (oO el)]:=by simp only[csD,mR]
 intro K T B word code g ob gT ht hgT hTK hBK hK hl
 have hp:=Prog.start (K2:=K+120) ht hTK hBK hK a6
 refine hdF K Tryz.func180 rfl [] ?_
 unfold ipS
 rw[hE]
 by_cases h5:kind=5
 ·subst h5
  have hn:e.length=1:=by
   obtain⟨_,_,_,_,_,h⟩:=hok
   rcases h with⟨h,_⟩|⟨h,_⟩|⟨_,h⟩|⟨h,_⟩|⟨h,_⟩ <;> omega
  obtain⟨c,rfl⟩:∃c,e=[c]:=by
   match e,hn with
   |[c],_=>exact⟨c,rfl⟩
  simp only[go_sem]
  refine bw (JK (slot:=slot) (size:=size) (el:=el) (hex 0 c 0 rfl) hth) hp rfl hgT (by unfold ipS;rw[hE];rfl) hl ?_
  exact WR
 ·generalize hrest:(if kind=4 then ifC (code.length+(cEs code.length 0 e).length) (fun r=>cSs word r th) (!el.isEmpty) (fun r=>cSs word r el) else qQ word kind slot size e.length)=rest
  have hcS:mV (.mk kind slot size e th el) word code.length=(cEs code.length 0 e).map Prod.fst++rest.map Prod.fst:=by
   simp only[mV,cS,if_neg h5,A1,hrest]
  have hlen:code.length+(cEs code.length 0 e).length+rest.length≤1000000000:=by
   simp only[hcS,j4,j5] at hl
   omega
  simp only[go_sem,h5,j4]
  refine ey (fun n s=>∃k:Nat,n+k=e.length∧s.f 0=.one (.ptr T gT 0)∧s.f 1=.one (.d (.iptr [.int .i64 kind,.int .i64 slot,.int .i64 size,.sl (e.map cxD),.sl (oO th),.sl (oO el)]))∧s.f 19=iv .i64 e.length∧s.f 20=iv .i64 k∧
   Prog K (K+120) T B word (code++(cEs code.length 0 (e.take k)).map Prod.fst) g ob s.gen s.obj) e.length ?_ ?_
  ·refine⟨0,rfl,?_⟩
   rw[K8,cEs,v8,l8]
   simp only[go_sem]
   exact hp
  ·rintro n f g1 ob1 ⟨k,hk,f0,f1,f19,f20,p1⟩
   simp only at f0 f1 f19 f20 p1
   have hkl:e.length≤gu e:=by rw[lE];omega
   have hw:=ab (k:=k) a6
   by_cases hlt:k<e.length
   ·obtain⟨x,hx⟩:=getq hlt
    have hsn:=tV e k x code.length 0 hx
    have hle:=qP e (k+1) code.length 0
    have hl2:(cEs code.length 0 (e.take k)).length+(cE (code.length+(cEs code.length 0 (e.take k)).length) (0+k) x).length≤(cEs code.length 0 e).length:=by
     rw[hsn,j5] at hle;exact hle
    have hlc:(code++(cEs code.length 0 (e.take k)).map Prod.fst).length=code.length+(cEs code.length 0 (e.take k)).length:=by rw[j5,j4]
    simp only[go_sem,f0,f1,f19,f20,hlt,hx,j4,cR]
    refine bw (hex k x (0+k) hx) p1 rfl hgT rfl (by rw[hlc];simp only[bi,j4];omega) ?_
    intro g2 ob2 p2 q2 r2
    rw[hlc] at p2
    simp only[go_sem,f0,f1,f19,f20,hw]
    refine de (n-1) a6 ⟨k+1,a6,?_⟩
    simp only[go_sem,f0,f1,f19,f20,hw]
    rw[hsn,A1,←s5]
    exact p2
   ·have hkk:k=e.length:=a6
    subst hkk
    rw[G1] at p1
    have hlA:(code++(cEs code.length 0 e).map Prod.fst).length=code.length+(cEs code.length 0 e).length:=by rw[j5,j4]
    have hfin:∀g' ob' K2,Prog K K2 T B word (code++(cEs code.length 0 e).map Prod.fst++rest.map Prod.fst) g ob g' ob'→yF K T B word (code++mV (.mk kind slot size e th el) word code.length) g ob g' (fun i=>if decide (K≤i)=true then none else ob' i):=by
     intro g' ob' K2 hp'
     have:code++mV (.mk kind slot size e th el) word code.length=code++(cEs code.length 0 e).map Prod.fst++rest.map Prod.fst:=by rw[hcS,s5]
     rw[this]
     exact hp'.fin hK
    generalize code++(cEs code.length 0 e).map Prod.fst=A at *
    have hk:kind=1∨kind=2∨kind=3∨kind=6∨kind=7∨kind=4:=by
     obtain⟨_,_,_,_,_,h⟩:=hok
     rcases h with⟨h,_⟩|⟨h,_⟩|⟨h|h|h,_⟩|⟨h,_⟩|⟨h,_⟩ <;> omega
    rcases hk with rfl|rfl|rfl|rfl|rfl|rfl
    ·obtain rfl:[(⟨3,slot,0,0⟩,(e.length:Int))]=rest:=hrest
     have hlen:A.length+1≤1000000000:=by rw[hlA];exact hlen
     simp only[go_sem,f0,f1,f19,f20,hlt,j4]
     refine bY [⟨3,slot,0,0⟩] p1 rfl hgT a6 a6 rfl rfl hlen ?_
     exact VZ
    ·obtain rfl:[(⟨5,slot,size,0⟩,(e.length:Int))]=rest:=hrest
     have hlen:A.length+1≤1000000000:=by rw[hlA];exact hlen
     simp only[go_sem,f0,f1,f19,f20,hlt,j4]
     refine fg aP mixed [K+58] [([0],[0],[],false),([1],[],[],false),([49],[],[],false),([50],[],[],false),([51],[],[],false),([1],[],[],false),([53],[],[],false),([54],[],[],false),([55],[],[],false),([52,56],[],[],false),([57],[],[0],false),([48,58],[],[],true)] 1 b9 rfl a7 ?_
     simp only[go_sem]
     iterate 10 (apply aE;· (intro fa ga oa K' hK;simp only[go_sem,f0,f1] at hK ⊢;exact hK))
     (apply cq;· (intro fa ga oa K' hK;simp only[go_sem,f0,f1] at hK ⊢;exact hK))
     apply cw
     intro K' hK'
     simp only[go_sem]
     refine bY [⟨5,slot,size,0⟩] p1 rfl hgT a6 a6 rfl rfl hlen ?_
     intro g2 ob2 p2 q2 r2
     refine hK' _ ?_
     simp only[go_sem]
     refine bt (fun i=>decide (K≤i)) ?_
     exact⟨rfl,hfin _ _ _ p2⟩
    ·obtain rfl:[(⟨13,0,0,0⟩,(e.length:Int))]=rest:=hrest
     have hlen:A.length+1≤1000000000:=by rw[hlA];exact hlen
     simp only[go_sem,f0,f1,f19,f20,hlt,j4]
     refine bY [⟨13,0,0,0⟩] p1 rfl hgT a6 a6 rfl rfl hlen ?_
     exact VZ
    ·obtain rfl:[(⟨10,slot,0,0⟩,(e.length:Int))]=rest:=hrest
     have hlen:A.length+1≤1000000000:=by rw[hlA];exact hlen
     simp only[go_sem,f0,f1,f19,f20,hlt,j4]
     refine bY [⟨10,slot,0,0⟩] p1 rfl hgT a6 a6 rfl rfl hlen ?_
     exact VZ
    ·by_cases hz:0<e.length
     ·obtain rfl:[(⟨11,0,0,0⟩,(e.length:Int))]=rest:=by
       rw[←hrest]
       unfold qQ
       simp only[show ¬((7:Int)=4) by decide,show ¬((7:Int)=1) by decide,show ¬((7:Int)=2) by decide,show ¬((7:Int)=3) by decide,show ¬((7:Int)=6) by decide,A9,B6]
       rw[if_neg a6]
      have hlen:A.length+1≤1000000000:=by rw[hlA];exact hlen
      simp only[go_sem,f0,f1,f19,f20,hlt,j4,Int.natCast_pos,hz]
      refine bY [⟨11,0,0,0⟩] p1 rfl hgT a6 a6 rfl rfl hlen ?_
      exact VZ
     ·obtain rfl:leave word=rest:=by
       rw[←hrest]
       unfold qQ
       simp only[show ¬((7:Int)=4) by decide,show ¬((7:Int)=1) by decide,show ¬((7:Int)=2) by decide,show ¬((7:Int)=3) by decide,show ¬((7:Int)=6) by decide,A9,B6]
       rw[if_pos a6]
      have hlen:A.length+(leave word).length≤1000000000:=by rw[hlA];exact hlen
      simp only[go_sem,f0,f1,f19,f20,hlt,j4,Int.natCast_pos,hz]
      refine bw Ce p1 rfl hgT rfl (by simpa using hlen) ?_
      exact VZ
    ·simp only[B6] at hrest
     cases hemp:el with
     |nil=>
       subst hemp
       obtain rfl:(⟨9,(A.length+1+(cSs word (A.length+1) th).length:Nat),0,0⟩,1)::cSs word (A.length+1) th=rest:=by
        rw[←hrest,←hlA];rfl
       have hlen:A.length+(1+(cSs word (A.length+1) th).length)≤1000000000:=by
        rw[j6,←hlA] at hlen;omega
       have hlB:(A++[(⟨9,0,0,0⟩:Ins)]).length=A.length+1:=by rw[j5];rfl
       simp only[go_sem,f0,f1,f19,f20,hlt,j4]
       refine gW p1 rfl hgT rfl a6 ?_
       intro g2 ob2 gI gJ p2 o1 q2 r2
       simp only[go_sem,f0,f1]
       refine bw hth p2 rfl hgT rfl (by rw[hlB];simp only[bu,j4];omega) ?_
       intro g3 ob3 p3 q3 r3
       rw[hlB] at p3
       have p3:Prog K (K+120+6) T B word (A++(⟨9,0,0,0⟩:Ins)::bu th word (A.length+1)) g ob g3 ob3:=by
        have:=p3
        exact WT
       have o1:=o1.same (g':=g3) (ob':=ob3) (q3 _ a6 a6) (q3 _ a6 a6) (r3 _ a6 a6) (r3 _ a6 a6)
       simp only[go_sem,f1,oO,j7]
       refine fp p3 o1 rfl hgT rfl rfl (by simp only[j5,j6,bu,j4,j7];omega) ?_
       intro ob4 p4 r4
       simp only[go_sem]
       refine gL (fun i=>decide (K≤i)) ?_
       refine⟨rfl,hfin _ _ (K+120+6) ?_⟩
       have e1:(A++(⟨9,0,0,0⟩:Ins)::bu th word (A.length+1)).length=A.length+1+(cSs word (A.length+1) th).length:=by
        simp only[j5,j6,bu,j4,j7];omega
       rw[e1] at p4
       exact p4
     |cons y ys=>
       rw[←hemp]
       have hne:el.isEmpty=false:=by rw[hemp];rfl
       have hll:0<el.length:=by rw[hemp];simp
       have hll0:¬(el.length:Int)=0:=a6
       obtain rfl:(⟨9,(A.length+1+(cSs word (A.length+1) th).length+1:Nat),0,0⟩,1)::(cSs word (A.length+1) th++(⟨8,(A.length+1+(cSs word (A.length+1) th).length+1+(cSs word (A.length+1+(cSs word (A.length+1) th).length+1) el).length:Nat),0,0⟩,0)::cSs word (A.length+1+(cSs word (A.length+1) th).length+1) el)=rest:=by
        rw[←hrest,←hlA,hne];rfl
       have hlen:A.length+(1+(cSs word (A.length+1) th).length+1+(cSs word (A.length+1+(cSs word (A.length+1) th).length+1) el).length)≤1000000000:=by
        simp only[j6,j5,←hlA] at hlen;omega
       have hlB:(A++[(⟨9,0,0,0⟩:Ins)]).length=A.length+1:=by rw[j5];rfl
       simp only[go_sem,f0,f1,f19,f20,hlt,j4]
       refine gW p1 rfl hgT rfl a6 ?_
       intro g2 ob2 gI gJ p2 o1 q2 r2
       simp only[go_sem,f0,f1]
       refine bw hth p2 rfl hgT rfl (by rw[hlB];simp only[bu,j4];omega) ?_
       intro g3 ob3 p3 q3 r3
       rw[hlB] at p3
       have o1:=o1.same (g':=g3) (ob':=ob3) (q3 _ a6 a6) (q3 _ a6 a6) (r3 _ a6 a6) (r3 _ a6 a6)
       have hlC:(A++[(⟨9,0,0,0⟩:Ins)]++bu th word (A.length+1)).length=A.length+1+(cSs word (A.length+1) th).length:=by rw[j5,hlB];simp only[bu,j4]
       simp only[go_sem,f0,f1,Gq,hll0]
       refine gW p3 rfl hgT rfl a6 ?_
       intro g4 ob4 gI2 gJ2 p4 o2 q4 r4
       have o1:=o1.same (g':=g4) (ob':=ob4) (q4 _ a6 a6) (q4 _ a6 a6) (r4 _ a6 a6 a6) (r4 _ a6 a6 a6)
       have p4:Prog K (K+120+6+6) T B word (A++(⟨9,0,0,0⟩:Ins)::(bu th word (A.length+1)++[(⟨8,0,0,0⟩:Ins)])) g ob g4 ob4:=by
        have:=p4
        exact WT
       have hlD:(A++(⟨9,0,0,0⟩:Ins)::(bu th word (A.length+1)++[(⟨8,0,0,0⟩:Ins)])).length=A.length+1+(cSs word (A.length+1) th).length+1:=by
        simp only[j5,j6,j7,bu,j4];omega
       simp only[go_sem]
       refine fp p4 o1 rfl hgT rfl rfl (by rw[hlD];omega) ?_
       intro ob5 p5 r5
       rw[hlD] at p5
       have o2:=o2.same (g':=g4) (ob':=ob5) rfl rfl (r5 _ a6) (r5 _ a6)
       have hlE:(A++(⟨9,((A.length+1+(cSs word (A.length+1) th).length+1:Nat):Int),0,0⟩:Ins)::(bu th word (A.length+1)++[(⟨8,0,0,0⟩:Ins)])).length=A.length+1+(cSs word (A.length+1) th).length+1:=by
        simp only[j5,j6,j7,bu,j4];omega
       simp only[go_sem,f0,f1]
       refine bw hel p5 rfl hgT rfl (by rw[hlE];simp only[bu,j4];omega) ?_
       intro g6 ob6 p6 q6 r6
       rw[hlE] at p6
       have o2:=o2.same (g':=g6) (ob':=ob6) (q6 _ a6 a6) (q6 _ a6 a6) (r6 _ a6 a6) (r6 _ a6 a6)
       have p6:Prog K (K+120+6+6) T B word ((A++(⟨9,((A.length+1+(cSs word (A.length+1) th).length+1:Nat):Int),0,0⟩:Ins)::bu th word (A.length+1))++(⟨8,0,0,0⟩:Ins)::bu el word (A.length+1+(cSs word (A.length+1) th).length+1)) g ob g6 ob6:=by
        have:=p6
        exact WT
       have hlG:(A++(⟨9,((A.length+1+(cSs word (A.length+1) th).length+1:Nat):Int),0,0⟩:Ins)::bu th word (A.length+1)).length=(A++[(⟨9,0,0,0⟩:Ins)]++bu th word (A.length+1)).length:=a7
       have hlH:((A++(⟨9,((A.length+1+(cSs word (A.length+1) th).length+1:Nat):Int),0,0⟩:Ins)::bu th word (A.length+1))++(⟨8,0,0,0⟩:Ins)::bu el word (A.length+1+(cSs word (A.length+1) th).length+1)).length=A.length+1+(cSs word (A.length+1) th).length+1+(cSs word (A.length+1+(cSs word (A.length+1) th).length+1) el).length:=by
        simp only[j5,j6,j7,bu,j4];omega
       rw[←hlG] at o2
       simp only[go_sem]
       refine fp p6 o2 rfl hgT rfl rfl (by rw[hlH];omega) ?_
       intro ob7 p7 r7
       rw[hlH] at p7
       simp only[go_sem]
       refine bt (fun i=>decide (K≤i)) ?_
       refine⟨rfl,hfin _ _ (K+120+6+6) ?_⟩
       have e1:A++List.map Prod.fst (((⟨9,((A.length+1+(cSs word (A.length+1) th).length+1:Nat):Int),0,0⟩:Ins),(1:Int))::(cSs word (A.length+1) th++(⟨8,((A.length+1+(cSs word (A.length+1) th).length+1+(cSs word (A.length+1+(cSs word (A.length+1) th).length+1) el).length:Nat):Int),0,0⟩,0)::cSs word (A.length+1+(cSs word (A.length+1) th).length+1) el)) =
         (A++(⟨9,((A.length+1+(cSs word (A.length+1) th).length+1:Nat):Int),0,0⟩:Ins)::bu th word (A.length+1))++(⟨8,((A.length+1+(cSs word (A.length+1) th).length+1+(cSs word (A.length+1+(cSs word (A.length+1) th).length+1) el).length:Nat):Int),0,0⟩:Ins)::bu el word (A.length+1+(cSs word (A.length+1) th).length+1):=by
        simp only[bu,A1,l5,s5,A2]
       rw[e1]
       exact p7
section
def vz (fs:List Src.CFn):Nat:=(fs.map fun x=>ed x.body).sum
def pP (fs:List Src.CFn) (k:Nat):Nat:=vz (fs.take k)
theorem Ax (fs:List Src.CFn) (k:Nat):pP fs k≤vz fs:=by
 conv=>rhs;rw[←F6 k fs]
 simp only[pP,vz,A1,L0];omega
variable {w:Int}{ps:Sig}{fs:List Src.CFn}{x:Src.CFn}
theorem wS{k:Nat} (h:fs[k]? = some x):pP fs (k+1)=pP fs k+ed x.body:=by
 simp only[pP,vz,B4,h,J0,A1,L0,l5,v8,C6,R2];omega
def bq (x:Ins):List D:=[.int .i64 x.op,.int .i64 x.a,.int .i64 x.b,.int .u32 x.n]
abbrev sd (l:Lower.Code):D:=.sl ((l.map Prod.fst).map bq)
theorem JL{fi:Nat}{fw:Bool}{l:List Stm}{lv:Int} (hN:ed l≤100000000000) (hr:rSs w ps fi fw lv l):ee 102 [slS l] (bu l):=
 tS a6 fun k s hs=>NB (lV s) s lv (j8 _) (by have:=mX hs;omega) (ss hr hs)
theorem NC{fi:Nat}{fw:Bool} (hr:rSs w ps fi fw 1 x.body) (hN:ed x.body≤100000000000) (hl:(codeOf x.word x.body).length≤1000000000) :
  aq Tryz.prog 64 [.agg ((cfD x).map .d)] (· = .one (.d (sd (codeOf x.word x.body)))):=by
 refine hdP Tryz.func64 rfl [2] fun g=>?_
 have hl2:(cSs x.word 0 x.body).length+(leave x.word).length≤1000000000:=by rw[codeOf,j5] at hl;exact hl
 simp only[go_sem,cfD,j4]
 refine Bb _ (cN (t:=3) (o:=3) (b:=20) (j:=1) (sz:=4) (off:=0) rfl rfl rfl a8) ?_
 simp only[St.claimAt]
 have hp:Prog 21 21 3 20 x.word [] (upd (upd (upd g 1 (nxC 129 (g 1))) 3 (nxC 201 (g 3))) 20 (g 20+1)) _ _ _:=Prog.start (ob:=upd (upd (upd (upd (upd (fun _=>none) 1 (some [.d (.int .i64 x.params),.d (.int .i64 x.slots),.d (.int .i64 x.first),.d (.bool x.word),.d (.sl (x.body.map csD))])) 3 (some [.d (.bool false),.d .nsl])) 3 (some [.d (.bool x.word),.d .nsl])) 3 (some [.d (.bool x.word),.osl 20 (g 20+1) 4 0 0])) 20 (some []))
  ⟨by simp[upd],by simp[upd,Dv],a8⟩ a8 a8 (fun i hi=>by simp only[upd];rw[if_neg a6,if_neg a6,if_neg a6,if_neg a6,if_neg a6]) (j8 _)
 refine bw (JL hN hr) hp rfl (gT:=nxC 201 (g 3)) (by simp[upd]) (by simp only[slS,mT];rfl) (by simp only[bu,j4,j7,C0];omega) ?_
 intro g1 ob1 p1 q1 r1
 have hlc:([]++bu x.body x.word ([]:List Ins).length).length=(cSs x.word 0 x.body).length:=by simp only[bu,z8,j4,j7]
 simp only[go_sem]
 refine bw Ce p1 rfl (by simp[upd]) rfl (by rw[hlc,j4];exact hl2) ?_
 intro g2 ob2 p2 q2 r2
 have e:[]++bu x.body x.word ([]:List Ins).length++(leave x.word).map Prod.fst=(codeOf x.word x.body).map Prod.fst:=by simp only[bu,codeOf,z8,A1,j7]
 rw[e] at p2
 have g3:g2 3=nxC 201 (g 3):=by rw[q2 3 a8 a8,q1 3 a8 a8];simp[upd]
 simp only[go_sem,p2.tape.t,g3]
 refine⟨_,⟨_,dm (s:=⟨_,_,_⟩) rfl ((codeOf x.word x.body).map Prod.fst) bq p2.tape.b c9 (fun a _ y hy=>?_) (fun _ _=>rfl) (j4 _),rfl⟩,rfl⟩
 simp only[bq,z6,A4,E3] at hy
 rcases hy with rfl|rfl|rfl|rfl <;> rfl
def sfD (x:Src.CFn):List D:=[.int .i64 x.params,.int .i64 x.slots,.int .i64 x.first,.bool x.word,sd (codeOf x.word x.body)]
def iu (w:Int) (fs:List Src.CFn):AV:=.agg [.d (.int .i64 w),.d (.sl (fs.map sfD))]
theorem JM (x:Src.CFn):(sfD x).length=5:=rfl
def LJ (fs:List Src.CFn):Prop:=∀x∈fs,(codeOf x.word x.body).length≤1000000000
theorem RS (hN:vz fs≤100000000000) (hF:fs.length≤1000000) (hsh:LJ fs) (hr:∀(k:Nat) (x:Src.CFn),fs[k]? = some x→rSs w ps k x.word 1 x.body):aq Tryz.prog 28 [nR ⟨w,fs⟩] (· = iu w fs):=by
 refine hdR Tryz.func28 rfl [.cell 2 75] fun g=>?_
 unfold nR
 simp only[go_sem,j4]
 refine xj _ (cN (t:=3) (o:=3) (b:=30) (j:=1) (sz:=5) (off:=0) rfl rfl rfl a8) (fun n s=>∃k:Nat,n+k=fs.length∧s.f 2=.one (.ptr 2 (s.gen 2) 0)∧s.f 3=.one (.ptr 3 (s.gen 3) 0)∧s.f 10=.one (.d (.sl (fs.map cfD)))∧s.f 11=iv .i64 fs.length∧s.f 12=iv .i64 k∧s.obj 2=some [.d (.int .i64 0),.d .nsl]∧s.obj 3=some [.d (.int .i64 w),.osl 30 (s.gen 30) 5 0 k]∧
  s.obj 30=some ((fs.take k).flatMap fun x=>(sfD x).map .d)) fs.length ?_ ?_
 ·refine⟨0,rfl,?_⟩
  simp only[St.claimAt]
  simp only[go_sem,List.flatMap_nil]
  try rfl
 ·clear g
  rintro n f g ob ⟨k,hk,f2,f3,f10,f11,f12,o2,o3,o30⟩
  simp only at f2 f3 f10 f11 f12 o2 o3 o30
  have hw:=ab (k:=k) a6
  have hfl:∀l:List Src.CFn,(l.flatMap fun x=>(sfD x).map C.d).length=l.length*5:=by
   intro l
   induction l with
   |nil=>rfl
   |cons a l ih=>simp only[D3,j5,ih,j4,JM,j6];omega
  by_cases hlt:k<fs.length
  ·obtain⟨x,hx⟩:=getq hlt
   have hxs:ed x.body≤100000000000:=by
    have h2:=wS hx
    have h3:=Ax fs (k+1)
    omega
   have htl:(fs.take k).length=k:=by rw[C2];omega
   simp only[go_sem,f2,f3,f10,f11,f12,o2,o3,o30,hlt,hx,j4,cfD]
   refine fg aP mixed [29,30,3] [([3],[0],[],false),([16],[0],[],false),([5],[],[],false),([18],[],[],false),([5],[],[],false),([20],[],[],false),([5],[],[],false),([22],[],[],false),([5],[],[],false),([24],[],[],false),([5],[],[],false),([26],[],[],false),([19,21,23,25,27],[],[],false),([28],[],[0],false),([17,29],[],[1],false),([3],[],[],false),([31,30],[],[],true)] 3 b9 rfl a8 ?_
   simp only[go_sem]
   iterate 11 (apply aE;· (intro fa ga oa K' hK;simp only[go_sem,f3,o3,setAt] at hK ⊢;exact hK))
   apply aE
   ·intro fa ga oa K' hK
    simp only[go_sem] at hK ⊢
    refine uS rfl (NC (hr k x hx) hxs (hsh x (l0 hx))) c9 ?_
    exact Wq
   (apply aE;· (intro fa ga oa K' hK;simp only[go_sem,f3,o3] at hK ⊢;exact hK))
   (apply cq;· (intro fa ga oa K' hK;simp only[go_sem,f3,o3] at hK ⊢;exact hK))
   apply cq
   ·intro fa ga oa K' hK
    simp only[go_sem,o30,hfl,htl] at hK ⊢
    refine⟨?_,?_,hK⟩
    ·omega
    ·exact⟨a8,a6⟩
   (apply aE;· (intro fa ga oa K' hK;simp only[go_sem,f3,o3] at hK ⊢;exact hK))
   apply cw
   intro K' hK'
   simp only[go_sem,f3,o3]
   refine hK' _ ?_
   simp only[go_sem,f2,f3,f10,f11,f12,o2,hw]
   refine de (n-1) a6 ⟨k+1,a6,?_⟩
   simp only[go_sem,f2,f3,f10,f11,f12,o2,hw]
   rw[B4,hx,N6,l7 (by rw[hfl,htl];exact j8 _)]
   rfl
  ·have hkk:k=fs.length:=a6
   subst hkk
   simp only[go_sem,f2,f3,f10,f11,f12,o2,o3,hlt,j4]
   rw[G1] at o30
   refine⟨_,⟨[.int .i64 w,.sl (fs.map sfD)],rfl,fun i c hc=>?_,rfl⟩,rfl⟩
   match i,hc with
   |0,hc=>cases hc;exact⟨_,rfl,.d _⟩
   |1,hc=>
     cases hc
     refine⟨_,rfl,dm (s:=⟨_,_,_⟩) rfl fs sfD ?_ rfl (fun a _ y hy=>?_) (fun _ _=>rfl) rfl⟩
     ·simp only[upd];exact o30
     ·simp only[sfD,z6,A4,E3] at hy
      rcases hy with rfl|rfl|rfl|rfl|rfl <;> rfl
end
end
end Go.Proofs.YtgbcmokfgbmabaaGreatDoorR.Low
namespace Go.Src
section
open Go.Asm (Str)
open Go.Lower (Sig within callee rE rEs rS rSs)
section
def sigs (fs:List Fn):Sig:=fs.map fun f=>((f.params.length:Int),f.word)
structure nF (fs:List Fn) (W:Int) (k:Nat) (fnd:Str→Option (Nat×Nat)) (pl:Str→Int×Int):Prop where
 no:pl []=(0,0)
 var:∀s kd n,fnd s=some (kd,n)→kd=1∨kd=2→within W (pl s).1 1∧(pl s).2=0
 arr:∀s n,fnd s=some (3,n)→1≤(pl s).2∧(pl s).2≤4096∧within W (pl s).1 (pl s).2
 fn:∀s n,fnd s=some (4,n)→n<k→(pl s).1=n∧(pl s).2=0∧∃f,fs[n]? = some f∧bR fs s=some f
section
variable {fs:List Fn}{W:Int}{k:Nat}{o i:Pl}{fnd:Str→Option (Nat×Nat)}
theorem ut:∀l:List Ex,(cO o i l).length=l.length:=fun l=>by rw[jX,j4]
theorem uu:∀l:List Stm,(cD o i l).length=l.length:=fun l=>by rw[jY,j4]
theorem vR (H:nF fs W k fnd (cY o i)) {name:Str}{args:Nat}{w:Bool} (h1:bH fnd k 4 name=true) (h2:fu fnd fs k 4 name args=true) (h3:fW fs name=w):callee (sigs fs) k (cY o i name).1 args w∧(cY o i name).2=0:=by
 unfold bH at h1
 cases hf:fnd name with
 |none=>rw[hf] at h1;cases h1
 |some t=>
   obtain⟨kd,n⟩:=t
   rw[hf] at h1
   simp only[show ¬(4:Nat)=2 by decide,show ¬(4:Nat)=3 by decide,A9,l6,I8,A6] at h1
   obtain⟨rfl,hn⟩:=h1
   obtain⟨e1,e2,f,hfn,hff⟩:=H.fn name n hf hn
   unfold fu at h2
   rw[hf] at h2
   simp[hn,hfn] at h2
   unfold fW at h3
   rw[hff] at h3
   simp only at h3
   refine⟨⟨n,e1,hn,?_⟩,e2⟩
   unfold sigs
   rw[x9,hfn,y8,h2,h3]
mutual
theorem zn (H:nF fs W k fnd (cY o i)):∀(e:Ex) (lv:Nat),ft lv e=true→okE (fun a b _=>bH fnd k a b) e=true→okE (fun a b c=>fu fnd fs k a b c) e=true→fH fs e≠0→rE W (sigs fs) k lv (fy o i e)
 |.mk kind op num name kids,lv,h1,h2,h3,h4=>by
   rw[ft] at h1
   rw[okE] at h2 h3
   rw[fH] at h4
   simp only[l6,A6] at h1 h2 h3
   obtain⟨hlv,hform,hkr⟩:=h1
   rw[fy,rE]
   have hlvi:(lv:Int)≤24:=a6
   have hlen:=ut (o:=o) (i:=i) kids
   unfold Lower.okE
   rw[hlen]
   have hnil:kids=[]→rEs W (sigs fs) k (lv+1) (cO o i kids):=fun e=>by rw[e,cO,rEs];trivial
   have hkids:∀t,cl fs t kids=true→t≠0→rEs W (sigs fs) k (lv+1) (cO o i kids):=fun t ha ht=>by
    have:=lN H kids (lv+1) t hkr h2.2 h3.2 ha ht
    exact XJ
   have hno:name=[]→cY o i name=(0,0):=fun e=>by rw[e];exact H.no
   unfold br ai at hform
   by_cases k1:kind=1
   ·subst k1
    simp at hform
    obtain⟨⟨ho,hn⟩,hl⟩:=hform
    have hl0:kids=[]:=by first|exact hl|exact J8.1 hl
    rw[hno hn]
    exact⟨⟨hlvi,.inl rfl,.inr ho,.inr rfl,.inr (.inr (.inr rfl)),.inl ⟨.inl rfl,by rw[hl0];rfl⟩⟩,hnil hl0⟩
   by_cases k2:kind=2
   ·subst k2
    simp at hform
    obtain⟨⟨⟨ho,hnum⟩,hn⟩,hl⟩:=hform
    have hl0:kids=[]:=by first|exact hl|exact J8.1 hl
    have h2':=h2.1
    simp only[B6] at h2'
    unfold bH at h2'
    cases hf:fnd name with
    |none=>rw[hf] at h2';cases h2'
    |some t=>
      obtain⟨kd,n⟩:=t
      rw[hf] at h2'
      simp at h2'
      obtain⟨w1,w2⟩:=H.var name kd n hf h2'
      exact⟨⟨hlvi,.inr hnum,.inr ho,.inr w2,.inl rfl,.inr (.inl ⟨rfl,w1,by rw[hl0];rfl⟩)⟩,hnil hl0⟩
   by_cases k5:kind=5
   ·subst k5
    simp at hform
    obtain⟨⟨⟨ho,hnum⟩,hn⟩,hl⟩:=hform
    have hl0:kids=[]:=by first|exact hl|exact J8.1 hl
    rw[hno hn]
    exact⟨⟨hlvi,.inr hnum,.inr ho,.inr rfl,.inr (.inr (.inr rfl)),.inl ⟨.inr rfl,by rw[hl0];rfl⟩⟩,hnil hl0⟩
   by_cases k3:kind=3
   ·subst k3
    simp at hform
    obtain⟨⟨⟨ho,hnum⟩,hn⟩,hl⟩:=hform
    have h2':=h2.1
    simp at h2'
    unfold bH at h2'
    simp at h4
    cases hf:fnd name with
    |none=>rw[hf] at h2';cases h2'
    |some t=>
      obtain⟨kd,n⟩:=t
      rw[hf] at h2'
      simp at h2'
      subst h2'
      obtain⟨a1,a2,a3⟩:=H.arr name n hf
      exact⟨⟨hlvi,.inr hnum,.inr ho,.inl rfl,.inr (.inl rfl),.inr (.inr (.inl ⟨rfl,a1,a2,a3,hl⟩))⟩,hkids 1 h4 a8⟩
   by_cases k4:kind=4
   ·subst k4
    simp at hform
    obtain⟨⟨⟨ho,hnum⟩,hn⟩,hl⟩:=hform
    have h2':=h2.1
    have h3':=h3.1
    simp at h2' h3' h4
    obtain⟨c1,c2⟩:=vR H h2' h3' h4.1
    exact⟨⟨hlvi,.inr hnum,.inr ho,.inr c2,.inr (.inr (.inl rfl)),.inr (.inr (.inr (.inl ⟨rfl,c1⟩)))⟩,hkids 1 h4.2 a8⟩
   by_cases k6:kind=6
   ·subst k6
    simp at hform
    obtain⟨⟨⟨ho,hnum⟩,hn⟩,hl⟩:=hform
    simp at h4
    rw[hno hn]
    exact⟨⟨hlvi,.inr hnum,.inl rfl,.inr rfl,.inr (.inr (.inr rfl)),.inr (.inr (.inr (.inr (.inl ⟨rfl,ho.1,ho.2,hl⟩))))⟩,hkids 1 h4.1 a8⟩
   by_cases k7:kind=7
   ·subst k7
    simp at hform
    obtain⟨⟨⟨ho,hnum⟩,hn⟩,hl⟩:=hform
    simp at h4
    rw[hno hn]
    exact⟨⟨hlvi,.inr hnum,.inr ho,.inr rfl,.inr (.inr (.inr rfl)),.inr (.inr (.inr (.inr (.inr (.inl ⟨rfl,hl⟩)))))⟩,hkids 2 h4 a8⟩
   by_cases k8:kind=8∨kind=9
   ·simp[k1,k2,k3,k4,k5,k6,k7,k8] at hform
    obtain⟨⟨⟨ho,hnum⟩,hn⟩,hl⟩:=hform
    have ha:cl fs 2 kids=true:=by
     rw[if_neg a6,if_neg a6,if_neg k3,if_neg k4,if_neg k6] at h4
     simpa using h4
    rw[hno hn]
    exact⟨⟨hlvi,.inr hnum,.inr ho,.inr rfl,.inr (.inr (.inr rfl)),.inr (.inr (.inr (.inr (.inr (.inr ⟨k8,hl⟩)))))⟩,hkids 2 ha a8⟩
   ·simp[k1,k2,k3,k4,k5,k6,k7,k8] at hform
theorem lN (H:nF fs W k fnd (cY o i)):∀(l:List Ex) (lv:Nat) (t:Int),bb lv l=true→cZ (fun a b _=>bH fnd k a b) l=true→cZ (fun a b c=>fu fnd fs k a b c) l=true→cl fs t l=true→t≠0→rEs W (sigs fs) k lv (cO o i l)
 |[],lv,t,_,_,_,_,_=>by rw[cO,rEs];trivial
 |e::l,lv,t,h1,h2,h3,h4,h5=>by
   rw[bb,l6] at h1
   rw[cZ,l6] at h2 h3
   rw[cl,l6,A6] at h4
   rw[cO,rEs]
   exact⟨zn H e lv h1.1 h2.1 h3.1 (by rw[h4.1];exact h5),lN H l lv t h1.2 h2.2 h3.2 h4.2 h5⟩
end
mutual
theorem zo {w:Bool} (H:nF fs W k fnd (cY o i)):∀(s:Stm) (lv:Nat),fc lv s=true→okS (fun a b _=>bH fnd k a b) s=true→okS (fun a b c=>fu fnd fs k a b c) s=true→jW fs w s=true→rS W (sigs fs) k w lv (coreS o i s)
 |.mk kind name e th el,lv,h1,h2,h3,h4=>by
   rw[fc] at h1
   rw[okS] at h2 h3
   rw[jW] at h4
   simp only[l6,A6] at h1 h2 h3 h4
   obtain⟨⟨hlv,hform,hkr⟩,hth,hel⟩:=h1
   obtain⟨⟨⟨c6,c7⟩,hall⟩,htt,hte⟩:=h4
   rw[coreS,rS]
   have hlvi:(lv:Int)≤24:=a6
   unfold Lower.okS
   rw[ut,uu,uu]
   have r1:rEs W (sigs fs) k (lv+1) (cO o i e):=by
    have:=lN H e (lv+1) _ hkr h2.1.1.2 h3.1.1.2 hall (by split <;> decide)
    exact XJ
   have r2:rSs W (sigs fs) k w (lv+1) (cD o i th):=by
    have:=jv H th (lv+1) hth h2.1.2 h3.1.2 htt
    exact XJ
   have r3:rSs W (sigs fs) k w (lv+1) (cD o i el):=by
    have:=jv H el (lv+1) hel h2.2 h3.2 hte
    exact XJ
   refine⟨?_,r1,r2,r3⟩
   have hno:name=[]→cY o i name=(0,0):=fun e=>by rw[e];exact H.no
   have hvar:bH fnd k 2 name=true→within W (cY o i name).1 1∧(cY o i name).2=0:=fun h=>by
    unfold bH at h
    cases hf:fnd name with
    |none=>rw[hf] at h;cases h
    |some t=>
      obtain⟨kd,n⟩:=t
      rw[hf] at h
      simp at h
      exact H.var name kd n hf h
   unfold bX ai at hform
   by_cases k1:kind=1
   ·subst k1
    simp at hform
    have h2':=h2.1.1.1
    simp at h2'
    obtain⟨w1,w2⟩:=hvar h2'
    exact⟨hlvi,.inr w2,.inl rfl,.inr (by first|exact hform.2.2.2|(simp[hform.2.2.2])),.inr (.inr (by first|exact hform.2.2.1|(simp[hform.2.2.1]))),.inl ⟨rfl,w1,hform.2.1⟩⟩
   by_cases k2:kind=2
   ·subst k2
    simp at hform
    have h2':=h2.1.1.1
    simp at h2'
    unfold bH at h2'
    cases hf:fnd name with
    |none=>rw[hf] at h2';cases h2'
    |some t=>
      obtain⟨kd,n⟩:=t
      rw[hf] at h2'
      simp at h2'
      subst h2'
      obtain⟨a1,a2,a3⟩:=H.arr name n hf
      exact⟨hlvi,.inl rfl,.inr (.inl rfl),.inr (by first|exact hform.2.2.2|(simp[hform.2.2.2])),.inr (.inr (by first|exact hform.2.2.1|(simp[hform.2.2.1]))),.inr (.inl ⟨rfl,a1,a2,a3,hform.2.1⟩)⟩
   by_cases k3:kind=3
   ·subst k3
    simp at hform
    rw[hno hform.1]
    exact⟨hlvi,.inr rfl,.inr (.inr (.inr rfl)),.inr (by first|exact hform.2.2.2|(simp[hform.2.2.2])),.inr (.inr (by first|exact hform.2.2.1|(simp[hform.2.2.1]))),.inr (.inr (.inl ⟨.inl rfl,hform.2.1⟩))⟩
   by_cases k4:kind=4
   ·subst k4
    simp at hform
    rw[hno hform.1]
    exact⟨hlvi,.inr rfl,.inr (.inr (.inr rfl)),.inl rfl,.inl rfl,.inr (.inr (.inl ⟨.inr (.inl rfl),hform.2⟩))⟩
   by_cases k5:kind=5
   ·subst k5
    simp at hform
    rw[hno hform.1]
    exact⟨hlvi,.inr rfl,.inr (.inr (.inr rfl)),.inr (by first|exact hform.2.2|(simp[hform.2.2])),.inr (.inl rfl),.inr (.inr (.inl ⟨.inr (.inr rfl),hform.2.1⟩))⟩
   by_cases k6:kind=6
   ·subst k6
    simp at hform
    have h2':=h2.1.1.1
    have h3':=h3.1.1.1
    simp at h2' h3' c6
    obtain⟨d1,d2⟩:=vR H h2' h3' c6
    exact⟨hlvi,.inr d2,.inr (.inr (.inl rfl)),.inr (by first|exact hform.2.2.2|(simp[hform.2.2.2])),.inr (.inr (by first|exact hform.2.2.1|(simp[hform.2.2.1]))),.inr (.inr (.inr (.inl ⟨rfl,d1⟩)))⟩
   by_cases k7:kind=7
   ·subst k7
    simp at hform c7
    rw[hno hform.1]
    refine⟨hlvi,.inr rfl,.inr (.inr (.inr rfl)),.inr (by first|exact hform.2.2.2|(simp[hform.2.2.2])),.inr (.inr (by first|exact hform.2.2.1|(simp[hform.2.2.1]))),.inr (.inr (.inr (.inr ⟨rfl,?_⟩)))⟩
    by_cases h0:e.length=0
    ·exact .inl h0
    ·have hp:0<e.length:=a6
     exact .inr ⟨by first|exact c7 hp|exact c7 (Q7.1 hp)|(simp_all),by omega⟩
   ·simp[k1,k2,k3,k4,k5,k6,k7] at hform
theorem jv {w:Bool} (H:nF fs W k fnd (cY o i)):∀(l:List Stm) (lv:Nat),aX lv l=true→dF (fun a b _=>bH fnd k a b) l=true→dF (fun a b c=>fu fnd fs k a b c) l=true→bg fs w l=true→rSs W (sigs fs) k w lv (cD o i l)
 |[],lv,_,_,_,_=>by rw[cD,rSs];trivial
 |s::l,lv,h1,h2,h3,h4=>by
   rw[aX,l6] at h1
   rw[dF,l6] at h2 h3
   rw[bg,l6] at h4
   rw[cD,rSs]
   exact⟨zo H s lv h1.1 h2.1 h3.1 h4.1,jv H l lv h1.2 h2.2 h3.2 h4.2⟩
end
end
end
section
theorem ko {α β γ:Type} (f:Nat→α→β) (g:β→γ) (l:List α):(l.mapIdx f).map g=l.mapIdx fun i a=>g (f i a):=by
 apply N0
 intro i
 rw[x9,N4,N4]
 cases l[i]? <;> rfl
theorem GY:∀(l:List Str) (m:Pl) (w:Int),gV l m w=((l.mapIdx fun i n=>((n,w+(i:Int),0):Str×Int×Int)).reverse++m,w+l.length)
 |[],m,w=>by simp[gV]
 |n::l,m,w=>by
   rw[gV,GY l,L9]
   simp only[N1,s5,I4,j6,G2]
   refine⟨?_,by push_cast;omega⟩
   congr 1
   ·congr 1
    congr 1
    funext i n
    simp only[G2,L1,T4]
    push_cast;omega
   ·simp
theorem GZ:∀(l:List (Str×Int)) (m:Pl) (w:Int),gA l m w=((l.mapIdx fun i a=>((a.1,w+((l.take i).map (·.2)).sum,a.2):Str×Int×Int)).reverse++m,w+(l.map (·.2)).sum)
 |[],m,w=>by simp[gA]
 |n::l,m,w=>by
   rw[gA,GZ l,L9]
   simp only[N1,s5,I4,l5,C6,G2]
   refine⟨?_,a6⟩
   congr 1
   ·congr 1
    congr 1
    funext i n
    simp only[E9,l5,C6,G2,L1,T4]
    omega
   ·simp
theorem LM:∀(l:List Fn) (j:Nat) (m:Pl),gF j l m=(l.mapIdx fun i f=>((f.name,((j+i:Nat):Int),0):Str×Int×Int)).reverse++m
 |[],j,m=>by simp[gF]
 |n::l,j,m=>by
   rw[gF,LM l,L9]
   simp only[N1,s5,I4]
   congr 1
   ·congr 1
    congr 1
    funext i n
    simp only[G2,L1,T4]
    push_cast;omega
theorem Ha (w:Int):∀(l:List Str) (j:Nat) (m:Pl),lP w j l m=(l.mapIdx fun i n=>((n,w+((j+i:Nat):Int),0):Str×Int×Int)).reverse++m
 |[],j,m=>by simp[lP]
 |n::l,j,m=>by
   rw[lP,Ha w l,L9]
   simp only[N1,s5,I4]
   congr 1
   ·congr 1
    congr 1
    funext i n
    simp only[G2,L1,T4]
    push_cast;omega
theorem ue (enc:Nat×Nat→Int×Int) (s:Str):∀(n:Nat) (T:List Th),T.length=n→bA [] T=true→iQ ((T.map fun t=>(t.1,enc t.2)).reverse) s=(az T s).map enc:=by
 intro n
 induction n with
 |zero=>intro T hT _;rw[J8.1 hT];rfl
 |succ n ih=>
   intro T hT hu
   obtain⟨l,t,rfl⟩:∃l t,T=l++[t]:=⟨T.dropLast,T.getLast (by intro h;rw[h] at hT;cases hT),(M6 _).symm⟩
   rw[pX,l6] at hu
   have hl:l.length=n:=by rw[j5] at hT;simpa using hT
   have hn:az l t.1=none:=by simpa using hu.2
   rw[A1,Q8,kp]
   simp only[l5,v8,N1,List.reverse_nil,z8,I4,iQ]
   by_cases hs:t.1=s
   ·rw[if_pos hs]
    rw[hs] at hn
    rw[hn]
    simp[az,hs]
   ·rw[if_neg hs,ih l hl hu.1]
    cases az l s with
    |some x=>rfl
    |none=>simp[az,hs]
def ug (p:Prog) (n:Nat):Int:=p.vars.length+((p.arrays.take n).map (·.2)).sum
def xa (p:Prog) (n:Nat):Int:=((p.arrays[n]?).map (·.2)).getD 0
def uh (p:Prog) (w:Int) (t:Nat×Nat):Int×Int:=if t.1=3 then(ug p t.2,xa p t.2) else if t.1=1 then(w+t.2,0) else((t.2:Int),0)
theorem ui (p:Prog) (w:Int):(aK p).1=((aV p).map fun t=>(t.1,uh p w t.2)).reverse:=by
 unfold aK aV
 simp only
 rw[LM,GZ,GY]
 simp only[A1,Q8,l8]
 congr 1
 ·congr 1
  unfold thF
  rw[ko]
  congr 1
  funext i f
  simp[uh]
 ·congr 1
  ·congr 1
   apply N0
   intro i
   unfold thA
   rw[x9,N4,N4]
   cases hq:p.arrays[i]? with
   |none=>rfl
   |some a=>simp[uh,ug,xa,hq]
  ·congr 1
   unfold thV
   rw[ko]
   congr 1
   funext i f
   simp[uh]
theorem uO (p:Prog) (f:Fn) (w:Int):lP (w+f.params.length) 0 f.locals (lP w 0 f.params [])=((aW f).map fun t=>(t.1,uh p w t.2)).reverse:=by
 unfold aW
 rw[Ha,Ha]
 simp only[A1,Q8,l8]
 congr 1
 ·congr 1
  unfold thL
  rw[ko]
  congr 1
  funext i f
  simp[uh]
  omega
 ·congr 1
  unfold thL
  rw[ko]
  congr 1
theorem pU (p:Prog) (f:Fn) (w:Int) (h1:bA [] (aV p)=true) (h2:bA [] (aW f)=true) (s:Str) :
  cY (aK p).1 (lP (w+f.params.length) 0 f.locals (lP w 0 f.params [])) s=((aU (aV p) (aW f) s).map (uh p w)).getD (0,0):=by
 unfold cY aU
 rw[ui p w,uO p f w,ue _ s _ _ rfl h1,ue _ s _ _ rfl h2]
 cases az (aW f) s <;> rfl
theorem vM (s:Str):∀(fs:List Fn) (j n:Nat),az (fs.mapIdx fun i f=>((f.name,4,j+i):Th)) s=some (4,n)→∃m f,n=j+m∧fs[m]? = some f∧bR fs s=some f
 |[],j,n,h=>by simp[az] at h
 |f::fs,j,n,h=>by
   rw[L9] at h
   simp only[az,bR] at h ⊢
   by_cases hs:f.name=s
   ·rw[if_pos hs] at h
    cases h
    exact⟨0,f,rfl,rfl,by rw[if_pos hs]⟩
   ·rw[if_neg hs] at h
    have e:(fs.mapIdx fun i f=>((f.name,4,j+(i+1)):Th))=fs.mapIdx fun i f=>((f.name,4,(j+1)+i):Th):=by
     congr 1
     funext i f
     simp only[G2,T4]
     omega
    rw[e] at h
    obtain⟨m,g,h1,h2,h3⟩:=vM s fs (j+1) n h
    exact⟨m+1,g,a6,h2,by rw[if_neg hs];exact h3⟩
variable {t:Th}{vs:List Str}{as_:List (Str×Int)}
theorem Hb{s:Str}{k n:Nat} (h:(s,k,n)∈thA as_):∃a,as_[n]? = some a∧k=3:=by
 simp only[thA,I7] at h
 obtain⟨i,hi,e⟩:=h
 cases e
 exact⟨_,w9 hi,rfl⟩
theorem Hc{s:Str}{k n:Nat} (h:(s,k,n)∈thV vs):n<vs.length∧k=2:=by
 simp only[thV,I7] at h
 obtain⟨i,hi,e⟩:=h
 cases e
 exact⟨hi,rfl⟩
theorem Oc (h:t∈thV vs):t.1∈vs:=by
 simp only[thV,I7] at h
 obtain⟨i,hi,rfl⟩:=h
 exact L8 hi
theorem Od (h:t∈thA as_):∃a∈as_,t.1=a.1:=by
 simp only[thA,I7] at h
 obtain⟨i,hi,rfl⟩:=h
 exact⟨_,L8 hi,rfl⟩
theorem Oe {fs:List Fn} (h:t∈thF fs):∃f∈fs,t.1=f.name:=by
 simp only[thF,I7] at h
 obtain⟨i,hi,rfl⟩:=h
 exact⟨_,L8 hi,rfl⟩
theorem Hd {j:Nat} (h:t∈thL j vs):t.1∈vs:=by
 simp only[thL,I7] at h
 obtain⟨i,hi,rfl⟩:=h
 exact L8 hi
theorem dg:aR []=false:=by simp[aR]
theorem He {p:Prog}{f:Fn} (hr:dw p=true) (hf:f∈p.funcs):aU (aV p) (aW f) []=none:=by
 unfold dw at hr
 simp only[l6,x7] at hr
 obtain⟨⟨_,hv⟩,ha,hfs⟩:=hr
 have hff:=hfs f hf
 unfold eL at hff
 simp only[l6,x7] at hff
 unfold aU
 have n1:az (aW f) []=none:=by
  cases h:az (aW f) [] with
  |none=>rfl
  |some x=>
    exfalso
    have hm:=eD h
    unfold aW at hm
    rcases B9.1 hm with hm|hm
    ·have:=hff.2.1.1 _ (Hd hm);simp only[dg] at this;cases this
    ·have:=hff.2.1.2 _ (Hd hm);simp only[dg] at this;cases this
 have n2:az (aV p) []=none:=by
  cases h:az (aV p) [] with
  |none=>rfl
  |some x=>
    exfalso
    have hm:=eD h
    unfold aV at hm
    rcases B9.1 hm with hm|hm
    ·rcases B9.1 hm with hm|hm
     ·have:=hv _ (Oc hm);simp only[dg] at this;cases this
     ·obtain⟨a,ha1,ha2⟩:=Od hm
      have:=ha a ha1
      unfold gk at this
      exact Xu
    ·obtain⟨a,ha1,ha2⟩:=Oe hm
     have:=hfs a ha1
     unfold eL at this
     exact Xu
 rw[n1,n2]
theorem lM (o:Pl):∀(l:List Fn) (w:Int) (k:Nat) (f:Fn),l[k]? = some f→∃w',w≤w'∧(cF o l w).1[k]? = some (ng o f w')∧w'+(f.params.length+f.locals.length)≤(cF o l w).2
 |[],w,k,f,h=>by simp at h
 |g::l,w,0,f,h=>by
   simp at h
   subst h
   refine⟨w,E6 _,rfl,?_⟩
   simp only[cF]
   have:∀(l:List Fn) (w:Int),w≤(cF o l w).2:=by
    intro l
    induction l with
    |nil=>intro w;exact E6 _
    |cons a l ih=>intro w;simp only[cF];have:=ih (w+(a.params.length+a.locals.length));omega
   exact this _ _
 |g::l,w,k+1,f,h=>by
   obtain⟨w',h1,h2,h3⟩:=lM o l (w+(g.params.length+g.locals.length)) k f (by simpa using h)
   refine⟨w',a6,?_,?_⟩
   ·simp only[cF,s6];exact h2
   ·simp only[cF];exact h3
theorem vN (o:Pl):∀(l:List Fn) (w:Int),w≤(cF o l w).2
 |[],w=>E6 _
 |a::l,w=>by simp only[cF];have:=vN o l (w+(a.params.length+a.locals.length));omega
theorem jV (o:Pl):∀(l:List Fn) (w:Int),(cF o l w).1.length=l.length
 |[],w=>rfl
 |a::l,w=>by simp only[cF,j6,jV o l]
theorem rJ:∀(l:List (Str×Int)) (n:Nat) (a:Str×Int),(∀x∈l,1≤x.2)→l[n]? = some a→((l.take n).map (·.2)).sum+a.2≤(l.map (·.2)).sum∧0≤((l.take n).map (·.2)).sum
 |[],n,a,_,h=>by simp at h
 |x::l,0,a,hp,h=>by
   simp at h;subst h
   have:∀m:List (Str×Int),(∀x∈m,1≤x.2)→0≤(m.map (·.2)).sum:=by
    intro m hm
    induction m with
    |nil=>simp
    |cons y m ih=>have h1:=ih (fun z hz=>hm z (by simp[hz]));have h2:=hm y a7;simp only[l5,C6];omega
   have h0:=this l (fun z hz=>hp z (by simp[hz]))
   simp only[K8,v8,R2,l5,C6]
   omega
 |x::l,n+1,a,hp,h=>by
   have ih:=rJ l n a (fun z hz=>hp z (by simp[hz])) (by simpa using h)
   have:=hp x a7
   simp only[E9,l5,C6]
   omega
theorem Hf {p:Prog}{f:Fn}{k:Nat}{w W:Int} (hr:dw p=true) (h1:bA [] (aV p)=true) (h2:bA [] (aW f)=true) (hf:f∈p.funcs) (hw0:(aK p).2≤w) (hW:w+(f.params.length+f.locals.length)≤W) :
  nF p.funcs W k (aU (aV p) (aW f)) (cY (aK p).1 (lP (w+f.params.length) 0 f.locals (lP w 0 f.params []))):=by
 have hg:(aK p).2=p.vars.length+(p.arrays.map (·.2)).sum:=by
  unfold aK;simp only;rw[GZ,GY];simp
 have har:∀a∈p.arrays,1≤a.2∧a.2≤4096:=by
  unfold dw at hr
  simp only[l6,x7] at hr
  intro a ha
  have:=hr.2.1 a ha
  unfold gk at this
  simp at this
  omega
 have har1:∀a∈p.arrays,1≤a.2:=fun a ha=>(har a ha).1
 have hsum0:0≤(p.arrays.map (·.2)).sum:=by
  have:∀m:List (Str×Int),(∀x∈m,1≤x.2)→0≤(m.map (·.2)).sum:=by
   intro m hm
   induction m with
   |nil=>simp
   |cons y m ih=>have h1:=ih (fun z hz=>hm z (by simp[hz]));have h2:=hm y a7;simp only[l5,C6];omega
  exact this _ har1
 have hout:∀{s:Str}{t:Nat×Nat},az (aW f) s=some t→t.1=1∧t.2<f.params.length+f.locals.length:=fun {s t} h=>by
  have hm:=eD h
  unfold aW at hm
  rcases B9.1 hm with hm|hm
  ·have:=Cm hm;exact⟨this.1,a6⟩
  ·have:=Cm hm;exact⟨this.1,a6⟩
 have hin:∀{s:Str}{t:Nat×Nat},az (aV p) s=some t→(t.1=2∧t.2<p.vars.length)∨(t.1=3∧∃a,p.arrays[t.2]? = some a)∨t.1=4:=fun {s t} h=>by
  have hm:=eD h
  unfold aV at hm
  rcases B9.1 hm with hm|hm
  ·rcases B9.1 hm with hm|hm
   ·have:=Hc hm;exact .inl ⟨this.2,this.1⟩
   ·obtain⟨a,ha,hk⟩:=Hb hm;exact .inr (.inl ⟨hk,a,ha⟩)
  ·exact .inr (.inr (Ht hm).1)
 refine⟨?_,fun s kd n hs hk=>?_,fun s n hs=>?_,fun s n hs hn=>?_⟩
 ·rw[pU p f w h1 h2,He hr hf];rfl
 ·rw[pU p f w h1 h2,hs]
  simp only[y8,z7]
  unfold aU at hs
  cases hq:az (aW f) s with
  |some t=>
    rw[hq] at hs
    cases hs
    have:=hout hq
    simp only at this
    obtain⟨rfl,hlt⟩:=this
    simp only[uh,show ¬(1:Nat)=3 by decide,A9,B6]
    exact⟨⟨a6,a6,a6,a6⟩,trivial⟩
  |none=>
    rw[hq] at hs
    simp only at hs
    rcases hin hs with⟨h3,h4⟩|⟨h3,_⟩|h3
    ·simp only at h3 h4
     subst h3
     simp only[uh,show ¬(2:Nat)=3 by decide,show ¬(2:Nat)=1 by decide,A9]
     exact⟨⟨a6,a6,a6,a6⟩,trivial⟩
    ·simp only at h3;omega
    ·simp only at h3;omega
 ·rw[pU p f w h1 h2,hs]
  simp only[y8,z7]
  unfold aU at hs
  cases hq:az (aW f) s with
  |some t=>
    exact Yf
  |none=>
    rw[hq] at hs
    simp only at hs
    rcases hin hs with⟨h3,h4⟩|⟨_,a,ha⟩|h3
    ·simp only at h3;omega
    ·simp only at ha
     simp only[uh,B6,ug,xa,ha,y8,z7]
     have hb:=har a (l0 ha)
     have hs2:=rJ p.arrays n a har1 ha
     exact⟨hb.1,hb.2,a6,a6,a6,a6⟩
    ·simp only at h3;omega
 ·rw[pU p f w h1 h2,hs]
  simp only[y8,z7,uh,show ¬(4:Nat)=3 by decide,show ¬(4:Nat)=1 by decide,A9,T4]
  unfold aU at hs
  cases hq:az (aW f) s with
  |some t=>
    exact Yf
  |none=>
    rw[hq] at hs
    simp only at hs
    unfold aV at hs
    rw[kp] at hs
    cases hva:az (thV p.vars++thA p.arrays) s with
    |some t=>
      rw[hva] at hs
      cases hs
      have hm:=eD hva
      rcases B9.1 hm with hm|hm
      ·have:=(Hc hm).2;omega
      ·obtain⟨_,_,h⟩:=Hb hm;omega
    |none=>
      rw[hva] at hs
      simp only at hs
      unfold thF at hs
      have e:(p.funcs.mapIdx fun i f=>((f.name,4,i):Th))=p.funcs.mapIdx fun i f=>((f.name,4,0+i):Th):=by
       congr 1;funext i f;simp
      rw[e] at hs
      obtain⟨m,g,e1,e2,e3⟩:=vM s p.funcs 0 n hs
      obtain rfl:n=m:=a6
      exact⟨g,e2,e3⟩
end
section
theorem oZ {α:Type}{c:Nat→α→Bool}:∀{l:List α}{j k:Nat}{x:α},bc c j l=true→l[k]? = some x→c (j+k) x=true
 |[],j,k,x,_,h=>by simp at h
 |a::l,j,0,x,h1,h2=>by
   simp at h2;subst h2
   rw[bc,l6] at h1
   exact h1.1
 |a::l,j,k+1,x,h1,h2=>by
   rw[bc,l6] at h1
   have:=oZ h1.2 (k:=k) (x:=x) (by simpa using h2)
   rw[show j+(k+1)=j+1+k by omega]
   exact this
variable {p:Prog}
theorem yS (h:bL p=0):dw p=true∧iy p=0∧pe p=0:=by
 unfold bL at h
 split at h
 ·cases h
 ·rename_i hr
  split at h
  ·rename_i hs;exact absurd h hs
  ·rename_i hs
   exact⟨by simpa using hr,by simpa using hs,h⟩
theorem yT (h:iy p=0) (hl:1≤p.funcs.length):bA [] (aV p)=true∧bc (iP p) 0 p.funcs=true∧bc (xb p) 0 p.funcs=true:=by
 unfold iy at h
 split at h
 ·cases h
 ·rename_i hn
  have hn2:(bA [] (aV p)&&bc (iP p) 0 p.funcs)=true:=by simpa using hn
  rw[l6] at hn2
  split at h
  ·rename_i hlast
   rw[List.getLast?_eq_none_iff] at hlast
   rw[hlast] at hl
   simp at hl
  ·split at h
   ·rename_i hc;exact⟨hn2.1,hn2.2,hc.1⟩
   ·cases h
theorem AT (h:bL p=0) {k:Nat}{x:CFn} (hx:(ac p).funcs[k]? = some x):rSs (ac p).words (sigs p.funcs) k x.word 1 x.body:=by
 obtain⟨hr,hs,ht⟩:=yS h
 have hl:1≤p.funcs.length:=by unfold dw at hr;simp at hr;exact hr.1.1.1
 obtain⟨hu,hnm,hnu⟩:=yT hs hl
 unfold ac at hx ⊢
 simp only at hx ⊢
 have hk:k<p.funcs.length:=by
  have:=(l4.1 hx).1
  rw[jV] at this
  exact this
 obtain⟨f,hf⟩:∃f,p.funcs[k]? = some f:=⟨_,w9 hk⟩
 obtain⟨w',h1,h2,h3⟩:=lM (aK p).1 p.funcs (aK p).2 k f hf
 rw[hx] at h2
 cases h2
 have hmem:=l0 hf
 have g1:=oZ hnm hf
 have g2:=oZ hnu hf
 rw[C0] at g1 g2
 unfold iP at g1
 rw[l6] at g1
 unfold xb at g2
 have hfn:eL f=true:=by
  unfold dw at hr
  simp only[l6,x7] at hr
  exact hr.2.2 f hmem
 have hbody:aX 1 f.body=true:=by
  unfold eL at hfn
  simp only[l6] at hfn
  exact hfn.2.2
 have hty:bg p.funcs f.word f.body=true:=by
  unfold pe at ht
  split at ht
  ·cases ht
  ·split at ht
   ·cases ht
   ·rename_i hq
    have:(p.funcs.all fun f=>bg p.funcs f.word f.body)=true:=by simpa using hq
    rw[x7] at this
    exact this f hmem
 have hP:=Hf (p:=p) (f:=f) (k:=k) (w:=w') (W:=(cF (aK p).1 p.funcs (aK p).2).2) hr hu g1.1 hmem h1 a6
 unfold ng
 simp only
 have:=jv (w:=f.word) hP f.body 1 hbody g1.2 g2 hty
 exact XJ
end
end
section
open Go.Lower (cE cEs cAO lL cS cSs one kT jf leave jU ifC qQ codeOf)
mutual
def cnE:Lower.Ex→Nat
 |.mk _ _ _ _ _ kids=>nJ kids+1
def nJ:List Lower.Ex→Nat
 |[]=>0
 |e::l=>cnE e+nJ l
end
mutual
def cnS:Lower.Stm→Nat
 |.mk _ _ _ e th el=>nJ e+mg th+mg el+1
def mg:List Lower.Stm→Nat
 |[]=>0
 |s::l=>cnS s+mg l
end
mutual
theorem Hg (o i:Pl):∀e:Ex,cnE (fy o i e)=szE e
 |.mk kind op num name kids=>by rw[fy,cnE,szE,qS o i kids]
theorem qS (o i:Pl):∀l:List Ex,nJ (cO o i l)=aG l
 |[]=>by rw[cO,nJ,aG]
 |e::l=>by rw[cO,nJ,aG,Hg o i e,qS o i l]
end
mutual
theorem Hh (o i:Pl):∀e:Stm,cnS (coreS o i e)=szS e
 |.mk kind name e th el=>by rw[coreS,cnS,szS,qS,nD o i th,nD o i el]
theorem nD (o i:Pl):∀l:List Stm,mg (cD o i l)=au l
 |[]=>by rw[cD,mg,au]
 |e::l=>by rw[cD,mg,au,Hh o i e,nD o i l]
end
theorem one_le {kind op num slot size d:Int}:(Lower.one kind op num slot size d).length≤1:=by
 unfold Lower.one
 repeat' split
 all_goals simp
theorem Hi {kind d:Int}:(jf kind d).length≤1:=by unfold jf;split <;> simp
mutual
theorem Hj:∀(e:Lower.Ex) (at':Nat) (d:Int),(cE at' d e).length≤6*cnE e
 |.mk kind op num slot size kids,at',d=>by
   rw[cE,cnE]
   split
   ·exact Og kids at' d kind
   ·rw[j5]
    have:=qP kids at' d
    have:=one_le (kind:=kind) (op:=op) (num:=num) (slot:=slot) (size:=size) (d:=d+kids.length)
    omega
theorem qP:∀(l:List Lower.Ex) (at':Nat) (d:Int),(cEs at' d l).length≤6*nJ l
 |[],at',d=>by rw[cEs];simp
 |e::l,at',d=>by
   rw[cEs,nJ,j5]
   have:=Hj e at' d
   have:=qP l (at'+(cE at' d e).length) (d+1)
   omega
theorem Og:∀(l:List Lower.Ex) (at':Nat) (d kind:Int),(cAO at' d kind l).length≤6*(nJ l+1)
 |[],at',d,kind=>by rw[cAO];simp
 |e::l,at',d,kind=>by
   rw[cAO,nJ]
   unfold kT
   simp only[j5,j6,j7]
   have h1:=Hj e at' d
   have h2:=Cj l (at'+(cE at' d e).length+(jf kind d).length+3) d
   have h3:=Hi (kind:=kind) (d:=d)
   omega
theorem Cj:∀(l:List Lower.Ex) (at':Nat) (d:Int),(lL at' d l).length≤6*nJ l
 |[],at',d=>by rw[lL];simp
 |e::l,at',d=>by
   rw[lL,nJ]
   have:=Hj e at' d
   omega
end
theorem yU {w:Bool}:(leave w).length≤2:=by unfold leave;split <;> simp
theorem Kt {w:Bool}{kind slot size:Int}{n:Nat}:(qQ w kind slot size n).length≤2:=by
 unfold qQ
 have:=yU (w:=w)
 repeat' split
 all_goals first|assumption|simp
mutual
theorem Sk (w:Bool):∀(s:Lower.Stm) (at':Nat),(cS w at' s).length≤6*cnS s
 |.mk kind slot size e th el,at'=>by
   rw[cS,cnS]
   split
   ·unfold jU
    simp only[j5,j6,j7]
    have h1:=Cj e at' 0
    have h2:=mW w th (at'+(lL at' 0 e).length+1)
    omega
   ·rw[j5]
    have h1:=qP e at' 0
    split
    ·unfold ifC
     split
     ·simp only[j5,j6,j7]
      have h2:=mW w th (at'+(cEs at' 0 e).length+1)
      have h3:=mW w el (at'+(cEs at' 0 e).length+1+(cSs w (at'+(cEs at' 0 e).length+1) th).length+1)
      omega
     ·simp only[j6]
      have h2:=mW w th (at'+(cEs at' 0 e).length+1)
      omega
    ·have:=Kt (w:=w) (kind:=kind) (slot:=slot) (size:=size) (n:=e.length)
     omega
theorem mW (w:Bool):∀(l:List Lower.Stm) (at':Nat),(cSs w at' l).length≤6*mg l
 |[],at'=>by rw[cSs];simp
 |e::l,at'=>by
   rw[cSs,mg,j5]
   have:=Sk w e at'
   have:=mW w l (at'+(cS w at' e).length)
   omega
end
theorem Pj (w:Bool) (l:List Lower.Stm):(codeOf w l).length≤6*mg l+2:=by
 unfold codeOf
 rw[j5]
 have:=mW w l 0
 have:=yU (w:=w)
 omega
theorem Ku {α:Type} (f:α→Nat):∀{l:List α}{x:α},x∈l→f x≤(l.map f).sum
 |a::l,x,h=>by
   simp only[l5,C6]
   rcases z6.1 h with rfl|h
   ·omega
   ·have:=Ku f h;omega
theorem yV (o:Pl):∀(l:List Fn) (w:Int),((cF o l w).1.map fun x=>mg x.body).sum=(l.map fun f=>au f.body).sum
 |[],w=>rfl
 |f::l,w=>by
   simp only[cF,l5,C6,yV o l]
   unfold ng
   simp only[nD]
end
end Go.Src
namespace Go.Proofs.YtgbcmokfgbmabaaGreatDoorR.Low
section
open Go Go.Am Go.Lower
open Go.Src (cnE nJ cnS mg ac bL)
mutual
theorem Gr:∀e:Ex,kO e+1=cnE e
 |.mk _ _ _ _ _ kids=>by rw[kO,cnE,qM kids]
theorem qM:∀l:List Ex,gu l=nJ l
 |[]=>by rw[gu,nJ]
 |e::l=>by rw[gu,nJ,←Gr e,qM l];omega
end
mutual
theorem Gs:∀e:Stm,lV e+1=cnS e
 |.mk _ _ _ e th el=>by rw[lV,cnS,qM e,nz th,nz el]
theorem nz:∀l:List Stm,ed l=mg l
 |[]=>by rw[ed,mg]
 |e::l=>by rw[ed,mg,←Gs e,nz l];omega
end
theorem rC (l:List Src.Fn):(l.map fun f=>Src.au f.body).sum≤(l.map fun f=>f.params.length+f.locals.length+Src.au f.body).sum:=by
 induction l with
 |nil=>exact j8 _
 |cons a l ih=>simp only[l5,C6];omega
theorem JN {p:Src.Prog} (h:bL p=0) (hsz:szP p≤1000000):aq Tryz.prog 28 [nR (ac p)] (· = iu (ac p).words (ac p).funcs):=by
 unfold szP at hsz
 have hs1:=Src.yV (Src.aK p).1 p.funcs (Src.aK p).2
 have hs2:=rC p.funcs
 have hsum:((ac p).funcs.map fun x=>mg x.body).sum≤1000000:=by unfold ac;simp only;omega
 refine RS (ps:=Src.sigs p.funcs) ?_ ?_ ?_ (fun k x hx=>Src.AT h hx)
 ·unfold vz
  rw[show (fun x:Src.CFn=>ed x.body)=fun x=>mg x.body from funext fun x=>nz x.body]
  omega
 ·rw[Src.jV]
  omega
 ·intro x hx
  have h1:=Src.Pj x.word x.body
  have h2:=Src.Ku (fun x:Src.CFn=>mg x.body) hx
  omega
end
section
attribute [local congr] Go.Am.ite_cc
open Go Go.Am Go.Lower
section
variable {x:Ins}
theorem yu {ps:Sig}{word:Bool}{r:Int×Int} (h:takes ps word x=some r):x.op=1∨x.op=2∨x.op=3∨x.op=4∨x.op=5∨x.op=6∨x.op=7∨x.op=8∨x.op=9∨x.op=10∨x.op=11∨x.op=12∨x.op=13:=by
 unfold takes at h
 by_cases h1:x.op=1∨x.op=2∨x.op=12
 ·omega
 exact Wi
def ksD (l:List Int):D:=.sl (l.map fun k=>[.int .i64 k])
theorem ND {at':Nat} (hat:at'≤1000000000):aq Tryz.prog 156 [.agg ((bq x).map .d),iv .i64 at'] (· = .one (.d (ksD (next x at')))):=by
 refine hdP Tryz.func156 rfl [4] fun g=>?_
 obtain⟨op,a,b,n⟩:=x
 have hw:=ab (k:=at') a6
 by_cases h8:op=8
 ·subst h8
  simp only[go_sem,bq]
  exact⟨_,⟨_,dm (s:=⟨_,_,_⟩) rfl [a] (fun k=>[.int .i64 k]) (by simp only[upd];rfl) rfl (fun _ _ y hy=>by simp at hy;subst hy;rfl) (fun _ _=>rfl) rfl,rfl⟩,rfl⟩
 by_cases h9:op=9
 ·subst h9
  simp only[go_sem,bq,hw]
  exact⟨_,⟨_,dm (s:=⟨_,_,_⟩) rfl [((at'+1:Nat):Int),a] (fun k=>[.int .i64 k]) (by simp only[upd];rfl) rfl (fun _ _ y hy=>by simp at hy;subst hy;rfl) (fun _ _=>rfl) rfl,rfl⟩,rfl⟩
 by_cases h11:op=11
 ·subst h11
  simp only[go_sem,bq]
  rfl
 ·simp only[go_sem,bq,h8,h9,h11,hw]
  have e:next ⟨op,a,b,n⟩ at'=[((at'+1:Nat):Int)]:=by simp[next,h8,h9,h11]
  rw[e]
  exact⟨_,⟨_,dm (s:=⟨_,_,_⟩) rfl [((at'+1:Nat):Int)] (fun k=>[.int .i64 k]) (by simp only[upd];rfl) rfl (fun _ _ y hy=>by simp at hy;subst hy;rfl) (fun _ _=>rfl) rfl,rfl⟩,rfl⟩
def JO (fs:List Src.CFn):Sig:=fs.map fun x=>(x.params,x.word)
theorem su (b:Bool):aq Tryz.prog 222 [bv b] (· = iv .i64 (if b then 1 else 0)):=by
 refine hdP Tryz.func222 rfl [2] fun g=>?_
 cases b <;> (simp only[go_sem])
theorem Gt {w:Int}{fs:List Src.CFn}{f:Nat}{fx:Src.CFn} (hf:fs[f]? = some fx){t p d:Int} (h:takes (JO fs) fx.word x=some (t,p)) (h0:0≤t) (htd:t≤d) (hd:d≤1000000000) (h11:x.op=11→d=t) :
  aq Tryz.prog 155 [iu w fs,iv .i64 f,.agg ((bq x).map .d),iv .i64 d] (· = .tup [iv .i64 (if x.op=11 then 0 else d-t+p),bv true]):=by
 refine hdP Tryz.func155 rfl [8,9] fun g=>?_
 have hop:=yu h
 obtain⟨op,a,b,n⟩:=x
 have hfl:f<fs.length:=(l4.1 hf).1
 unfold iu
 simp only at hop h11
 have hw1:IntKind.i64.wrap (d-t)=d-t:=by rw[wrap_i64] <;> omega
 have h30:IntKind.i64.wrap (d-t+0)=d-t+0:=by rw[wrap_i64] <;> omega
 have h31:IntKind.i64.wrap (d-t+1)=d-t+1:=by rw[wrap_i64] <;> omega
 rcases hop with rfl|rfl|rfl|rfl|rfl|rfl|rfl|rfl|rfl|rfl|rfl|rfl|rfl
 all_goals try (obtain⟨rfl,rfl⟩:_=t∧_=p:=by simpa[takes] using h)
 ·simp only[go_sem,bq,hw1,h30,h31,htd]
 ·simp only[go_sem,bq,hw1,h30,h31,htd]
 ·simp only[go_sem,bq,hw1,h30,h31,htd]
 ·simp only[go_sem,bq,hw1,h30,h31,htd]
 ·simp only[go_sem,bq,hw1,h30,h31,htd]
 ·simp only[go_sem,bq,hw1,h30,h31,htd]
 ·simp only[go_sem,bq,hw1,h30,h31,htd]
 ·simp only[go_sem,bq,hw1,h30,h31,htd]
 ·simp only[go_sem,bq,hw1,h30,h31,htd]
 ·by_cases ha:a<0
  ·simp[takes,ha] at h
  ·obtain⟨k,rfl⟩:∃k:Nat,a=(k:Int):=⟨a.toNat,a6⟩
   simp only[takes,JO,ha,A9,A8,x9,Option.map_map] at h
   cases hk:fs[k]? with
   |none=>simp[hk] at h
   |some y=>
     have hkl:k<fs.length:=(l4.1 hk).1
     have hkl':¬fs.length≤k:=a6
     have hkl2:(k:Int)<(fs.length:Int):=a6
     have hkl3:¬(fs.length:Int)≤(k:Int):=a6
     have hk0:(0:Int)≤(k:Int):=a6
     cases hw:y.word with
     |false=>
       obtain⟨rfl,rfl⟩:y.params=t∧(0:Int)=p:=by simpa[hk,hw] using h
       have hy0:¬y.params<0:=a6
       simp only[go_sem,bq,hk,hkl,hkl',hkl2,hkl3,hk0,ha,hw,sfD,j4,hy0]
       refine df aP mixed b9 ?_
       simp only[go_sem,bq,hk,hkl,hkl',hkl2,hkl3,hk0,ha,hw,sfD,j4,hy0]
       refine ba rfl (su false) (ct rfl) rfl ?_
       simp only[go_sem,bq,hk,hkl,hkl',hkl2,hkl3,hk0,ha,hw,sfD,j4,hy0,hw1,h30,htd,C3]
     |true=>
       obtain⟨rfl,rfl⟩:y.params=t∧(1:Int)=p:=by simpa[hk,hw] using h
       have hy0:¬y.params<0:=a6
       simp only[go_sem,bq,hk,hkl,hkl',hkl2,hkl3,hk0,ha,hw,sfD,j4,hy0]
       refine df aP mixed b9 ?_
       simp only[go_sem,bq,hk,hkl,hkl',hkl2,hkl3,hk0,ha,hw,sfD,j4,hy0]
       refine ba rfl (su true) (ct rfl) rfl ?_
       simp only[go_sem,bq,hk,hkl,hkl',hkl2,hkl3,hk0,ha,hw,sfD,j4,hy0,hw1,h31,htd]
 ·have hd2:=h11 rfl
  have hf0:(0:Int)≤(f:Int):=a6
  have hf1:(f:Int)<(fs.length:Int):=a6
  cases hw:fx.word with
  |false=>
    obtain⟨rfl,rfl⟩:(0:Int)=t∧(0:Int)=p:=by simpa[takes,hw] using h
    simp only[go_sem,bq,hf,hf0,hf1,hfl,sfD,j4,hw]
    refine eV rfl (su false) c9 ?_
    rintro _ rfl
    simp only[go_sem,l9 hd2,C3]
  |true=>
    obtain⟨rfl,rfl⟩:(1:Int)=t∧(0:Int)=p:=by simpa[takes,hw] using h
    simp only[go_sem,bq,hf,hf0,hf1,hfl,sfD,j4,hw]
    refine eV rfl (su true) c9 ?_
    rintro _ rfl
    simp only[go_sem,l9 hd2]
 ·simp only[go_sem,bq,hw1,h30,h31,htd]
 ·simp only[go_sem,bq,hw1,h30,h31,htd]
end
section
def icells (l:List Int):List C:=l.map fun k=>.d (.int .i64 k)
theorem bW (l:List Int):(icells l).length=l.length:=by simp[icells]
theorem gv (l:List Int) (k:Nat):(icells l)[k]? = (l[k]?).map fun k=>.d (.int .i64 k):=by simp[icells]
theorem gw (l:List Int) (k:Nat) (v:Int):(icells l).set k (.d (.int .i64 v))=icells (l.set k v):=by simp[icells,U1]
theorem jQ (a b:List Int):icells (a++b)=icells a++icells b:=by simp[icells]
structure rD (T D:Nat) (l:List Int) (g:Nat→Nat) (ob:Obs):Prop where
 t:ob T=some [.osl D (g D) 1 0 l.length]
 d:∃r:List Int,ob D=some (icells (l++r))
variable {l:List Int}{B T D:Nat}{g:Nat→Nat}{ob:Obs}{gT:Nat}
theorem NE (hB:∀i,B≤i→ob i=none) (hT:T<B) (h:rD T D l g ob) (hgT:g T=gT) :
  ew Tryz.prog 153 [.one (.ptr T gT 0)] g ob (fun r g' ob'=>g'=g∧ob'=ob∧r=iv .i64 l.length) (fun _ _ _=>False):=by
 refine hdM B [] Tryz.func153 rfl [.tmp 2] a7 hB fun b₀ β0 s0 w0=>?_
 obtain⟨h1,r,h2⟩:=h
 simp only[go_sem,h1,h2,hgT,bW,j5]
 refine⟨_,ag.refl _,?_⟩
 simp only[go_sem]
 exact aZ.nil (fun i hi=>⟨rfl,rfl⟩) (rs':=[iv .i64 l.length]) ⟨_,_,rfl,.one (.d _),rfl⟩ ⟨rfl,rfl,rfl⟩
theorem Ay {B:Nat}:∀c∈icells l,me B c:=fun c hc=>by
 obtain⟨x,_,rfl⟩:=F7.1 hc
 trivial
theorem Gu{x:Int} (hB:∀i,B≤i→ob i=none) (hT:T<B) (hD:D<B) (hTD:T≠D) (h:rD T D l g ob) (hgT:g T=gT) (hl:l.length≤1000000000) :
  ew Tryz.prog 152 [.one (.ptr T gT 0),iv .i64 x] g ob (fun _ g' ob'=>rD T D (l++[x]) g' ob'∧(∀i,i≠D→g' i=g i)∧∀i,i≠T→i≠D→ob' i=ob i) (fun _ _ _=>False):=by
 refine hdM B [T,D] Tryz.func152 rfl [] (by simp;omega) hB fun b₀ β0 s0 w0=>?_
 obtain⟨h1,r,h2⟩:=h
 have n1:∀k,(T=B+k)=False:=fun k=>by simp;omega
 have n2:∀k,(D=B+k)=False:=fun k=>by simp;omega
 have n3:(T=D)=False:=by simp[hTD]
 have n4:(D=T)=False:=by simp[A3 hTD]
 simp only[go_sem,n1,n2,n3,n4,h1,h2,hgT,bW,j5,aH]
 refine⟨a6,⟨a8,a6⟩,?_⟩
 refine⟨_,ag.refl _,?_⟩
 simp only[go_sem]
 refine⟨⟨fun i hi hn=>?_,fun i hi cells hc=>?_⟩,[],rfl,⟨?_,?_⟩,fun i hi=>?_,fun i hi hi2=>?_⟩
 ·have h1:i≠T:=fun e=>hn (by simp[e])
  have h2:i≠D:=fun e=>hn (by simp[e])
  exact⟨nu,nu⟩
 ·simp only[z6,A4,E3] at hi
  rcases hi with rfl|rfl
  ·simp[upd] at hc
   subst hc
   intro c hc
   rw[C4.1 hc]
   exact hD
  ·simp[upd,n4] at hc
   subst hc
   intro c hc
   rcases B9.1 hc with hc|hc
   ·exact Ay c (P9 hc)
   ·rw[C4.1 hc];trivial
 ·simp[jh,eY,upd]
 ·refine⟨[],?_⟩
  simp[eY,upd,n4]
  rw[jQ]
  simp[icells]
 ·exact Xf
 ·unfold eY
  rw[if_neg (by simp[hi,hi2])]
theorem RT{x:Int} (hB:∀i,B≤i→ob i=none) (hT:T<B) (hD:D<B) (hTD:T≠D) (h:rD T D (l++[x]) g ob) (hgT:g T=gT) (hl:l.length≤1000000000) :
  ew Tryz.prog 154 [.one (.ptr T gT 0)] g ob (fun r g' ob'=>r=iv .i64 x∧rD T D l g' ob'∧g'=g∧∀i,i≠T→ob' i=ob i) (fun _ _ _=>False):=by
 refine hdM B [T] Tryz.func154 rfl [.tmp 2] (by simp;omega) hB fun b₀ β0 s0 w0=>?_
 obtain⟨h1,r,h2⟩:=h
 have n1:∀k,(T=B+k)=False:=fun k=>by simp;omega
 have n3:(T=D)=False:=by simp[hTD]
 have n4:(D=T)=False:=by simp[A3 hTD]
 have hlen:(l++[x]).length=l.length+1:=a7
 rw[hlen] at h1
 have hw:IntKind.i64.wrap (((l.length+1:Nat):Int)-1)=(l.length:Int):=by rw[wrap_i64] <;> omega
 have hg:(l++[x]++r)[l.length]? = some x:=a7
 have h0:(0:Int)≤(l.length:Int):=a6
 simp only[go_sem,n1,n3,n4,h1,h2,hgT,bW,j5,hw,gv,hg,h0]
 refine⟨a6,a6,a6,?_⟩
 refine⟨_,ag.refl _,?_⟩
 simp only[go_sem]
 refine⟨⟨fun i hi hn=>?_,fun i hi cells hc=>?_⟩,[iv .i64 x],⟨_,_,rfl,.one (.d _),rfl⟩,rfl,⟨?_,x::r,?_⟩,wN (fun i hi=>rfl),fun i hi=>?_⟩
 ·have h1:i≠T:=fun e=>hn (by simp[e])
  exact⟨nu,nu⟩
 ·simp only[z6,A4,E3] at hi
  subst hi
  simp[upd] at hc
  subst hc
  intro c hc
  rw[C4.1 hc]
  exact hD
 ·rw[wN (fun i hi=>rfl)]
  simp[eY,upd]
 ·simp only[eY,z6,A4,E3,n4,A9]
  rw[h2]
  simp
 ·simp[eY,hi]
end
end
end Go.Proofs.YtgbcmokfgbmabaaGreatDoorR.Low
namespace Go.Emit
section
open Go.Lower (Ins Code codeOf takes next Inv left)
section
def visit (cd:Lower.Code):List Int→List Int×List Nat→List Int×List Nat
 |[],st=>st
 |y::l,st=>visit cd l (if (st.1[y.toNat]?.getD 0)<0 then(st.1.set y.toNat (((cd[y.toNat]?).map Prod.snd).getD 0),st.2++[y.toNat]) else st)
def search (cd:Lower.Code):Nat→List Int×List Nat→List Int
 |0,st=>st.1
 |n+1,st=>match st.2.getLast? with
   |none=>st.1
   |some a=>match cd[a]? with
     |none=>st.1
     |some x=>search cd n (visit cd (next x.1 a) (st.1,st.2.dropLast))
def iX (cd:Lower.Code):List Int:=search cd cd.length ((List.replicate cd.length (-1)).set 0 0,[0])
theorem zS (cd:Lower.Code) (n:Nat) (out:List Int):search cd n (out,[])=out:=by cases n <;> rfl
theorem xD (cd:Lower.Code) (n:Nat) (out:List Int) (todo:List Nat) (a:Nat) {x:Ins×Int} (h:cd[a]? = some x):search cd (n+1) (out,todo++[a])=search cd n (visit cd (next x.1 a) (out,todo)):=by
 simp only[search,List.getLast?_append,List.getLast?_singleton,Option.some_or,h,List.dropLast_concat]
variable {l:List Int}{out:List Int}{todo:List Nat}
theorem sY {cd:Lower.Code}{y:Int}{u d:Int} (h:out[y.toNat]? = some u) (hu:u<0) (hd:(cd[y.toNat]?).map Prod.snd=some d):visit cd (y::l) (out,todo)=visit cd l (out.set y.toNat d,todo++[y.toNat]):=by
 simp only[visit,h,hd,z7,hu,B6]
theorem sZ {cd:Lower.Code}{y:Int}{u:Int} (h:out[y.toNat]? = some u) (hu:¬u<0):visit cd (y::l) (out,todo)=visit cd l (out,todo):=by
 simp only[visit,h,z7,hu,A9]
def deepest (l:List Int) (d:Int):Int:=l.foldl max d
theorem pw (a:Int) (l:List Int) (d:Int):deepest (a::l) d=deepest l (max d a):=rfl
def dK (n:Nat):Nat→List (List Int)→Int→List Int×List Int×Int
 |_,[],w=>([],[],w)
 |k,o::l,w=>
   let b:=if k+1=n then w else w+1
   let r:=dK n (k+1) l (b+deepest o 0)
   (w::r.1,b::r.2.1,r.2.2)
structure Plan where
 depths:List (List Int)
 back:List Int
 base:List Int
 data:Int
def lx (w:Int) (fs:List Src.CFn):Plan:=
 let ds:=fs.map fun x=>iX (codeOf x.word x.body)
 let r:=dK fs.length 0 ds w
 ⟨ds,r.1,r.2.1,r.2.2⟩
theorem xE (n:Nat):∀(l:List (List Int)) (k:Nat) (w:Int) (o:List Int),dK n k (l++[o]) w =
  let r:=dK n k l w
  let b:=if k+l.length+1=n then r.2.2 else r.2.2+1
  (r.1++[r.2.2],r.2.1++[b],b+deepest o 0)
 |[],k,w,o=>by simp[dK]
 |a::l,k,w,o=>by
   simp only[A2,dK,xE n l,j6]
   rw[show k+1+l.length+1=k+(l.length+1)+1 by omega]
theorem ta (n:Nat):∀(l:List (List Int)) (k:Nat) (w:Int),(dK n k l w).1.length=l.length∧(dK n k l w).2.1.length=l.length
 |[],k,w=>by simp[dK]
 |a::l,k,w=>by
   simp only[dK,j6]
   exact⟨by rw[(ta n l _ _).1],by rw[(ta n l _ _).2]⟩
abbrev MI:=Int×Int×Int×Int
abbrev Ho:=Int×Int×Int
structure Wr where
 code:List MI
 holes:List Ho
def ei:Nat→Wr:=fun _=>⟨[],[]⟩
def aj (op a b c:Int):Nat→Wr:=fun _=>⟨[(op,a,b,c)],[]⟩
def al (op a f pl:Int):Nat→Wr:=fun n=>⟨[(op,a,0,0)],[((n:Int),f,pl)]⟩
def am (x y:Nat→Wr):Nat→Wr:=fun n=>⟨(x n).code++(y (n+(x n).code.length)).code,(x n).holes++(y (n+(x n).code.length)).holes⟩
def qn:List (Nat→Wr)→Nat→Wr
 |[]=>ei
 |[x]=>x
 |x::y::l=>am x (qn (y::l))
def jL (P:Plan) (f:Nat) (dp reg below:Int):Nat→Wr:=aj 16 reg 0 ((P.base[f]?).getD 0+dp-below)
def ks (P:Plan) (f:Nat) (dp reg below:Int):Nat→Wr:=aj 17 reg 0 ((P.base[f]?).getD 0+dp-below)
def hi16 (n:Int):Int:=(n/65536+9223372036854775808)%18446744073709551616-9223372036854775808
def px (reg n:Int):Nat→Wr:=if 65535<n then am (aj 1 reg 0 (n%65536)) (aj 2 reg 0 (hi16 n)) else aj 1 reg 0 (n%65536)
def tc (fs:List Src.CFn) (P:Plan) (f:Nat) (dp:Int):Nat→Wr:=
 if f+1=fs.length then aj 26 0 0 0
 else
  let back:=am (aj 16 14 0 ((P.back[f]?).getD 0)) (aj 22 14 0 0)
  if ((fs[f]?).map (·.word)).getD false then am (jL P f dp 1 1) back else back
def td (a:Int):Nat→Nat→Wr
 |0=>ei
 |k+1=>am (td a k) (aj 17 0 0 (a+k))
def qp (a b:Int):Nat→Wr:=
 if b-a≤6 then td a (b-a).toNat
 else fun n=>⟨[(1,1,0,a),(1,2,0,b),(17,0,1,0),(4,1,1,15),(14,3,1,2),(20,3,0,(n:Int)+2)],[]⟩
def Bm (P:Plan) (f:Nat) (dp params first:Int):Nat→Nat→Wr
 |0=>ei
 |k+1=>am (Bm P f dp params first k) (am (jL P f dp 1 (params-k)) (aj 17 1 0 (first+k)))
def xF (fs:List Src.CFn) (P:Plan) (f:Nat) (dp a:Int):Nat→Wr:=
 match fs[a.toNat]? with
 |none=>ei
 |some y=>am (Bm P f dp y.params y.first y.params.toNat) (am (al 21 14 a (-1)) (if y.word then ks P f dp 1 y.params else ei))
def rV (fs:List Src.CFn) (P:Plan) (f:Nat) (dp:Int) (x:Ins):Nat→Wr:=
 if x.op=1 then am (px 1 x.n) (ks P f dp 1 0)
 else if x.op=2 then am (aj 16 1 0 x.a) (ks P f dp 1 0)
 else if x.op=3 then am (jL P f dp 1 1) (aj 17 1 0 x.a)
 else if x.op=4 then am (jL P f dp 1 1) (am (aj 25 1 0 x.b) (am (aj 16 1 1 x.a) (ks P f dp 1 1)))
 else if x.op=5 then am (jL P f dp 1 2) (am (aj 25 1 0 x.b) (am (jL P f dp 2 1) (aj 17 2 1 x.a)))
 else if x.op=6 then am (jL P f dp 1 2) (am (jL P f dp 2 1) (am (aj x.a 1 1 2) (ks P f dp 1 2)))
 else if x.op=7 then am (jL P f dp 1 1) (am (aj 15 1 1 0) (ks P f dp 1 1))
 else if x.op=8 then al 18 0 f x.a
 else if x.op=9 then am (jL P f dp 1 1) (al 19 1 f x.a)
 else if x.op=10 then xF fs P f dp x.a
 else if x.op=11 then tc fs P f dp
 else if x.op=12 then am (aj 23 1 0 0) (ks P f dp 1 0)
 else if x.op=13 then am (jL P f dp 1 1) (aj 24 1 0 0)
 else ei
def xG (fs:List Src.CFn) (P:Plan) (f:Nat):Nat→Wr:=
 if f+1=fs.length then ei
 else match fs[f]? with
  |none=>ei
  |some y=>am (aj 17 14 0 ((P.back[f]?).getD 0)) (qp (y.first+y.params) (y.first+y.slots))
def kf (fs:List Src.CFn) (P:Plan) (f:Nat) (cd:Lower.Code) (ds:List Int):Nat→Nat→Wr
 |0=>xG fs P f
 | k+1=>am (kf fs P f cd ds k) (match cd[k]?,ds[k]? with
   |some x,some d=>if 0≤d then rV fs P f d x.1 else ei
   | _,_=>ei)
def placesOf (fs:List Src.CFn) (P:Plan) (f:Nat) (cd:Lower.Code) (ds:List Int) (n:Nat):List Int:=
 (List.range cd.length).map fun k=>((n+(kf fs P f cd ds k n).code.length:Nat):Int)
structure fB where
 code:List MI
 holes:List Ho
 ent:List Int
 pls:List (List Int)
def dW (fs:List Src.CFn) (P:Plan) (d:fB) (f:Nat):fB:=
 match fs[f]?,P.depths[f]? with
 |some y,some ds=>
   let cd:=codeOf y.word y.body
   let w:=kf fs P f cd ds cd.length d.code.length
   ⟨d.code++w.code,d.holes++w.holes,d.ent.set f d.code.length,d.pls.set f (placesOf fs P f cd ds d.code.length)⟩
 |_,_=>d
def start (fs:List Src.CFn) (P:Plan):fB:=dW fs P ⟨[(1,15,0,1)],[],List.replicate fs.length 0,List.replicate fs.length []⟩ (fs.length-1)
def uH (fs:List Src.CFn) (P:Plan):Nat→fB
 |0=>start fs P
 |k+1=>dW fs P (uH fs P k) k
def whole (fs:List Src.CFn) (P:Plan):fB:=uH fs P (fs.length-1)
def place (d:fB) (h:Ho):Int:=if 0≤h.2.2 then(((d.pls[h.2.1.toNat]?).getD [])[h.2.2.toNat]?).getD 0 else(d.ent[h.2.1.toNat]?).getD 0
def fill (d:fB) (code:List MI) (h:Ho):List MI:=
 match code[h.1.toNat]? with
 |some x=>code.set h.1.toNat (x.1,x.2.1,x.2.2.1,place d h)
 |none=>code
def filled (d:fB):List MI:=d.holes.foldl (fill d) d.code
end
end
end Go.Emit

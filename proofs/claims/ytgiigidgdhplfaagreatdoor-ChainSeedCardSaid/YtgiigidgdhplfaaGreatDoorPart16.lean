/- A part of the proof; no conditions. -/
import Derived.Test.YtgiigidgdhplfaaGreatDoorPart15
set_option linter.unusedSimpArgs false
set_option linter.unusedVariables false
set_option maxHeartbeats 64000000
set_option maxRecDepth 100000
namespace Go.Proofs.YtgiigidgdhplfaaGreatDoor
section
attribute [local congr] Go.Am.ite_cc
open Go Go.Am Go.Asm
open Go.Src (Ex Stm szE bF szS bu Pl iw cP fA dm coreS cQ jH jI)
section
mutual
def cxD:Lower.Ex→List D
 |.mk kind op num slot size kids=>[.int .i64 kind,.int .i64 op,.int .u32 num,.int .i64 slot,.int .i64 size,.sl (vA kids)]
def vA:List Lower.Ex→List (List D)
 |[]=>[]
 |e::l=>cxD e::vA l
end
theorem mn:∀l:List Lower.Ex,vA l=l.map cxD
 |[]=>by simp[vA]
 |e::l=>by simp[vA,mn l]
theorem AC (e:Lower.Ex):(cxD e).length=6:=by cases e;simp[cxD]
mutual
def csD:Lower.Stm→List D
 |.mk kind slot size e th el=>[.int .i64 kind,.int .i64 slot,.int .i64 size,.sl (vA e),.sl (nB th),.sl (nB el)]
def nB:List Lower.Stm→List (List D)
 |[]=>[]
 |e::l=>csD e::nB l
end
theorem mq:∀l:List Lower.Stm,nB l=l.map csD
 |[]=>by simp[nB]
 |e::l=>by simp[nB,mq l]
theorem AD (e:Lower.Stm):(csD e).length=6:=by cases e;simp[csD]
def tq (l:List Lower.Ex):AV:=.one (.d (.sl (l.map cxD)))
def pu (l:List Lower.Stm):AV:=.one (.d (.sl (l.map csD)))
def plD (t:Int×Int):List D:=[.int .i64 t.1,.int .i64 t.2]
def oz (M:List C) (m:Pl):Prop:=∀s:Str,mget M (.str s)=(iw m s).map fun t=>.d (.iptr (plD t))
theorem oz.put {M:List C}{m:Pl} (h:oz M m) (nm:Str) (t:Int×Int):oz (mset M (.str nm) (.d (.iptr (plD t)))) ((nm,t)::m):=fun s=>by
 rw[mG]
 simp only[iV,iw]
 by_cases hs:nm=s
 ·subst hs
  simp
 ·simp only[hs,L8,B8,A4]
  exact h s
structure EC (lo li:Pl) (io ii go gi:Nat) (g:Nat→Nat) (ob:Obs):Prop where
 mo:∃M,ob io=some M∧oz M lo
 mi:∃M,ob ii=some M∧oz M li
 go:g io=go
 gi:g ii=gi
theorem EC.mono {lo li:Pl}{io ii go gi B:Nat}{g g':Nat→Nat}{ob ob':Obs} (h:EC lo li io ii go gi g ob) (ho:io<B) (hi:ii<B) (hs:∀i,i<B→g' i=g i∧ob' i=ob i):EC lo li io ii go gi g' ob' where
 mo:=by rw[(hs io ho).2];exact h.mo
 mi:=by rw[(hs ii hi).2];exact h.mi
 go:=by rw[(hs io ho).1];exact h.go
 gi:=by rw[(hs ii hi).1];exact h.gi
def qy (io ii go gi:Nat):AV:=.agg [.mp io go 208,.mp ii gi 208]
def AE (lo li:Pl) (io ii go gi:Nat) (f:FuncId) (xs:List AV) (r:AV):Prop:=∀(B:Nat) (g:Nat→Nat) (ob:Obs),io<B→ii<B→(∀i,B≤i→ob i=none)→EC lo li io ii go gi g ob→
 cB Tryz.prog f (qy io ii go gi::xs) g ob (fun r' g' ob'=>g'=g∧ob'=ob∧r'=r) (fun _ _ _=>False)
section
variable {b₀:Bs}{rd:Option Nat}{Φ:St→Am.Loc→List Deferred→World→Prop}
theorem nC {Ψ:fj}{B0:Nat} (hΦ:aQ b₀ Φ) {o:Oper}{s:St}{K:St→Prop}{k:Box K}{f:FuncId}{args:Array Operand}{tys:Array TypeId} (ho:o.op=.call ⟨.value (.func f),args,tys⟩) {xs:List AV}{r:AV}{lo li:Pl}{io ii go gi:Nat}
  (hr:AE lo li io ii go gi f xs r) (hx:args.toList.map s.ev=qy io ii go gi::xs) (Bc:Nat) (h1:io<Bc) (h2:ii<Bc) (hfree:∀i,Bc≤i→s.obj i=none) (E:EC lo li io ii go gi s.gen s.obj) (hk:K (s.put o.dst r)):aR (spF Tryz.prog rd b₀ Φ B0 Ψ) o s k:=by
 refine bq (R:=fun r' g' ob'=>g'=s.gen∧ob'=s.obj∧r'=r) (Ψ0:=fun _ _ _=>False) hΦ ho (by rw[hx];exact hr Bc s.gen s.obj h1 h2 hfree E) (fun _ _ _ h=>h.elim) ?_
 rintro _ g' ob' ⟨rfl,rfl,rfl⟩
 exact hk
end
section
variable {lo li:Pl}{io ii go gi:Nat}
theorem ED (nm:Str):AE lo li io ii go gi 96 [sv nm] (.agg ((plD (cP lo li nm)).map .d)):=by
 intro B g ob h1 h2 hB E
 obtain⟨⟨Mo,oo,mo⟩,⟨Mi,oi,mi⟩,hgo,hgi⟩:=E
 unfold qy
 refine hdM B [] Tryz.func96 rfl [.cell 4 140] a7 hB fun b₀ β0 s0 w0=>?_
 have n1:∀k,(io=B+k)=False:=fun k=>by simp;omega
 have n2:∀k,(ii=B+k)=False:=fun k=>by simp;omega
 have mi1:=mi nm
 have mo1:=mo nm
 unfold cP
 cases hfi:iw li nm with
 |some t=>
   rw[hfi] at mi1
   simp only[x8,plD] at mi1
   simp only[go_sem,n1,n2,hgi,oi,C8,B3,mi1]
   exact Wy
 |none=>
   rw[hfi] at mi1
   simp only[G7] at mi1
   cases hfo:iw lo nm with
   |some t=>
     rw[hfo] at mo1
     simp only[x8,plD] at mo1
     simp only[go_sem,n1,n2,hgi,hgo,oi,C8,B3,mi1,oo,mo1]
     exact Wy
   |none=>
     rw[hfo] at mo1
     simp only[G7] at mo1
     simp only[go_sem,n1,n2,hgi,hgo,oi,C8,B3,mi1,oo,mo1]
     refine⟨_,ab.refl _,?_⟩
     simp only[go_sem,n1,n2]
     exact aT.nil (fun i hi=>⟨nu,nu⟩) (rs':=[.agg ((plD (0,0)).map .d)]) ⟨_,_,rfl,BK (plD (0,0)),rfl⟩ ⟨rfl,rfl,rfl⟩
def cxC (l:List Lower.Ex):List C:=l.flatMap fun a=>(cxD a).map .d
theorem HV (l:List Lower.Ex):(cxC l).length=l.length*6:=by
 induction l with
 |nil=>rfl
 |cons a l ih=>simp only[cxC,B4,j4,j5,AC,j6] at ih ⊢;omega
theorem HW (l m:List Lower.Ex):cxC (l++m)=cxC l++cxC m:=by simp[cxC]
theorem HX (e:Lower.Ex):cxC [e]=(cxD e).map .d:=by simp[cxC]
def csC (l:List Lower.Stm):List C:=l.flatMap fun a=>(csD a).map .d
theorem HY (l:List Lower.Stm):(csC l).length=l.length*6:=by
 induction l with
 |nil=>rfl
 |cons a l ih=>simp only[csC,B4,j4,j5,AD,j6] at ih ⊢;omega
theorem HZ (l m:List Lower.Stm):csC (l++m)=csC l++csC m:=by simp[csC]
theorem Ia (e:Lower.Stm):csC [e]=(csD e).map .d:=by simp[csC]
theorem ub {α β:Type}{f:α→β}{l:List α}{k:Nat}{x:α} (h:l[k]? = some x):(l.take (k+1)).map f=(l.take k).map f++[f x]:=by
 rw[A2,h,I1,A3];rfl
theorem Ib:∀(N:Nat) (l:List Ex),bF l≤N→N≤1000000000→AE lo li io ii go gi 97 [jd l] (tq (dm lo li l)):=by
 intro N
 induction N using Nat.strongRecOn with
 |ind N ih=>
 intro l hszl hN B g ob h1 h2 hB E
 rw[jH]
 unfold qy
 refine hdM B [] Tryz.func97 rfl [.tmp 4] a7 hB fun b₀ β0 s0 w0=>?_
 have hll:=Src.FZ l
 unfold jd
 simp only[go_sem,j5]
 refine ml _ (zG (t:=5) (id:=B+36) (sz:=6) XP) (fun m st=>∃k:Nat,m+k=l.length∧st.f 2=.one (.ptr (B+2) (st.gen (B+2)) 0)∧st.f 5=.one (.osl (B+36) (st.gen (B+36)) 6 0 k)∧st.f 9=.one (.d (.sl (l.map exD)))∧st.f 10=iv .i64 l.length∧st.f 11=iv .i64 k∧
   st.obj (B+2)=some [.mp io go 208,.mp ii gi 208]∧st.obj (B+36)=some (cxC ((l.take k).map (fA lo li)))∧(∀j,j<B→st.gen j=g j∧st.obj j=ob j)∧(∀j,B+39≤j→st.obj j=none)) l.length ?_ ?_
 ·exact W3
 rintro m f g1 ob1 ⟨k,hk,q2,q5,q9,q10,q11,o2,o36,fr,hfr⟩
 simp only at q2 q5 q9 q10 q11 o2 o36 fr hfr
 have hw:=ah (k:=k) a6
 by_cases hlt:k<l.length
 case neg=>
  have hki:¬(k:Int)<(l.length:Int):=a6
  obtain rfl:k=l.length:=a6
  rw[l5 (l0 _)] at o36
  simp only[go_sem,q5,q10,q11,hki]
  refine⟨_,ab.refl _,?_⟩
  simp only[go_sem,q5]
  exact aT.nil fr (rs':=[tq (l.map (fA lo li))]) ⟨_,_,rfl,.one (ep a6 rfl (l.map (fA lo li)) cxD o36 rfl (fun a _=>AC a) (by rw[j5])),rfl⟩ ⟨rfl,rfl,rfl⟩
 have hki:(k:Int)<(l.length:Int):=a6
 have hk0:(0:Int)≤(k:Int):=a6
 obtain⟨e,he⟩:=getq hlt
 have hsze:=Src.Jq (l6 he)
 obtain⟨kind,op,num,name,kids⟩:=e
 rw[szE] at hsze
 have hE:exD (.mk kind op num name kids)=[.int .i64 kind,.int .i64 op,.int .u32 num,.str name,.sl (kids.map exD)]:=by simp only[exD,aZ]
 have hih:=ih (bF kids) a6 kids (l0 _) a6
 simp only[go_sem,q2,q5,q9,q10,q11,o2,hki,hk0,he,hE]
 refine nC aa rfl (ED name) (by simp only[go_sem,qy]) (B+39) a6 a6 (fun i hi=>nt (hfr i a6)) ((E.mono h1 h2 fr).mono h1 h2 fun i hi=>⟨nu,nu⟩) ?_
 obtain⟨ps,hps⟩:∃x,cP lo li name=x:=⟨_,rfl⟩
 rw[hps]
 have hce:fA lo li (.mk kind op num name kids)=.mk kind op num ps.1 ps.2 (dm lo li kids):=by rw[fA,hps]
 unfold plD
 simp only[go_sem]
 refine fP aB mixed aa [B+35,B+36] [([5],[0],[],false),([7],[],[],false),([20],[],[],false),([7],[],[],false),([22],[],[],false),([7],[],[],false),([24],[],[],false),([8],[],[],false),([26],[],[],false),([8],[],[],false),([28],[],[],false),([2],[],[],false),([7],[],[],false),([31],[],[],false),([30,32],[],[],false),([21,23,25,27,29,33],[],[],false),([34],[],[0],false),([19,35],[],[1],false),([36],[],[],true)] 2 rfl b9 rfl a7 ?_
 simp only[go_sem]
 iterate 10 (apply aI;(case hg=>first|exact x6|exact⟨_,rfl,by decide,rfl⟩);(case h1=>intro fa ga oa K' hK;simp only[go_sem,q2,q5,o2] at hK ⊢;exact hK))
 iterate 4 (apply aI;(case hg=>first|exact x6|exact⟨_,rfl,by decide,rfl⟩);(case h1=>intro fa ga oa K' hK;simp only[go_sem,q2,q5,o2] at hK ⊢;exact hK))
 apply aI (v:=tq (dm lo li kids))
 case hg=>exact x6
 case h1=>
  intro fa ga oa K' hK
  simp only[go_sem,tq] at hK ⊢
  refine nC aa rfl hih YE (B+39) a6 a6 (fun i hi=>nt (hfr i a6)) ((E.mono h1 h2 fr).mono h1 h2 fun i hi=>⟨nu,nu⟩) ?_
  unfold tq
  exact V2
 (apply aI;(case hg=>first|exact x6|exact⟨_,rfl,by decide,rfl⟩);(case h1=>intro fa ga oa K' hK;simp only[go_sem,tq] at hK ⊢;exact hK))
 (apply dy;(case hg=>first|exact x6|exact⟨_,rfl,by decide,rfl⟩);(case h1=>intro fa ga oa K' hK;simp only[go_sem,aC] at hK ⊢;exact hK))
 have hcl:=HV ((l.take k).map (fA lo li))
 have htl:((l.take k).map (fA lo li)).length=k:=by rw[j5,A8];omega
 rw[htl] at hcl
 refine dy (a:=1) (v:=.one (.osl (B+36) (nxC (apC 245 (g1 (B+36)) 0) (g1 (B+36))) 6 0 (k+1))) (x:=nxC (apC 245 (g1 (B+36)) 0) (g1 (B+36))) (y:=some (cxC ((l.take k).map (fA lo li)++[fA lo li (.mk kind op num name kids)]))) x6 (fun fa ga oa K' hK=>?_) ?_
 ·have e1:List.take (k*6) (cxC ((l.take k).map (fA lo li)))++(cxD (fA lo li (.mk kind op num name kids))).map .d=cxC ((l.take k).map (fA lo li)++[fA lo li (.mk kind op num name kids)]):=by
   rw[l5 a6,HW,HX]
  rw[hce] at e1
  simp only[cxD,mn,l7,v8] at e1
  rw[hce] at hK
  simp only[go_sem,aC,o36,hcl] at hK ⊢
  exact W7
 exact V5
end
end
section
section
variable {lo li:Pl}{io ii go gi:Nat}
theorem Ic:∀(N:Nat) (l:List Stm),bu l≤N→N≤1000000000→AE lo li io ii go gi 68 [jy l] (pu (cQ lo li l)):=by
 intro N
 induction N using Nat.strongRecOn with
 |ind N ih=>
 intro l hszl hN B g ob h1 h2 hB E
 rw[jI]
 unfold qy
 refine hdM B [] Tryz.func68 rfl [.tmp 4] a7 hB fun b₀ β0 s0 w0=>?_
 have hll:=Src.Ga l
 unfold jy
 simp only[go_sem,j5]
 refine ml _ (zG (t:=5) (id:=B+40) (sz:=6) XP) (fun m st=>∃k:Nat,m+k=l.length∧st.f 2=.one (.ptr (B+2) (st.gen (B+2)) 0)∧st.f 5=.one (.osl (B+40) (st.gen (B+40)) 6 0 k)∧st.f 9=.one (.d (.sl (l.map smD)))∧st.f 10=iv .i64 l.length∧st.f 11=iv .i64 k∧
   st.obj (B+2)=some [.mp io go 208,.mp ii gi 208]∧st.obj (B+40)=some (csC ((l.take k).map (coreS lo li)))∧(∀j,j<B→st.gen j=g j∧st.obj j=ob j)∧(∀j,B+43≤j→st.obj j=none)) l.length ?_ ?_
 ·exact W3
 rintro m f g1 ob1 ⟨k,hk,q2,q5,q9,q10,q11,o2,o36,fr,hfr⟩
 simp only at q2 q5 q9 q10 q11 o2 o36 fr hfr
 have hw:=ah (k:=k) a6
 by_cases hlt:k<l.length
 case neg=>
  have hki:¬(k:Int)<(l.length:Int):=a6
  obtain rfl:k=l.length:=a6
  rw[l5 (l0 _)] at o36
  simp only[go_sem,q5,q10,q11,hki]
  refine⟨_,ab.refl _,?_⟩
  simp only[go_sem,q5]
  exact aT.nil fr (rs':=[pu (l.map (coreS lo li))]) ⟨_,_,rfl,.one (ep a6 rfl (l.map (coreS lo li)) csD o36 rfl (fun a _=>AD a) (by rw[j5])),rfl⟩ ⟨rfl,rfl,rfl⟩
 have hki:(k:Int)<(l.length:Int):=a6
 have hk0:(0:Int)≤(k:Int):=a6
 obtain⟨e,he⟩:=getq hlt
 have hsze:=Src.Jr (l6 he)
 obtain⟨kind,name,es,th,el⟩:=e
 rw[szS] at hsze
 have hE:smD (.mk kind name es th el)=[.int .i64 kind,.str name,.sl (es.map exD),.sl (th.map smD),.sl (el.map smD)]:=by simp only[smD,aZ,ft]
 have hth:=ih (bu th) a6 th (l0 _) a6
 have hel:=ih (bu el) a6 el (l0 _) a6
 have hes:=Ib (lo:=lo) (li:=li) (io:=io) (ii:=ii) (go:=go) (gi:=gi) (bF es) es (l0 _) a6
 simp only[go_sem,q2,q5,q9,q10,q11,o2,hki,hk0,he,hE]
 refine nC aa rfl (ED name) (by simp only[go_sem,qy]) (B+43) a6 a6 (fun i hi=>nt (hfr i a6)) ((E.mono h1 h2 fr).mono h1 h2 fun i hi=>⟨nu,nu⟩) ?_
 obtain⟨ps,hps⟩:∃x,cP lo li name=x:=⟨_,rfl⟩
 rw[hps]
 have hce:coreS lo li (.mk kind name es th el)=.mk kind ps.1 ps.2 (dm lo li es) (cQ lo li th) (cQ lo li el):=by rw[coreS,hps]
 unfold plD
 simp only[go_sem]
 refine fP aB mixed aa [B+39,B+40] [([5],[0],[],false),([7],[],[],false),([20],[],[],false),([8],[],[],false),([22],[],[],false),([8],[],[],false),([24],[],[],false),([2],[],[],false),([7],[],[],false),([27],[],[],false),([26,28],[],[],false),([2],[],[],false),([7],[],[],false),([31],[],[],false),([30,32],[],[],false),([2],[],[],false),([7],[],[],false),([35],[],[],false),([34,36],[],[],false),([21,23,25,29,33,37],[],[],false),([38],[],[0],false),([19,39],[],[1],false),([40],[],[],true)] 2 rfl b9 rfl a7 ?_
 simp only[go_sem]
 iterate 10 (apply aI;(case hg=>first|exact x6|exact⟨_,rfl,by decide,rfl⟩);(case h1=>intro fa ga oa K' hK;simp only[go_sem,q2,q5,o2] at hK ⊢;exact hK))
 apply aI (v:=tq (dm lo li es))
 case hg=>exact x6
 case h1=>
  intro fa ga oa K' hK
  simp only[go_sem,tq] at hK ⊢
  refine nC aa rfl hes YE (B+43) a6 a6 (fun i hi=>nt (hfr i a6)) ((E.mono h1 h2 fr).mono h1 h2 fun i hi=>⟨nu,nu⟩) ?_
  unfold tq
  exact V2
 iterate 3 (apply aI;(case hg=>first|exact x6|exact⟨_,rfl,by decide,rfl⟩);(case h1=>intro fa ga oa K' hK;simp only[go_sem,q2,q5,o2] at hK ⊢;exact hK))
 apply aI (v:=pu (cQ lo li th))
 case hg=>exact x6
 case h1=>
  intro fa ga oa K' hK
  simp only[go_sem,pu] at hK ⊢
  refine nC aa rfl hth YE (B+43) a6 a6 (fun i hi=>nt (hfr i a6)) ((E.mono h1 h2 fr).mono h1 h2 fun i hi=>⟨nu,nu⟩) ?_
  unfold pu
  exact V2
 iterate 3 (apply aI;(case hg=>first|exact x6|exact⟨_,rfl,by decide,rfl⟩);(case h1=>intro fa ga oa K' hK;simp only[go_sem,q2,q5,o2] at hK ⊢;exact hK))
 apply aI (v:=pu (cQ lo li el))
 case hg=>exact x6
 case h1=>
  intro fa ga oa K' hK
  simp only[go_sem,pu] at hK ⊢
  refine nC aa rfl hel YE (B+43) a6 a6 (fun i hi=>nt (hfr i a6)) ((E.mono h1 h2 fr).mono h1 h2 fun i hi=>⟨nu,nu⟩) ?_
  unfold pu
  exact V2
 (apply aI;(case hg=>first|exact x6|exact⟨_,rfl,by decide,rfl⟩);(case h1=>intro fa ga oa K' hK;simp only[go_sem,tq,pu] at hK ⊢;exact hK))
 (apply dy;(case hg=>first|exact x6|exact⟨_,rfl,by decide,rfl⟩);(case h1=>intro fa ga oa K' hK;simp only[go_sem,aC] at hK ⊢;exact hK))
 have hcl:=HY ((l.take k).map (coreS lo li))
 have htl:((l.take k).map (coreS lo li)).length=k:=by rw[j5,A8];omega
 rw[htl] at hcl
 refine dy (a:=1) (v:=.one (.osl (B+40) (nxC (apC 189 (g1 (B+40)) 0) (g1 (B+40))) 6 0 (k+1))) (x:=nxC (apC 189 (g1 (B+40)) 0) (g1 (B+40))) (y:=some (csC ((l.take k).map (coreS lo li)++[coreS lo li (.mk kind name es th el)]))) x6 (fun fa ga oa K' hK=>?_) ?_
 ·have e1:List.take (k*6) (csC ((l.take k).map (coreS lo li)))++(csD (coreS lo li (.mk kind name es th el))).map .d=csC ((l.take k).map (coreS lo li)++[coreS lo li (.mk kind name es th el)]):=by
   rw[l5 a6,HZ,Ia]
  rw[hce] at e1
  simp only[csD,mn,mq,l7,v8] at e1
  rw[hce] at hK
  simp only[go_sem,aC,o36,hcl] at hK ⊢
  exact W7
 exact V5
end
end
end
section
attribute [local congr] Go.Am.ite_cc
open Go Go.Am Go.Asm
open Go.Src (Ex Stm szE bF szS bu Pl iw cP gV gA gF aP lP)
theorem dropq {α:Type}{l:List α}{k:Nat}{x:α} (h:l[k]? = some x):l.drop k=x::l.drop (k+1):=by
 have hlt:=(l4.1 h).1
 rw[A0 hlt,(l4.1 h).2]
theorem BO {g:Nat→Nat}{ob:Obs}{p:Src.Prog} (hsz:szP p≤1000000) (har:∀a∈p.arrays,0≤a.2∧a.2≤4096) :
  cB Tryz.prog 67 [eF p] g ob (fun r g' ob'=>r=.tup [.one (.mp 1012 (g' 1012) 208),iv .i64 (aP p).2]∧(0≤(aP p).2∧(aP p).2≤1000000+4096*1000000)∧(∃M,ob' 1012=some M∧oz M (aP p).1)∧∀i,i<1000∨1100≤i→g' i=g i∧ob' i=ob i) (fun _ _ _=>False):=by
 refine hdX 1000 Tryz.func67 rfl [.tmp 2,.tmp 3] fun b₀ β0 s0 w0=>?_
 obtain⟨vs,ars,fs⟩:=p
 unfold szP at hsz
 simp only at hsz har
 obtain⟨Lm,Lw⟩:∃L,aP ⟨vs,ars,fs⟩=L:=⟨_,rfl⟩
 obtain⟨L,hL⟩:∃L,aP ⟨vs,ars,fs⟩=L:=⟨_,rfl⟩
 rw[hL]
 unfold aP at hL
 simp only at hL
 unfold eF iX
 simp only[go_sem,j5]
 refine ai (fun m st=>∃(k:Nat) (pm:Pl) (w:Int),m+k=vs.length∧gV (vs.drop k) pm w=gV vs [] 0∧0≤w∧w≤k∧st.f 1=.one (.ptr 1001 (st.gen 1001) 0)∧st.f 4=.one (.mp 1012 (st.gen 1012) 208)∧st.f 5=iv .i64 w∧st.obj 1001=some (gw ⟨vs,ars,fs⟩)∧(∃M,st.obj 1012=some M∧oz M pm)∧st.f 14=.one (.d (.sl (vs.map fun s=>[.str s])))∧st.f 15=iv .i64 vs.length∧st.f 16=iv .i64 k∧
   ∀i,i<1000∨1100≤i→st.gen i=g i∧st.obj i=ob i) vs.length ?_ ?_
 ·refine⟨0,[],0,rfl,by rw[C1],a6,a6,?_⟩
  simp only[go_sem]
  exact⟨rfl,⟨[],rfl,fun s=>rfl⟩,fun i hi=>⟨nu,nu⟩⟩
 rintro m f g1 ob1 ⟨k,pm,w,hk,hgv,hw0,hw1,q1,q4,q5,o1,⟨M,oM,mM⟩,q14,q15,q16,fr⟩
 simp only at q1 q4 q5 o1 oM q14 q15 q16 fr
 have hw:=ah (k:=k) a6
 by_cases hlt:k<vs.length
 ·have hki:(k:Int)<(vs.length:Int):=a6
  have hk0:(0:Int)≤(k:Int):=a6
  have hww:IntKind.i64.wrap (w+1)=w+1:=by rw[wrap_i64] <;> omega
  obtain⟨v,he⟩:=getq hlt
  rw[dropq he,gV] at hgv
  have hput:=mM.put v (w,0)
  unfold plD at hput
  simp only[go_sem,q4,q5,q14,q15,q16,hki,hk0,he,oM,hww,hw]
  refine ae (m-1) a6 ⟨k+1,_,_,a6,hgv,a6,a6,?_⟩
  simp only[go_sem,q1,q4,q14,q15,o1]
  exact⟨⟨_,rfl,hput⟩,fun i hi=>⟨(fr i hi).1,nt ((fr i hi).2)⟩⟩
 have hki:¬(k:Int)<(vs.length:Int):=a6
 obtain rfl:k=vs.length:=a6
 rw[E3,gV] at hgv
 rw[←hgv] at hL
 simp only at hL
 have o1':=o1
 unfold gw iX at o1
 simp only[l7,v8] at o1
 simp only[go_sem,q1,o1,q15,q16,hki,j5]
 refine ai (fun m st=>∃(k:Nat) (pm2:Pl) (w2:Int),m+k=ars.length∧gA (ars.drop k) pm2 w2=gA ars pm w∧0≤w2∧w2≤1000000+4096*k∧st.f 1=.one (.ptr 1001 (st.gen 1001) 0)∧st.f 4=.one (.mp 1012 (st.gen 1012) 208)∧st.f 5=iv .i64 w2∧st.obj 1001=some (gw ⟨vs,ars,fs⟩)∧(∃M,st.obj 1012=some M∧oz M pm2)∧st.f 28=.one (.d (.sl (ars.map arD)))∧st.f 29=iv .i64 ars.length∧st.f 30=iv .i64 k∧
   ∀i,i<1000∨1100≤i→st.gen i=g i∧st.obj i=ob i) ars.length ?_ ?_
 ·refine⟨0,pm,w,rfl,by rw[C1],hw0,a6,?_⟩
  simp only[go_sem,q1,q4,q5,o1]
  exact⟨rfl,⟨M,oM,mM⟩,fr⟩
 clear q1 q4 q5 o1 o1' oM q14 q15 q16 fr mM M hw hlt hki hk hw0 hw1 hgv
 rintro m f g1 ob1 ⟨k,pm2,w2,hk,hgv,hw0,hw1,q1,q4,q5,o1,⟨M,oM,mM⟩,q14,q15,q16,fr⟩
 simp only at q1 q4 q5 o1 oM q14 q15 q16 fr
 have hw:=ah (k:=k) a6
 by_cases hlt:k<ars.length
 ·have hki:(k:Int)<(ars.length:Int):=a6
  have hk0:(0:Int)≤(k:Int):=a6
  obtain⟨⟨v,z⟩,he⟩:=getq hlt
  have hz:=har _ (l6 he)
  simp only at hz
  have hww:IntKind.i64.wrap (w2+z)=w2+z:=by rw[wrap_i64] <;> omega
  rw[dropq he,gA] at hgv
  simp only at hgv
  have hput:=mM.put v (w2,z)
  unfold plD at hput
  simp only[go_sem,q4,q5,q14,q15,q16,hki,hk0,he,arD,oM,hww,hw]
  refine ae (m-1) a6 ⟨k+1,_,_,a6,hgv,a6,a6,?_⟩
  simp only[go_sem,q1,q4,q14,q15,o1]
  exact⟨⟨_,rfl,hput⟩,fun i hi=>⟨nt ((fr i hi).1),nt ((fr i hi).2)⟩⟩
 have hki:¬(k:Int)<(ars.length:Int):=a6
 obtain rfl:k=ars.length:=a6
 rw[E3,gA] at hgv
 rw[←hgv] at hL
 simp only at hL
 have o1':=o1
 unfold gw iX at o1
 simp only[l7,v8] at o1
 simp only[go_sem,q1,o1,q15,q16,hki,j5]
 refine ai (fun m st=>∃(k:Nat) (pm3:Pl),m+k=fs.length∧gF k (fs.drop k) pm3=gF 0 fs pm2∧st.f 4=.one (.mp 1012 (st.gen 1012) 208)∧st.f 5=iv .i64 w2∧(∃M,st.obj 1012=some M∧oz M pm3)∧st.f 47=.one (.d (.sl (fs.map fnD)))∧st.f 48=iv .i64 fs.length∧st.f 49=iv .i64 k∧
   ∀i,i<1000∨1100≤i→st.gen i=g i∧st.obj i=ob i) fs.length ?_ ?_
 ·refine⟨0,pm2,rfl,by rw[C1],?_⟩
  simp only[go_sem,q4,q5]
  exact⟨⟨M,oM,mM⟩,fr⟩
 clear q1 q4 q5 o1 o1' oM q14 q15 q16 fr mM M hw hlt hki hk hgv
 rintro m f g1 ob1 ⟨k,pm3,hk,hgv,q4,q5,⟨M,oM,mM⟩,q14,q15,q16,fr⟩
 simp only at q4 q5 oM q14 q15 q16 fr
 have hw:=ah (k:=k) a6
 by_cases hlt:k<fs.length
 ·have hki:(k:Int)<(fs.length:Int):=a6
  have hk0:(0:Int)≤(k:Int):=a6
  obtain⟨x,he⟩:=getq hlt
  rw[dropq he,gF] at hgv
  have hput:=mM.put x.name ((k:Int),0)
  unfold plD at hput
  simp only[go_sem,q4,q5,q14,q15,q16,hki,hk0,he,fnD,oM,hw]
  refine ae (m-1) a6 ⟨k+1,_,a6,hgv,?_⟩
  simp only[go_sem,q4,q5,q14,q15]
  exact⟨⟨_,rfl,hput⟩,fun i hi=>⟨nt ((fr i hi).1),nt ((fr i hi).2)⟩⟩
 have hki:¬(k:Int)<(fs.length:Int):=a6
 obtain rfl:k=fs.length:=a6
 rw[E3,gF] at hgv
 rw[←hgv] at hL
 subst hL
 simp only[go_sem,q4,q5,q15,q16,hki]
 refine⟨_,ab.refl _,?_⟩
 simp only[go_sem]
 exact⟨rfl,⟨hw0,a6⟩,⟨M,oM,mM⟩,fr⟩
end
section
attribute [local congr] Go.Am.ite_cc
open Go Go.Am Go.Asm
open Go.Src (Ex Stm szE bF szS bu Pl iw cP gV gA gF aP lP CFn Core mF cX al gY cQ cC dS)
def cfD (x:CFn):List D:=[.int .i64 x.params,.int .i64 x.slots,.int .i64 x.first,.bool x.word,.sl (x.body.map csD)]
def nj (c:Core):AV:=.agg [.d (.int .i64 c.words),.d (.sl (c.funcs.map cfD))]
def cfC (l:List CFn):List C:=l.flatMap fun a=>(cfD a).map .d
theorem Ie (l:List CFn):(cfC l).length=l.length*5:=by
 induction l with
 |nil=>rfl
 |cons a l ih=>simp only[cfC,B4,j4,j5,cfD,j6,j7] at ih ⊢;omega
theorem If (l m:List CFn):cfC (l++m)=cfC l++cfC m:=by simp[cfC]
theorem Ig (e:CFn):cfC [e]=(cfD e).map .d:=by simp[cfC]
theorem Ma {o:bE} (ho:gK o) (p:Src.Prog) (hsz:szP p≤1000000):bi Tryz.prog 3 o 37 [eF p] (· = .tup [nj (gY p).1,iv .i64 ((gY p).2:Nat)]):=by
 refine hdG Tryz.func37 rfl [.cell 2 84,.tmp 3] fun b₀ β0 s0 w0 g=>?_
 have hpV:eF p=.agg [.d (.sl (p.vars.map fun s=>[.str s])),.d (.sl (p.arrays.map arD)),.d (.sl (p.funcs.map fnD))]:=rfl
 obtain⟨z,hz⟩:∃z,gY p=z:=⟨_,rfl⟩
 rw[hz]
 unfold gY at hz
 have hS:=HU ho p a6
 rw[hpV] at hS ⊢
 simp only[go_sem]
 refine cp rfl Y9 ?_
 rintro _ rfl
 by_cases hs:cC p=0
 case neg=>
  rw[if_pos hs] at hz
  subst hz
  have hs2:¬((cC p:Nat):Int)=0:=a6
  simp only[go_sem,hs2]
  exact⟨_,⟨_,⟨_,_,rfl,rT [.int .i64 0,.nsl],_,_,rfl,eN _,rfl⟩,rfl⟩,rfl⟩
 rw[if_neg (by simp[hs])] at hz
 have hr:dS p=true:=by
  unfold cC at hs
  split at hs
  ·cases hs
  ·rename_i h;simpa using h
 have har:∀a∈p.arrays,0≤a.2∧a.2≤4096:=by
  unfold dS at hr
  simp only[s9,x7] at hr
  intro a ha
  have:=hr.2.1 a ha
  unfold Src.fF at this
  simp at this
  omega
 simp only[go_sem,hs]
 refine bq ay rfl (by simp only[go_sem];rw[←hpV];exact BO hsz har) ?_ ?_
 ·exact Vm
 rintro r g1 ob1 ⟨rfl,⟨hw0,hw1⟩,⟨M,oM,mM⟩,fr⟩
 have e1:=fr 1 (.inl a8)
 have e2:=fr 2 (.inl a8)
 simp[upd] at e1 e2
 have hfr:∀j,1100≤j→ob1 j=none:=fun j hj=>by rw[(fr j (.inr a6)).2];(try simp only[upd]);(repeat rw[if_neg (by omega)])
 clear fr
 unfold al at hz
 obtain⟨om,hom⟩:∃x,(aP p).1=x:=⟨_,rfl⟩
 obtain⟨w0',hw0'⟩:∃x,(aP p).2=x:=⟨_,rfl⟩
 rw[hom,hw0'] at hz
 rw[hom] at mM
 rw[hw0'] at hw0 hw1 ⊢
 obtain⟨F,hF⟩:∃F,cX om p.funcs w0'=F:=⟨_,rfl⟩
 rw[hF] at hz
 unfold szP at hsz
 simp only[go_sem,e1.1,e1.2,j5]
 refine ml _ (cA (t:=7) (o:=7) (b:=95) (j:=1) (sz:=5) (off:=0) (cells:=[.d (.int .i64 0),.d .nsl]) XP XP rfl a8) (fun m st=>∃(k:Nat) (w:Int) (acc:List CFn),m+k=p.funcs.length∧(acc++(cX om (p.funcs.drop k) w).1,(cX om (p.funcs.drop k) w).2)=F∧acc.length=k∧0≤w∧w≤5000000000+1000000*k∧st.f 2=.one (.ptr 2 (st.gen 2) 0)∧st.f 5=.one (.mp 1012 (st.gen 1012) 208)∧st.f 7=.one (.ptr 7 (st.gen 7) 0)∧st.f 28=.one (.d (.sl (p.funcs.map fnD)))∧st.f 29=iv .i64 p.funcs.length∧st.f 30=iv .i64 k∧st.f 6=iv .i64 w∧st.obj 2=some [.d (.int .i64 0),.d .nsl]∧st.obj 7=some [.d (.int .i64 0),.osl 95 (st.gen 95) 5 0 acc.length]∧st.obj 95=some (cfC acc)∧(∃M,st.obj 1012=some M∧oz M om)∧(∀j,1100≤j→st.obj j=none)) p.funcs.length ?_ ?_
 ·refine⟨0,w0',[],rfl,by rw[C1];exact hF,rfl,hw0,a6,?_⟩
  simp only[St.claimAt]
  simp only[go_sem,e2.1,e2.2]
  exact⟨rfl,⟨M,oM,mM⟩,fun j hj=>nt (hfr j hj)⟩
 clear e1 e2 hfr oM mM M hF
 rintro m f g1 ob1 ⟨k,w,acc,hk,hFk,hacc,hwlo,hwhi,q2,q5,q7,q28,q29,q30,q6,o2,o7,o95,⟨M,oM,mM⟩,hfr⟩
 simp only at q2 q5 q7 q28 q29 q30 q6 o2 o7 o95 oM hfr
 have hwk:=ah (k:=k) a6
 by_cases hlt:k<p.funcs.length
 ·have hki:(k:Int)<(p.funcs.length:Int):=a6
  have hk0:(0:Int)≤(k:Int):=a6
  obtain⟨x,he⟩:=getq hlt
  have hszf:=mO (p:=p) (l6 he)
  unfold szP at hszf
  have hfD:fnD x=[.str x.name,.sl (x.params.map fun s=>[.str s]),.sl (x.locals.map fun s=>[.str s]),.bool x.word,.sl (x.body.map smD)]:=rfl
  have hslots:IntKind.i64.wrap ((x.params.length:Int)+(x.locals.length:Int))=((x.params.length+x.locals.length:Nat):Int):=by rw[wrap_i64] <;> omega
  rw[dropq he,cX] at hFk
  simp only at hFk
  simp only[go_sem,q5,q28,q29,q30,hki,hk0,he,hfD,j5,hslots]
  refine ai (fun m2 st=>∃(n:Nat) (pm:Pl),m2+n=x.params.length∧lP w n (x.params.drop n) pm=lP w 0 x.params []∧st.f 45=.one (.d (.sl (x.params.map fun s=>[.str s])))∧st.f 46=iv .i64 x.params.length∧st.f 47=iv .i64 n∧st.f 9=.one (.ptr 9 (st.gen 9) 0)∧st.f 10=.one (.ptr 10 (st.gen 10) 0)∧st.f 11=iv .i64 ((x.params.length+x.locals.length:Nat):Int)∧st.obj 9=some ((fnD x).map .d)∧st.obj 10=some [.mp 1012 (st.gen 1012) 208,.mp 35 (st.gen 35) 208]∧(∃M,st.obj 35=some M∧oz M pm)∧st.f 2=.one (.ptr 2 (st.gen 2) 0)∧st.f 5=.one (.mp 1012 (st.gen 1012) 208)∧st.f 7=.one (.ptr 7 (st.gen 7) 0)∧st.f 28=.one (.d (.sl (p.funcs.map fnD)))∧st.f 29=iv .i64 p.funcs.length∧st.f 30=iv .i64 k∧st.f 6=iv .i64 w∧st.obj 2=some [.d (.int .i64 0),.d .nsl]∧st.obj 7=some [.d (.int .i64 0),.osl 95 (st.gen 95) 5 0 acc.length]∧st.obj 95=some (cfC acc)∧(∃M,st.obj 1012=some M∧oz M om)∧(∀j,1100≤j→st.obj j=none)) x.params.length ?_ ?_
  ·refine⟨0,[],rfl,by rw[C1],?_⟩
   simp only[go_sem,q2,q5,q7,q28,q29,q30,q6,o2,o7,o95]
   exact⟨rfl,⟨[],rfl,fun s=>rfl⟩,⟨M,oM,mM⟩,fun j hj=>nt (hfr j hj)⟩
  clear q2 q5 q7 q28 q29 q30 q6 o2 o7 o95 oM hfr mM M
  rintro m2 f g1 ob1 ⟨n,pm,hn,hlP,q45,q46,q47,q9,q10,q11,o9,o10,⟨M2,o35,m35⟩,q2,q5,q7,q28,q29,q30,q6,o2,o7,o95,⟨M,oM,mM⟩,hfr⟩
  simp only at q45 q46 q47 q9 q10 q11 o9 o10 o35 q2 q5 q7 q28 q29 q30 q6 o2 o7 o95 oM hfr
  have hwn:=ah (k:=n) a6
  by_cases hlt2:n<x.params.length
  ·have hki2:(n:Int)<(x.params.length:Int):=a6
   have hk02:(0:Int)≤(n:Int):=a6
   obtain⟨v,he2⟩:=getq hlt2
   have hww:IntKind.i64.wrap (w+(n:Int))=w+n:=by rw[wrap_i64] <;> omega
   rw[dropq he2,lP] at hlP
   have hput:=m35.put v (w+n,0)
   unfold plD at hput
   simp only[go_sem,q45,q46,q47,hki2,hk02,he2,q10,o10,o35,q6,hww,hwn]
   refine ae (m2-1) a6 ⟨n+1,_,a6,hlP,?_⟩
   simp only[go_sem,q2,q5,q7,q28,q29,q30,q6,o2,o7,o95,q45,q46,q9,q10,q11,o9,o10]
   exact⟨⟨_,rfl,hput⟩,⟨M,oM,mM⟩,fun j hj=>nt (hfr j hj)⟩
  have hki2:¬(n:Int)<(x.params.length:Int):=a6
  obtain rfl:n=x.params.length:=a6
  rw[E3,lP] at hlP
  have o9':=o9
  rw[hfD] at o9'
  simp only[l7,v8] at o9'
  simp only[go_sem,q9,o9',q46,q47,hki2,j5]
  refine ai (fun m2 st=>∃(n:Nat) (pm2:Pl),m2+n=x.locals.length∧lP (w+x.params.length) n (x.locals.drop n) pm2=lP (w+x.params.length) 0 x.locals pm∧st.f 61=.one (.d (.sl (x.locals.map fun s=>[.str s])))∧st.f 62=iv .i64 x.locals.length∧st.f 63=iv .i64 n∧st.f 9=.one (.ptr 9 (st.gen 9) 0)∧st.f 10=.one (.ptr 10 (st.gen 10) 0)∧st.f 11=iv .i64 ((x.params.length+x.locals.length:Nat):Int)∧st.obj 9=some ((fnD x).map .d)∧st.obj 10=some [.mp 1012 (st.gen 1012) 208,.mp 35 (st.gen 35) 208]∧(∃M,st.obj 35=some M∧oz M pm2)∧st.f 2=.one (.ptr 2 (st.gen 2) 0)∧st.f 5=.one (.mp 1012 (st.gen 1012) 208)∧st.f 7=.one (.ptr 7 (st.gen 7) 0)∧st.f 28=.one (.d (.sl (p.funcs.map fnD)))∧st.f 29=iv .i64 p.funcs.length∧st.f 30=iv .i64 k∧st.f 6=iv .i64 w∧st.obj 2=some [.d (.int .i64 0),.d .nsl]∧st.obj 7=some [.d (.int .i64 0),.osl 95 (st.gen 95) 5 0 acc.length]∧st.obj 95=some (cfC acc)∧(∃M,st.obj 1012=some M∧oz M om)∧(∀j,1100≤j→st.obj j=none)) x.locals.length ?_ ?_
  ·refine⟨0,pm,rfl,by rw[C1],?_⟩
   simp only[go_sem,q2,q5,q7,q28,q29,q30,q6,o2,o7,o95,q9,q10,q11,o9,o10]
   exact⟨⟨M2,o35,m35⟩,⟨M,oM,mM⟩,hfr⟩
  clear q2 q5 q7 q28 q29 q30 q6 o2 o7 o95 oM hfr mM M q45 q46 q47 q9 q10 q11 o9 o9' o10 o35 m35 M2 hwn hlt2 hki2 hn
  rintro m2 f g1 ob1 ⟨n,pm2,hn,hlP2,q45,q46,q47,q9,q10,q11,o9,o10,⟨M2,o35,m35⟩,q2,q5,q7,q28,q29,q30,q6,o2,o7,o95,⟨M,oM,mM⟩,hfr⟩
  simp only at q45 q46 q47 q9 q10 q11 o9 o10 o35 q2 q5 q7 q28 q29 q30 q6 o2 o7 o95 oM hfr
  have hwn:=ah (k:=n) a6
  rw[hfD] at o9
  simp only[l7,v8] at o9
  by_cases hlt2:n<x.locals.length
  ·have hki2:(n:Int)<(x.locals.length:Int):=a6
   have hk02:(0:Int)≤(n:Int):=a6
   obtain⟨v,he2⟩:=getq hlt2
   have hww1:IntKind.i64.wrap (w+(x.params.length:Int))=w+x.params.length:=by rw[wrap_i64] <;> omega
   have hww:IntKind.i64.wrap (w+(x.params.length:Int)+(n:Int))=w+x.params.length+n:=by rw[wrap_i64] <;> omega
   rw[dropq he2,lP] at hlP2
   have hput:=m35.put v (w+x.params.length+n,0)
   unfold plD at hput
   simp only[go_sem,q45,q46,q47,hki2,hk02,he2,q9,o9,j5,q10,o10,o35,q6,hww1,hww,hwn]
   refine ae (m2-1) a6 ⟨n+1,_,a6,hlP2,?_⟩
   simp only[go_sem,q2,q5,q7,q28,q29,q30,q6,o2,o7,o95,q45,q46,q9,q10,q11,o9,o10,hfD,l7,v8]
   exact⟨⟨_,rfl,hput⟩,⟨M,oM,mM⟩,fun j hj=>nt (hfr j hj)⟩
  have hki2:¬(n:Int)<(x.locals.length:Int):=a6
  obtain rfl:n=x.locals.length:=a6
  rw[E3,lP] at hlP2
  rw[hlP] at hlP2
  have hst:=Ic (lo:=om) (li:=pm2) (io:=1012) (ii:=35) (go:=g1 1012) (gi:=g1 35) (bu x.body) x.body (l0 _) a6
  simp only[go_sem,q46,q47,hki2]
  refine fP aB mixed ay [94,95,7] [([7],[0],[],false),([80],[0],[],false),([9],[],[],false),([82],[],[],false),([83],[],[],false),([11],[],[],false),([6],[],[],false),([9],[],[],false),([87],[],[],false),([10],[],[],false),([9],[],[],false),([90],[],[],false),([89,91],[],[],false),([84,85,86,88,92],[],[],false),([93],[],[0],false),([81,94],[],[1],false),([7],[],[],false),([96,95],[],[],true)] 3 rfl b9 rfl a8 ?_
  simp only[go_sem]
  iterate 12 (apply aI;(case hg=>first|exact x6|exact⟨_,rfl,by decide,rfl⟩);(case h1=>intro fa ga oa K' hK;simp only[go_sem,q7,o7,q9,o9,q11,q6,q10,o10,j5] at hK ⊢;exact hK))
  apply aI (v:=pu (cQ om pm2 x.body))
  case hg=>exact x6
  case h1=>
   intro fa ga oa K' hK
   simp only[go_sem,pu] at hK ⊢
   refine nC ay rfl hst YE 1100 a8 a8 (fun i hi=>nt (hfr i a6)) ⟨⟨M,oM,mM⟩,⟨M2,o35,m35⟩,rfl,rfl⟩ ?_
   unfold pu
   exact V2
  (apply aI;(case hg=>first|exact x6|exact⟨_,rfl,by decide,rfl⟩);(case h1=>intro fa ga oa K' hK;simp only[go_sem,pu] at hK ⊢;exact hK))
  (apply dy;(case hg=>first|exact x6|exact⟨_,rfl,by decide,rfl⟩);(case h1=>intro fa ga oa K' hK;simp only[go_sem,aC] at hK ⊢;exact hK))
  have hcl:=Ie acc
  have hcf:mF om x w=⟨x.params.length,((x.params.length+x.locals.length:Nat):Int),w,x.word,cQ om pm2 x.body⟩:=by
   unfold mF
   rw[←hlP2]
   rfl
  refine dy (a:=1) (v:=.one (.osl 95 (nxC (apC 144 (g1 95) 0) (g1 95)) 5 0 (acc.length+1))) (x:=nxC (apC 144 (g1 95) 0) (g1 95)) (y:=some (cfC (acc++[mF om x w]))) x6 (fun fa ga oa K' hK=>?_) ?_
  ·have e1:List.take (acc.length*5) (cfC acc)++(cfD (mF om x w)).map .d=cfC (acc++[mF om x w]):=by
    rw[l5 a6,If,Ig]
   rw[hcf] at e1 hK
   simp only[cfD,l7,v8] at e1
   simp only[go_sem,aC,o95,hcl] at hK ⊢
   exact W7
  (apply aI;(case hg=>first|exact x6|exact⟨_,rfl,by decide,rfl⟩);(case h1=>intro fa ga oa K' hK;simp only[go_sem,q7,o7] at hK ⊢;exact hK))
  refine fQ x6 ?_
  intro K' hK'
  simp only[go_sem,q7,o7]
  refine hK' _ ?_
  clear hK' K'
  have hwl:IntKind.i64.wrap (w+((x.params.length+x.locals.length:Nat):Int))=w+((x.params.length:Int)+(x.locals.length:Int)):=by rw[wrap_i64] <;> omega
  simp only[go_sem,q6,q11,q30,hwl,hwk]
  refine ae (m-1) a6 ⟨k+1,w+((x.params.length:Int)+(x.locals.length:Int)),acc++[mF om x w],a6,by rw[←hFk,r0];rfl,by rw[j4];simp;omega,a6,a6,?_⟩
  simp only[go_sem,q2,q5,q7,q28,q29,o2,j4,j6,j7]
  exact⟨⟨M,oM,mM⟩,fun j hj=>nt (hfr j hj)⟩
 have hki:¬(k:Int)<(p.funcs.length:Int):=a6
 obtain rfl:k=p.funcs.length:=a6
 rw[E3,cX] at hFk
 simp only[l8] at hFk
 subst hFk
 simp only at hz
 by_cases hw:32768<w
 ·rw[if_pos hw] at hz
  subst hz
  simp only[go_sem,q29,q30,hki,q6,hw,q2,o2]
  exact⟨_,⟨_,⟨_,_,rfl,rT [.int .i64 0,.nsl],_,_,rfl,eN _,rfl⟩,rfl⟩,rfl⟩
 rw[if_neg hw] at hz
 subst hz
 simp only[go_sem,q29,q30,hki,q6,hw,q2,o2,q7,o7]
 refine⟨_,⟨_,⟨_,_,rfl,⟨[.int .i64 w,.sl (acc.map cfD)],rfl,fun i c hc=>?_,rfl⟩,_,_,rfl,eN _,rfl⟩,rfl⟩,rfl⟩
 match i,hc with
 |0,hc=>cases hc;exact⟨_,rfl,.d _⟩
 |1,hc=>
   cases hc
   refine⟨_,rfl,cL (s:=⟨_,_,_⟩) rfl acc cfD ?_ rfl (fun a _ y hy=>?_) (fun _ _=>rfl) rfl⟩
   ·simp[upd]
    exact o95
   ·simp only[cfD,x9,A1,E7] at hy
    rcases hy with rfl|rfl|rfl|rfl|rfl <;> rfl
end
end Go.Proofs.YtgiigidgdhplfaaGreatDoor
namespace Go.Lower
section
section
variable {w:Int}{ps:Sig}{f:Nat}{word:Bool}{T:Nat→Option Int}
variable {at':Nat}{a b n d:Int}
theorem fd{x:Ins}{d:Int} (t p:Int) (h1:takes ps word x=some (t,p)) (h2:0≤t) (h3:t≤d) (h4:x.op≠8∧x.op≠9∧x.op≠11) (h5:T (at'+1)=some (d-t+p)):OkI ps word T at' x d:=by
 refine⟨t,p,h1,h2,h3,fun h=>absurd h h4.2.2,fun k hk=>?_⟩
 simp only[next,h4.1,h4.2.1,h4.2.2,A4,C7] at hk
 exact⟨at'+1,hk,h5⟩
theorem sw (k:Nat) (ha:a=(k:Int)) (hd:0≤d) (h:T k=some d):OkI ps word T at' ⟨8,a,b,n⟩ d:=by
 refine⟨0,0,rfl,G6 _,hd,fun h=>absurd h a7,fun k' hk=>?_⟩
 simp only[next,A5,C7] at hk
 exact⟨k,by rw[hk,ha],by rw[h];simp⟩
theorem oN (k:Nat) (ha:a=(k:Int)) (hd:0≤d) (h:T k=some d) (h1:T (at'+1)=some d):OkI ps word T at' ⟨9,a,b,n⟩ (d+1):=by
 refine⟨1,0,rfl,a8,a6,fun h=>absurd h a7,fun k' hk=>?_⟩
 simp only[next,show ¬((9:Int)=8) by decide,A4,A5,x9,A1,E7] at hk
 rcases hk with rfl|rfl
 ·exact⟨at'+1,rfl,by rw[h1];simp⟩
 ·exact⟨k,ha,by rw[h];simp⟩
theorem Ji {lv kind op num slot size d:Int}{n:Nat} (h:okE w ps f lv kind op num slot size n) (hk:¬(kind=8∨kind=9)):(one kind op num slot size d).length=1:=by
 obtain⟨_,_,_,_,_,h⟩:=h
 rcases h with⟨h|h,_⟩|⟨h,_⟩|⟨h,_⟩|⟨h,_⟩|⟨h,_⟩|⟨h,_⟩|⟨h,_⟩
 any_goals (subst h;rfl)
 exact absurd h hk
theorem FH {lv kind op num slot size d:Int}{n at':Nat} (h:okE w ps f lv kind op num slot size n) (hk:¬(kind=8∨kind=9)) (hd:0≤d) (hT:T (at'+1)=some (d+1)) :
  (one kind op num slot size (d+n)).length=1∧Good ps word T at' (one kind op num slot size (d+n))∧(Seg T at' (one kind op num slot size (d+n))→T at'=some (d+n)):=by
 obtain⟨_,_,_,_,_,h⟩:=h
 rcases h with⟨h|h,hn⟩|⟨h,_,hn⟩|⟨h,_,_,_,hn⟩|⟨h,k,hs,hkf,hps⟩|⟨h,_,_,hn⟩|⟨h,hn⟩|⟨h,_⟩
 ·exact Wv
 ·exact Wv
 ·exact Wv
 ·exact Xt
 ·subst h hs
  refine⟨rfl,⟨fd n 1 ?_ a6 a6 a7 (by rw[hT];congr 1;omega),trivial⟩,fun h=>h.1⟩
  have:¬((k:Nat):Int)<0:=a6
  simp[takes,hps,this]
 ·subst h hn
  exact⟨rfl,⟨fd 2 1 rfl a8 a6 a7 (by rw[hT];congr 1;omega),trivial⟩,fun h=>h.1⟩
 ·exact Xt
 ·exact absurd h hk
theorem zy {kind d:Int}{c0:Code}{c1:Nat→Code} (hd:0≤d)
  (h0:Seg T at' c0→T (at'+c0.length)=some (d+1)→T at'=some d∧Good ps word T at' c0)
  (h1:∀r,Seg T r (c1 r)→T (r+(c1 r).length)=some (d+1)→T r=some d∧Good ps word T r (c1 r))
  (hs:Seg T at' (mD at' d kind c0 c1)) (hT:T (at'+(mD at' d kind c0 c1).length)=some (d+1)):T at'=some d∧Good ps word T at' (mD at' d kind c0 c1):=by
 unfold mD at hs hT ⊢
 simp only at hs hT ⊢
 rw[fE,fE] at hs
 obtain⟨s0,sn,hs⟩:=hs
 simp only[Seg] at hs
 obtain⟨tz,tp,tj,hs⟩:=hs
 rw[fE] at hs
 obtain⟨s1,t1,t2,_⟩:=hs
 have hnl:(iZ kind d).length=0∧iZ kind d=[]∨(iZ kind d).length=1∧iZ kind d=[(⟨7,0,0,0⟩,d+1)]:=by
  unfold iZ;split
  ·exact .inr ⟨rfl,rfl⟩
  ·exact .inl ⟨rfl,rfl⟩
 generalize hr:at'+c0.length+(iZ kind d).length=r at *
 have e3:r+1+1+1=r+3:=a6
 rw[e3] at s1 t1 t2
 obtain⟨hr3,g1⟩:=h1 (r+3) s1 t1
 have hTe:T (r+3+(c1 (r+3)).length+2)=some (d+1):=by
  rw[←hT];congr 1
  simp only[j4,j6,j7];omega
 have ht0:T (at'+c0.length)=some (d+1):=by
  rcases hnl with⟨hl,_⟩|⟨hl,he⟩
  ·rw[←tz];congr 1;omega
  ·rw[he] at sn;exact sn.1
 obtain⟨ha,g0⟩:=h0 s0 ht0
 refine⟨ha,?_⟩
 rw[eG,eG]
 refine⟨g0,?_,?_⟩
 ·rcases hnl with⟨_,he⟩|⟨hl,he⟩
  ·rw[he];trivial
  ·rw[he]
   exact⟨fd 1 1 rfl a8 a6 a7 (by rw[show at'+c0.length+1=r by omega,tz];congr 1;omega),trivial⟩
 ·rw[hr]
  refine⟨oN (r+3) rfl hd hr3 tp,fd 0 1 rfl a8 hd a7 (by rw[tj];congr 1;omega),sw (r+3+(c1 (r+3)).length+2) rfl a6 hTe,?_⟩
  rw[e3,eG]
  exact⟨g1,fd 1 1 rfl a8 a6 a7 (by rw[t2];congr 1;omega),fd 1 1 rfl a8 a6 a7 (by rw[show r+3+(c1 (r+3)).length+1+1=r+3+(c1 (r+3)).length+2 by omega,hTe];congr 1;omega),trivial⟩
mutual
theorem vN:∀(e:Ex) {lv d:Int}{at':Nat},rE w ps f lv e→0≤d→Seg T at' (cE at' d e)→T (at'+(cE at' d e).length)=some (d+1)→T at'=some d∧Good ps word T at' (cE at' d e)
 |.mk kind op num slot size kids,lv,d,at',h,hd,hs,hT=>by
   rw[rE] at h
   rw[cE] at hs hT ⊢
   by_cases hk:kind=8∨kind=9
   ·rw[if_pos hk] at hs hT ⊢
    have hn:kids.length=2:=by
     obtain⟨⟨_,_,_,_,_,h⟩,_⟩:=h
     omega
    exact FI kids hn h.2 hd hs hT
   ·rw[if_neg hk] at hs hT ⊢
    rw[fE] at hs
    obtain⟨hl,hg,hse⟩:=FH (T:=T) (word:=word) (at':=at'+(cEs at' d kids).length) h.1 hk hd (by rw[←hT,j4,Ji h.1 hk,C0])
    have:=sx kids h.2 hd hs.1 (hse hs.2)
    exact⟨this.1,eG.2 ⟨this.2,hg⟩⟩
theorem sx:∀(l:List Ex) {lv d:Int}{at':Nat},rEs w ps f lv l→0≤d→Seg T at' (cEs at' d l)→T (at'+(cEs at' d l).length)=some (d+l.length)→T at'=some d∧Good ps word T at' (cEs at' d l)
 |[],lv,d,at',h,hd,hs,hT=>by
   rw[cEs] at hT ⊢
   exact⟨by simpa using hT,trivial⟩
 |e::l,lv,d,at',h,hd,hs,hT=>by
   rw[rEs] at h
   rw[cEs] at hs hT ⊢
   rw[fE] at hs
   obtain⟨t1,g1⟩:=sx l h.2 a6 hs.2 (by rw[j4,←C0] at hT;rw[hT];congr 1;simp only[j6];omega)
   obtain⟨t0,g0⟩:=vN e h.1 hd hs.1 t1
   exact⟨t0,eG.2 ⟨g0,g1⟩⟩
theorem FI:∀(l:List Ex) {lv d kind:Int}{at':Nat},l.length=2→rEs w ps f lv l→0≤d→Seg T at' (cAO at' d kind l)→T (at'+(cAO at' d kind l).length)=some (d+1)→T at'=some d∧Good ps word T at' (cAO at' d kind l)
 |[],lv,d,kind,at',hn,h,hd,hs,hT=>by cases hn
 |e::l,lv,d,kind,at',hn,h,hd,hs,hT=>by
   rw[rEs] at h
   rw[cAO] at hs hT ⊢
   exact zy hd (fun s t=>vN e h.1 hd s t) (fun r s t=>ux l (by simpa using hn) h.2 hd s t) hs hT
theorem ux:∀(l:List Ex) {lv d:Int}{at':Nat},l.length=1→rEs w ps f lv l→0≤d→Seg T at' (nd at' d l)→T (at'+(nd at' d l).length)=some (d+1)→T at'=some d∧Good ps word T at' (nd at' d l)
 |[],lv,d,at',hn,h,hd,hs,hT=>by cases hn
 |e::l,lv,d,at',hn,h,hd,hs,hT=>by
   rw[rEs] at h
   rw[nd] at hs hT ⊢
   exact vN e h.1 hd hs hT
end
end
section
variable {w:Int}{ps:Sig}{f:Nat}{word:Bool}{T:Nat→Option Int}
def leave (word:Bool):Code:=if word then [(⟨1,0,0,0⟩,0),(⟨11,0,0,0⟩,1)] else [(⟨11,0,0,0⟩,0)]
def jX (at':Nat) (c0:Code) (c1:Nat→Code):Code:=
 c0++(⟨9,(at'+c0.length+1+(c1 (at'+c0.length+1)).length+1:Nat),0,0⟩,1)::(c1 (at'+c0.length+1)++[(⟨8,(at':Int),0,0⟩,0)])
def ifC (at':Nat) (c1:Nat→Code) (has:Bool) (c2:Nat→Code):Code:=
 if has then
  let r:=at'+1+(c1 (at'+1)).length+1
  (⟨9,(r:Int),0,0⟩,1)::(c1 (at'+1)++(⟨8,(r+(c2 r).length:Nat),0,0⟩,0)::c2 r)
 else(⟨9,(at'+1+(c1 (at'+1)).length:Nat),0,0⟩,1)::c1 (at'+1)
def qE (word:Bool) (kind slot size:Int) (n:Nat):Code:=
 if kind=1 then [(⟨3,slot,0,0⟩,n)] else if kind=2 then [(⟨5,slot,size,0⟩,n)] else if kind=3 then [(⟨13,0,0,0⟩,n)]
 else if kind=6 then [(⟨10,slot,0,0⟩,n)] else if kind=7 then(if n=0 then leave word else [(⟨11,0,0,0⟩,n)]) else []
mutual
def cS (word:Bool) (at':Nat):Stm→Code
 |.mk kind slot size e th el=>
   if kind=5 then jX at' (nd at' 0 e) (fun r=>cSs word r th)
   else cEs at' 0 e++(if kind=4 then ifC (at'+(cEs at' 0 e).length) (fun r=>cSs word r th) (!el.isEmpty) (fun r=>cSs word r el) else qE word kind slot size e.length)
def cSs (word:Bool) (at':Nat):List Stm→Code
 |[]=>[]
 |e::l=>cS word at' e++cSs word (at'+(cS word at' e).length) l
end
variable {at':Nat}
theorem sy (hs:Seg T at' (leave word)):T at'=some 0∧Good ps word T at' (leave word):=by
 cases word with
 |true=>
   obtain⟨h1,h2,_⟩:=hs
   exact⟨h1,fd 0 1 rfl a8 a8 a7 h2,⟨1,0,rfl,a8,a8,fun _=>rfl,fun k hk=>by simp[next] at hk⟩,trivial⟩
 |false=>
   obtain⟨h1,_⟩:=hs
   exact⟨h1,⟨0,0,rfl,a8,a8,fun _=>rfl,fun k hk=>by simp[next] at hk⟩,trivial⟩
theorem Cn {lv kind slot size:Int}{n nt ne at':Nat} (h:okS w ps f word lv kind slot size n nt ne) (h4:kind≠4) (h5:kind≠5) (hs:Seg T at' (qE word kind slot size n)) (hT:T (at'+(qE word kind slot size n).length)=some 0) :
  T at'=some (n:Int)∧Good ps word T at' (qE word kind slot size n):=by
 obtain⟨_,_,_,_,_,h⟩:=h
 rcases h with⟨h,_,hn⟩|⟨h,_,_,_,hn⟩|⟨h,hn⟩|⟨h,k,hsl,hkf,hps⟩|⟨h,hn⟩
 ·subst h hn
  exact⟨hs.1,fd 1 0 rfl a8 a8 a7 hT,trivial⟩
 ·subst h hn
  exact⟨hs.1,fd 2 0 rfl a8 a8 a7 hT,trivial⟩
 ·subst hn
  rcases h with h|h|h
  ·subst h
   exact⟨hs.1,fd 1 0 rfl a8 a8 a7 hT,trivial⟩
  ·exact absurd h h4
  ·exact absurd h h5
 ·subst h hsl
  refine⟨hs.1,fd n 0 ?_ a6 a6 a7 (by rw[show at'+1=at'+(qE word 6 (k:Int) size n).length from rfl,hT];congr 1;omega),trivial⟩
  have:¬((k:Nat):Int)<0:=a6
  simp[takes,hps,this]
 ·subst h
  rcases hn with hn|⟨hw,hn⟩
  ·subst hn
   exact sy hs
  ·subst hw hn
   exact⟨hs.1,⟨1,0,rfl,a8,a8,fun _=>rfl,fun k hk=>by simp[next] at hk⟩,trivial⟩
theorem xA{c0:Code}{c1:Nat→Code}
  (h0:Seg T at' c0→T (at'+c0.length)=some 1→T at'=some 0∧Good ps word T at' c0)
  (h1:∀r,Seg T r (c1 r)→T (r+(c1 r).length)=some 0→T r=some 0∧Good ps word T r (c1 r))
  (hs:Seg T at' (jX at' c0 c1)) (hT:T (at'+(jX at' c0 c1).length)=some 0):T at'=some 0∧Good ps word T at' (jX at' c0 c1):=by
 unfold jX at hs hT ⊢
 rw[fE] at hs
 obtain⟨s0,tz,hs⟩:=hs
 rw[fE] at hs
 obtain⟨s1,tj,_⟩:=hs
 obtain⟨ha,g0⟩:=h0 s0 tz
 obtain⟨hr,g1⟩:=h1 _ s1 tj
 refine⟨ha,eG.2 ⟨g0,oN _ rfl a8 ?_ hr,eG.2 ⟨g1,sw at' rfl a8 ha,trivial⟩⟩⟩
 rw[←hT];congr 1
 simp only[j4,j6,j7];omega
theorem FJ{has:Bool}{c1 c2:Nat→Code}
  (h1:∀r,Seg T r (c1 r)→T (r+(c1 r).length)=some 0→T r=some 0∧Good ps word T r (c1 r))
  (h2:∀r,Seg T r (c2 r)→T (r+(c2 r).length)=some 0→T r=some 0∧Good ps word T r (c2 r))
  (hs:Seg T at' (ifC at' c1 has c2)) (hT:T (at'+(ifC at' c1 has c2).length)=some 0):T at'=some 1∧Good ps word T at' (ifC at' c1 has c2):=by
 unfold ifC at hs hT ⊢
 cases has with
 |false=>
   simp only[B8,A4] at hs hT ⊢
   obtain⟨tz,s1⟩:=hs
   have hT':T (at'+1+(c1 (at'+1)).length)=some 0:=by rw[←hT];congr 1;simp only[j6];omega
   obtain⟨hr,g1⟩:=h1 _ s1 hT'
   exact⟨tz,oN _ rfl a8 hT' hr,g1⟩
 |true=>
   simp only[A5] at hs hT ⊢
   obtain⟨tz,hs⟩:=hs
   rw[fE] at hs
   obtain⟨s1,tj,s2⟩:=hs
   generalize hr:at'+1+(c1 (at'+1)).length+1=r at *
   have hT':T (r+(c2 r).length)=some 0:=by rw[←hT];congr 1;simp only[j6,j4];omega
   obtain⟨hr1,g1⟩:=h1 _ s1 tj
   obtain⟨hr2,g2⟩:=h2 _ s2 hT'
   refine⟨tz,oN _ rfl a8 hr2 hr1,eG.2 ⟨g1,sw _ rfl a8 hT',?_⟩⟩
   rw[hr];exact g2
mutual
theorem Jj:∀(s:Stm) {lv:Int}{at':Nat},rS w ps f word lv s→Seg T at' (cS word at' s)→T (at'+(cS word at' s).length)=some 0→T at'=some 0∧Good ps word T at' (cS word at' s)
 |.mk kind slot size e th el,lv,at',h,hs,hT=>by
   rw[rS] at h
   obtain⟨hok,he,hth,hel⟩:=h
   rw[cS] at hs hT ⊢
   by_cases h5:kind=5
   ·rw[if_pos h5] at hs hT ⊢
    have hn:e.length=1:=by
     obtain⟨_,_,_,_,_,h⟩:=hok
     omega
    exact xA (fun s t=>ux e hn he a8 s t) (fun r s t=>mE th hth s t) hs hT
   ·rw[if_neg h5] at hs hT ⊢
    rw[fE] at hs
    obtain⟨s0,s1⟩:=hs
    rw[j4,←C0] at hT
    have key:T (at'+(cEs at' 0 e).length)=some (e.length:Int)∧Good ps word T (at'+(cEs at' 0 e).length) (if kind=4 then ifC (at'+(cEs at' 0 e).length) (fun r=>cSs word r th) (!el.isEmpty) (fun r=>cSs word r el) else qE word kind slot size e.length):=by
     by_cases h4:kind=4
     ·rw[if_pos h4] at s1 hT ⊢
      have hn:e.length=1:=by
       obtain⟨_,_,_,_,_,h⟩:=hok
       omega
      rw[hn]
      exact FJ (fun r s t=>mE th hth s t) (fun r s t=>mE el hel s t) s1 hT
     ·rw[if_neg h4] at s1 hT ⊢
      exact Cn hok h4 h5 s1 hT
    obtain⟨t0,g0⟩:=sx e he (G6 0) s0 (by rw[key.1];congr 1;omega)
    exact⟨t0,eG.2 ⟨g0,key.2⟩⟩
theorem mE:∀(l:List Stm) {lv:Int}{at':Nat},rSs w ps f word lv l→Seg T at' (cSs word at' l)→T (at'+(cSs word at' l).length)=some 0→T at'=some 0∧Good ps word T at' (cSs word at' l)
 |[],lv,at',h,hs,hT=>by
   rw[cSs] at hT ⊢
   exact⟨by simpa using hT,trivial⟩
 |e::l,lv,at',h,hs,hT=>by
   rw[rSs] at h
   rw[cSs] at hs hT ⊢
   rw[fE] at hs
   rw[j4,←C0] at hT
   obtain⟨t1,g1⟩:=mE l h.2 hs.2 hT
   obtain⟨t0,g0⟩:=Jj e h.1 hs.1 t1
   exact⟨t0,eG.2 ⟨g0,g1⟩⟩
end
def codeOf (word:Bool) (body:List Stm):Code:=cSs word 0 body++leave word
theorem xB:∀(c pre:Code),Seg (fun k=>((pre++c)[k]?).map Prod.snd) pre.length c
 |[],_=>trivial
 |(x,d)::c,pre=>by
   refine⟨a7,?_⟩
   have:=xB c (pre++[(x,d)])
   exact WO
theorem xC {body:List Stm} (h:rSs w ps f word 1 body) :
  let T:=fun k=>((codeOf word body)[k]?).map Prod.snd
  T 0=some 0∧Good ps word T 0 (codeOf word body):=by
 intro T
 have hs:Seg T 0 (codeOf word body):=xB (codeOf word body) []
 unfold codeOf at hs ⊢
 rw[fE] at hs
 obtain⟨hl,gl⟩:=sy (ps:=ps) hs.2
 obtain⟨h0,g0⟩:=mE body h hs.1 hl
 exact⟨h0,eG.2 ⟨g0,gl⟩⟩
end
section
variable {w:Int}{ps:Sig}{f:Nat}{word:Bool}{T:Nat→Option Int}
theorem gL:∀{c:Code}{at' i:Nat}{x:Ins}{d:Int},Good ps word T at' c→c[i]? = some (x,d)→OkI ps word T (at'+i) x d
 |(y,e)::c,at',0,x,d,h,hi=>by cases hi;exact h.1
 |(y,e)::c,at',i+1,x,d,h,hi=>by
   have:=gL (i:=i) h.2 YF
   rwa [show at'+(i+1)=at'+1+i by omega]
theorem Jk {body:List Stm} (h:rSs w ps f word 1 body) {i:Nat}{x:Ins}{d:Int} (hi:(codeOf word body)[i]? = some (x,d)) (hj:x.op=8∨x.op=9):0≤x.a∧x.a<((codeOf word body).length:Int):=by
 obtain⟨t,p,_,_,_,_,hn⟩:=gL (xC h).2 hi
 obtain⟨k,hk,hT⟩:=hn x.a (by unfold next;rcases hj with hj|hj <;> simp[hj])
 have hkl:k<(codeOf word body).length:=by
  rcases P9 k (codeOf word body).length with h|h
  ·exact h
  ·simp only[B9 h,G7] at hT;cases hT
 omega
def Inv (T:Nat→Option Int) (n:Nat) (out:List Int) (todo:List Nat):Prop:=
 out.length=n∧(∀k v,out[k]? = some v→v = -1∨(T k=some v∧0≤v))∧∀a∈todo,∃v,out[a]? = some v∧T a=some v∧0≤v
def left (out:List Int):Nat:=out.countP (· < 0)
theorem jY:∀{out:List Int}{k:Nat}{v x:Int},out[k]? = some v→v<0→0≤x→left (out.set k x)+1=left out
 |a::out,0,v,x,h,hv,hx=>by
   cases h
   have:¬x<0:=a6
   simp[left,hv,this]
 |a::out,k+1,v,x,h,hv,hx=>by
   have:=jY (out:=out) (k:=k) YC hv hx
   simp only[left,P2,UO] at *
   omega
variable {out:List Int}{todo:List Nat}{deep v:Int}
theorem Inv.seen {n k:Nat} (h:Inv T n out todo) (hT:T k=some deep) (hv:out[k]? = some v):v<0∨v=deep:=by
 rcases h.2.1 k v hv with h|⟨h,_⟩
 ·exact .inl a6
 ·rw[h] at hT;cases hT;exact .inr rfl
theorem Inv.find {n k:Nat} (h:Inv T n out todo) (hT:T k=some deep) (h0:0≤deep) (hv:out[k]? = some v) (hn:v<0) :
  Inv T n (out.set k deep) (todo++[k])∧left (out.set k deep)+(todo++[k]).length=left out+todo.length:=by
 have hk:=(l4.1 hv).1
 refine⟨⟨by simp[h.1],fun j u hj=>?_,fun a ha=>?_⟩,?_⟩
 ·rw[D2] at hj
  by_cases hjk:k=j
  ·subst hjk;rw[if_pos rfl,if_pos hk] at hj;cases hj;exact .inr ⟨hT,h0⟩
  ·rw[if_neg hjk] at hj;exact h.2.1 j u hj
 ·rcases D1.1 ha with ha|ha
  ·obtain⟨u,hu,h2,h3⟩:=h.2.2 a ha
   by_cases hak:k=a
   ·subst hak;rw[hu] at hv;cases hv;omega
   ·exact⟨u,by rw[D2,if_neg hak];exact hu,h2,h3⟩
  ·obtain rfl:a=k:=by simpa using ha
   exact⟨deep,by rw[D2,if_pos rfl,if_pos hk],hT,h0⟩
 ·have:=jY hv hn h0
  simp only[j4,j6,j7];omega
end
end
end Go.Lower
namespace Go.Proofs.YtgiigidgdhplfaaGreatDoor.Low
section
open Go Go.Am Go.Lower
mutual
def ky:Ex→Nat
 |.mk _ _ _ _ _ kids=>fJ kids
def fJ:List Ex→Nat
 |[]=>0
 |e::l=>1+ky e+fJ l
end
theorem lh:∀l:List Ex,fJ l=l.length+(l.map ky).sum
 |[]=>by simp[fJ]
 |e::l=>by simp only[fJ,lh l,j6,l7,F9];omega
def nD (l:List Ex) (k:Nat):Nat:=l.length+((l.take k).map ky).sum
theorem BS (l:List Ex) (k:Nat):nD l k≤fJ l:=by
 rw[lh,nD]
 conv=>rhs;rw[←H0 k l]
 simp only[A3,L6,j4,A8,D7];omega
theorem wT {l:List Ex}{k:Nat}{e:Ex} (h:l[k]? = some e):nD l (k+1)=nD l k+ky e:=by
 simp only[nD,A2,h,I1,A3,L6,l7,v8,F9,R9];omega
mutual
def lC:Stm→Nat
 |.mk _ _ _ e th el=>fJ e+dP th+dP el
def dP:List Stm→Nat
 |[]=>0
 |e::l=>1+lC e+dP l
end
theorem nE:∀l:List Stm,dP l=l.length+(l.map lC).sum
 |[]=>by simp[dP]
 |e::l=>by simp only[dP,nE l,j6,l7,F9];omega
def yR (l:List Stm) (k:Nat):Nat:=l.length+((l.take k).map lC).sum
theorem Ir (l:List Stm) (k:Nat):yR l k≤dP l:=by
 rw[nE,yR]
 conv=>rhs;rw[←H0 k l]
 simp only[A3,L6,j4,A8,D7];omega
theorem BT {l:List Stm}{k:Nat}{e:Stm} (h:l[k]? = some e):yR l (k+1)=yR l k+lC e:=by
 simp only[yR,A2,h,I1,A3,L6,l7,v8,F9,R9];omega
theorem EH (l:List Stm):(nB l).length=l.length:=by rw[mq,j5]
end
section
attribute [local congr] Go.Am.ite_cc
open Go Go.Am Go.Lower
section
def vH (x:Ins):List C:=[.d (.int .i64 x.op),.d (.int .i64 x.a),.d (.int .i64 x.b),.d (.int .u32 x.n)]
def ee (l:List Ins):List C:=l.flatMap vH
theorem BX:ee []=[]:=rfl
theorem nG (x:Ins) (l:List Ins):ee (x::l)=vH x++ee l:=rfl
theorem BY (a b:List Ins):ee (a++b)=ee a++ee b:=by simp[ee]
theorem fT:∀l:List Ins,(ee l).length=l.length*4
 |[]=>rfl
 |x::l=>by rw[nG,j4,fT l];simp only[vH,j6,j7];omega
theorem uk:∀(pre:List Ins) (x:Ins) (post:List Ins) (n:Int),(ee (pre++x::post)).set (pre.length*4+1) (.d (.int .i64 n))=ee (pre ++ { x with a:=n }::post)
 |[],x,post,n=>rfl
 |y::pre,x,post,n=>by
   rw[z8,nG,z8,nG,←uk pre x post n]
   rw[I9 _ _ (by simp only[vH,j6,j7];omega)]
   congr 2
   simp only[vH,j6,j7];omega
variable {word:Bool}{code:List Ins}{g0 g:Nat→Nat}{ob0 ob:Obs}{s:St}{K K2 T B:Nat}{res:List Nat}{R:AV→(Nat→Nat)→Obs→Prop}{f:Nat→AV}{args:Array Operand}{tys:Array TypeId}{K':St→Prop}
theorem lW (p:Nat→Bool):ab s ⟨s.f,s.gen,fun i=>if p i=true then none else s.obj i⟩:=by
 exact V8
theorem bh (p:Nat→Bool) (h:R (iC s.f res) s.gen (fun i=>if p i=true then none else s.obj i)):uN res R .normal s:=⟨_,lW p,h⟩
theorem fN (p:Nat→Bool) (h:R (iC s.f res) s.gen (fun i=>if p i=true then none else s.obj i)):uN res R .ret s:=⟨_,lW p,h⟩
structure Tape (T B:Nat) (word:Bool) (code:List Ins) (g:Nat→Nat) (ob:Obs):Prop where
 t:ob T=some [.d (.bool word),.osl B (g B) 4 0 code.length]
 b:ob B=some (ee code)
 ne:T≠B
theorem Tape.same {T B:Nat}{g g':Nat→Nat}{ob ob':Obs} (h:Tape T B word code g ob) (hg:g' B=g B) (h1:ob' T=ob T) (h2:ob' B=ob B):Tape T B word code g' ob':=
 ⟨by rw[h1,hg];exact h.t,by rw[h2];exact h.b,h.ne⟩
structure xi (K T B:Nat) (word:Bool) (code:List Ins) (g:Nat→Nat) (ob:Obs) (g':Nat→Nat) (ob':Obs):Prop where
 tape:Tape T B word code g' ob'
 gen:∀i,i<K→i≠B→g' i=g i
 obj:∀i,i≠T→i≠B→ob' i=ob i
def dQ (f:FuncId) (rest:List AV) (new:Bool→Nat→List Ins):Prop:=
 ∀(K T B:Nat) (word:Bool) (code:List Ins) (g:Nat→Nat) (ob:Obs) (gT:Nat),Tape T B word code g ob→g T=gT→T<K→B<K→(∀i,K≤i→ob i=none)→code.length+(new word code.length).length≤1000000000→
  fg Tryz.prog f (.one (.ptr T gT 0)::rest) g ob (fun r g' ob'=>r=uv∧xi K T B word (code++new word code.length) g ob g' ob')
theorem Ry {T B V gT gV n:Nat}{code xs:List Ins}{g:Nat→Nat}{ob:Obs} (ht:Tape T B word code g ob) (hgT:g T=gT) (hv:ob V=some (ee xs)) (hgV:g V=gV) (hn:xs.length=n) (hT:V≠T) (hB:V≠B) (hl:code.length+xs.length≤1000000000) :
  fg Tryz.prog 161 [.one (.ptr T gT 0),.one (.osl V gV 4 0 n)] g ob (fun r g' ob'=>r=uv∧Tape T B word (code++xs) g' ob'∧(∀i,i≠B→g' i=g i)∧∀i,i≠T→i≠B→ob' i=ob i):=by
 refine hdF 0 Tryz.func161 rfl [] ?_
 obtain⟨h1,h2,h3⟩:=ht
 subst hgT hgV hn
 simp only[go_sem,h1,h2,hv,h3,fT]
 refine⟨l0 _,l0 _,⟨a8,a6⟩,⟨_,ab.refl _,rfl,⟨?_,?_,h3⟩,fun i hi=>?_,fun i hi hi'=>?_⟩⟩
 ·simp only[upd,A5,j4]
 ·simp only[upd,A5,if_neg (z7 h3)]
  rw[l5 (by rw[fT];omega),l5 (by rw[fT];omega),BY]
 ·simp only[upd,if_neg hi]
 ·simp only[upd,if_neg hi,if_neg hi']
structure Prog (K K2 T B:Nat) (word:Bool) (code:List Ins) (g0:Nat→Nat) (ob0:Obs) (g:Nat→Nat) (ob:Obs):Prop where
 tape:Tape T B word code g ob
 gen:∀i,i<K→i≠B→g i=g0 i
 obj:∀i,i<K→i≠T→i≠B→ob i=ob0 i
 top:∀i,K2≤i→ob i=none
 tk:T<K
 bk:B<K
 kk:K≤K2
theorem Prog.start{g:Nat→Nat}{ob:Obs} (h:Tape T B word code g ob) (hT:T<K) (hB:B<K) (hK:∀i,K≤i→ob i=none) (hk:K≤K2):Prog K K2 T B word code g ob g ob:=
 ⟨h,fun _ _ _=>rfl,fun _ _ _ _=>rfl,fun i hi=>hK i a6,hT,hB,hk⟩
theorem Prog.fin (h:Prog K K2 T B word code g0 ob0 g ob) (hK:∀i,K≤i→ob0 i=none):xi K T B word code g0 ob0 g (fun i=>if decide (K≤i)=true then none else ob i):=by
 refine⟨h.tape.same rfl ?_ ?_,h.gen,fun i h1 h2=>?_⟩
 ·have:=h.tk;simp[show ¬K≤T by omega]
 ·have:=h.bk;simp[show ¬K≤B by omega]
 ·by_cases hi:K≤i
  ·simp[hi,hK i hi]
  ·simp only[hi,L8,B8,A4]
   exact h.obj i a6 h1 h2
theorem Prog.new {K K2 T B V x:Nat}{y:Option (List C)} (h:Prog K K2 T B word code g0 ob0 g ob) (h1:K≤V) (h2:V<K2):Prog K K2 T B word code g0 ob0 (upd g V x) (upd ob V y):=by
 have hT:¬T=V:=by have:=h.tk;omega
 have hB:¬B=V:=by have:=h.bk;omega
 refine⟨h.tape.same (by simp[upd,hB]) (by simp[upd,hT]) (by simp[upd,hB]),fun i hi hb=>?_,fun i hi ht hb=>?_,fun i hi=>?_,h.tk,h.bk,h.kk⟩
 ·simp only[upd,if_neg (show ¬i=V by omega)];exact h.gen i hi hb
 ·simp only[upd,if_neg (show ¬i=V by omega)];exact h.obj i hi ht hb
 ·simp only[upd,if_neg (show ¬i=V by omega)];exact h.top i hi
theorem Prog.genT (h:Prog K K2 T B word code g0 ob0 g ob):g T=g0 T:=h.gen T h.tk h.tape.ne
theorem bS {K K2 T B V gT gV n:Nat} (xs:List Ins) (h:Prog K K2 T B word code g0 ob0 g ob) {o:Oper}{k:Box K'}{Bs:Nat}
  (ho:o.op=.call ⟨.value (.func 161),args,tys⟩) (hgT:g0 T=gT) (h1:K≤V) (h2:V<K2) (hn:xs.length=n) (ha:args.toList.map (St.ev ⟨f,upd g V gV,upd ob V (some (ee xs))⟩)=[.one (.ptr T gT 0),.one (.osl V gV 4 0 n)]) (hl:code.length+xs.length≤1000000000)
  (hk:∀g' ob',Prog K K2 T B word (code++xs) g0 ob0 g' ob'→(∀i,i≠B→i≠V→g' i=g i)→(∀i,i≠T→i≠B→i≠V→ob' i=ob i)→K' (St.put ⟨f,g',ob'⟩ o.dst uv)):aR (spB Tryz.prog Bs) o ⟨f,upd g V gV,upd ob V (some (ee xs))⟩ k:=by
 have hp:=h.new (x:=gV) (y:=some (ee xs)) h1 h2
 have hT:V≠T:=by have:=h.tk;omega
 have hB:V≠B:=by have:=h.bk;omega
 refine bp ho (R:=fun r g' ob'=>r=uv∧Tape T B word (code++xs) g' ob'∧(∀i,i≠B→g' i=upd g V gV i)∧∀i,i≠T→i≠B→ob' i=upd ob V (some (ee xs)) i) ?_ ?_
 ·rw[ha]
  exact Ry hp.tape (hp.genT.trans hgT) XR XR hn hT hB hl
 ·rintro _ g' ob' ⟨rfl,t,q1,q2⟩
  refine hk g' ob' ⟨t,fun i hi hb=>?_,fun i hi ht hb=>?_,fun i hi=>?_,h.tk,h.bk,h.kk⟩ (fun i hb hv=>?_) (fun i ht hb hv=>?_)
  ·rw[q1 i hb];exact hp.gen i hi hb
  ·rw[q2 i ht hb];exact hp.obj i hi ht hb
  ·have:=h.tk;have:=h.bk;have:=h.kk
   rw[q2 i a6 a6];exact hp.top i hi
  ·rw[q1 i hb];simp only[upd,if_neg hv]
  ·rw[q2 i ht hb];simp only[upd,if_neg hv]
theorem bm {K K2 T B gT:Nat}{f':FuncId}{rest:List AV}{new:Bool→Nat→List Ins} (hw:dQ f' rest new) (h:Prog K K2 T B word code g0 ob0 g ob) {o:Oper}{k:Box K'}{Bs:Nat}
  (ho:o.op=.call ⟨.value (.func f'),args,tys⟩) (hgT:g0 T=gT) (ha:args.toList.map (St.ev ⟨f,g,ob⟩)=.one (.ptr T gT 0)::rest) (hl:code.length+(new word code.length).length≤1000000000)
  (hk:∀g' ob',Prog K K2 T B word (code++new word code.length) g0 ob0 g' ob'→(∀i,i<K2→i≠B→g' i=g i)→(∀i,i≠T→i≠B→ob' i=ob i)→K' (St.put ⟨f,g',ob'⟩ o.dst uv)):aR (spB Tryz.prog Bs) o ⟨f,g,ob⟩ k:=by
 have h1:=h.tk;have h2:=h.bk;have h3:=h.kk
 refine bp ho (R:=fun r g' ob'=>r=uv∧xi K2 T B word (code++new word code.length) g ob g' ob') ?_ ?_
 ·rw[ha]
  exact hw K2 T B word code g ob gT h.tape (h.genT.trans hgT) a6 a6 h.top hl
 ·rintro _ g' ob' ⟨rfl,t,q1,q2⟩
  refine hk g' ob' ⟨t,fun i hi hb=>?_,fun i hi ht hb=>?_,fun i hi=>?_,h1,h2,h3⟩ q1 q2
  ·rw[q1 i a6 hb];exact h.gen i hi hb
  ·rw[q2 i ht hb];exact h.obj i hi ht hb
  ·rw[q2 i a6 a6];exact h.top i hi
theorem AK:dQ 103 [] (fun word _=>(leave word).map Prod.fst):=by
 intro K T B word code g ob gT ht hgT hTK hBK hK hl
 have hp:=Prog.start (K2:=K+14) ht hTK hBK hK a6
 refine hdF K Tryz.func103 rfl [] ?_
 have h1:=ht.t
 cases word with
 |false=>
   have hl':code.length+1≤1000000000:=hl
   simp only[go_sem,h1,hgT]
   refine bS [⟨11,0,0,0⟩] hp rfl hgT a6 a6 rfl rfl (by exact hl') ?_
   intro g1 ob1 p1 _ _
   simp only[go_sem]
   refine bh (fun i=>decide (K≤i)) ?_
   exact⟨rfl,p1.fin hK⟩
 |true=>
   have hl':code.length+2≤1000000000:=hl
   simp only[go_sem,h1,hgT]
   refine bS [⟨1,0,0,0⟩] hp rfl hgT a6 a6 rfl rfl (by show code.length+1≤1000000000;omega) ?_
   intro g1 ob1 p1 _ _
   simp only[go_sem,p1.tape.t,p1.genT,hgT]
   refine bS [⟨11,0,0,0⟩] p1 rfl hgT a6 a6 rfl rfl (by simp only[j4,j6,j7];omega) ?_
   intro g2 ob2 p2 _ _
   rw[r0] at p2
   simp only[go_sem]
   refine bh (fun i=>decide (K≤i)) ?_
   exact⟨rfl,p2.fin hK⟩
theorem IL {T B I J gT gI gJ:Nat}{pre post:List Ins}{x:Ins}{g:Nat→Nat}{ob:Obs} (ht:Tape T B word (pre++x::post) g ob) (hgT:g T=gT) (hI:ob I=some [.ptr T gT 0]) (hgI:g I=gI)
  (hJ:ob J=some [.d (.int .i64 pre.length)]) (hgJ:g J=gJ) (hl:(pre++x::post).length≤1000000000) :
  fg Tryz.prog 207 [.one (.ptr I gI 0),.one (.ptr J gJ 0)] g ob (fun r g' ob'=>r=uv∧g'=g∧Tape T B word (pre ++ { x with a:=((pre++x::post).length:Int)}::post) g ob'∧∀i,i≠B→ob' i=ob i):=by
 refine hdF 0 Tryz.func207 rfl [] ?_
 obtain⟨h1,h2,h3⟩:=ht
 subst hgT hgI hgJ
 simp only[go_sem]
 refine bc b9 ?_
 have hlen:pre.length<(pre++x::post).length:=by simp only[j4,j6];omega
 simp only[go_sem,h1,h2,hI,hJ,h3,fT,hlen]
 refine⟨a6,_,ab.refl _,rfl,rfl,⟨?_,?_,h3⟩,fun i hi=>by simp[upd,hi]⟩
 ·simp only[upd,if_neg h3,h1,j4,j6]
 ·simp only[upd,A5]
  exact congrArg some (uk pre x post _)
structure xj (I J:Nat) (T gT at':Nat) (g:Nat→Nat) (ob:Obs) (v:AV):Prop where
 v:v=.one (.clo 207 [.ptr I (g I) 0,.ptr J (g J) 0])
 i:ob I=some [.ptr T gT 0]
 j:ob J=some [.d (.int .i64 at')]
theorem xj.same {I J T gT at':Nat}{g g':Nat→Nat}{ob ob':Obs}{v:AV} (h:xj I J T gT at' g ob v) (h1:g' I=g I) (h2:g' J=g J) (h3:ob' I=ob I) (h4:ob' J=ob J):xj I J T gT at' g' ob' v:=
 ⟨by rw[h1,h2];exact h.v,by rw[h3];exact h.i,by rw[h4];exact h.j⟩
theorem MA {K T B gT:Nat}{op:Int}{g:Nat→Nat}{ob:Obs} (ht:Tape T B word code g ob) (hgT:g T=gT) (hTK:T<K) (hBK:B<K) (hK:∀i,K≤i→ob i=none) (hl:code.length+1≤1000000000) :
  fg Tryz.prog 194 [.one (.ptr T gT 0),iv .i64 op] g ob (fun r g' ob'=>xj (K+2) (K+5) T gT code.length g' ob' r∧Tape T B word (code++[⟨op,0,0,0⟩]) g' ob'∧(∀i,i<K→i≠B→g' i=g i)∧(∀i,i<K→i≠T→i≠B→ob' i=ob i)∧∀i,K+6≤i→ob' i=none):=by
 refine hdF K Tryz.func194 rfl [4] ?_
 have hp:=Prog.start (K2:=K+17) ht hTK hBK hK a6
 have h1:=ht.t
 have h2:=ht.b
 have t1:¬T=K+2:=a6
 have t2:¬T=K+5:=a6
 have b1:¬B=K+2:=a6
 have b2:¬B=K+5:=a6
 have hp1:=hp.new (V:=K+2) (x:=nxC 259 (g (K+2))) (y:=some [.ptr T gT 0]) a6 a6
 have hp2:=hp1.new (V:=K+5) (x:=nxC 4 (g (K+5))) (y:=some [.d (.int .i64 0)]) a6 a6
 have hp3:Prog K (K+17) T B word code g ob (upd (upd g (K+2) (nxC 259 (g (K+2)))) (K+5) (nxC 4 (g (K+5)))) (upd (upd (upd ob (K+2) (some [.ptr T gT 0])) (K+5) (some [.d (.int .i64 0)])) (K+5) (some [.d (.int .i64 code.length)])):=by
  have:=hp2.new (V:=K+5) (x:=(upd (upd g (K+2) (nxC 259 (g (K+2)))) (K+5) (nxC 4 (g (K+5)))) (K+5)) (y:=some [.d (.int .i64 code.length)]) a6 a6
  have e:∀(f:Nat→Nat) (i:Nat),upd f i (f i)=f:=fun f i=>by funext j;simp only[upd];split <;> simp_all
  rw[e] at this
  exact this
 simp only[go_sem,h1,h2,hgT,t1,t2,b1,b2]
 refine bS [⟨op,0,0,0⟩] hp3 rfl hgT a6 a6 rfl rfl (by exact hl) ?_
 intro g1 ob1 p1 q1 q2
 have e1:g1 (K+2)=nxC 259 (g (K+2)):=by rw[q1 _ a6 a6];simp[upd]
 have e2:g1 (K+5)=nxC 4 (g (K+5)):=by rw[q1 _ a6 a6];simp[upd]
 have e3:ob1 (K+2)=some [.ptr T gT 0]:=by rw[q2 _ a6 a6 a6];simp[upd]
 have e4:ob1 (K+5)=some [.d (.int .i64 code.length)]:=by rw[q2 _ a6 a6 a6];simp[upd]
 simp only[go_sem,e1,e2]
 refine fN (fun i=>decide (K+6≤i)) ?_
 refine⟨⟨?_,?_,?_⟩,p1.tape.same rfl ?_ ?_,p1.gen,fun i hi hT hB=>?_,fun i hi=>?_⟩
 ·simp only[go_sem,iC,e1,e2]
 ·simp[e3]
 ·simp[e4]
 ·simp[show ¬K+6≤T by omega]
 ·simp[show ¬K+6≤B by omega]
 ·simp only[show ¬K+6≤i by omega,L8,B8,A4];exact p1.obj i hi hT hB
 ·simp[hi]
end
section
variable {word:Bool}{g0 g:Nat→Nat}{ob0 ob:Obs}{code:List Ins}{f:Nat→AV}{args:Array Operand}{tys:Array TypeId}{K':St→Prop}{op num slot size:Int}
theorem Prog.more {K K2 K3 T B:Nat} (h:Prog K K2 T B word code g0 ob0 g ob) (hk:K2≤K3):Prog K K3 T B word code g0 ob0 g ob:=
 ⟨h.tape,h.gen,h.obj,fun i hi=>h.top i a6,h.tk,h.bk,by have:=h.kk;omega⟩
structure Open (I J T gT at' gI gJ:Nat) (g:Nat→Nat) (ob:Obs):Prop where
 gi:g I=gI
 gj:g J=gJ
 i:ob I=some [.ptr T gT 0]
 j:ob J=some [.d (.int .i64 at')]
theorem Open.same {I J T gT at' gI gJ:Nat}{g g':Nat→Nat}{ob ob':Obs} (h:Open I J T gT at' gI gJ g ob) (h1:g' I=g I) (h2:g' J=g J) (h3:ob' I=ob I) (h4:ob' J=ob J):Open I J T gT at' gI gJ g' ob':=
 ⟨h1.trans h.gi,h2.trans h.gj,h3.trans h.i,h4.trans h.j⟩
theorem fU {K K2 T B gT:Nat}{op:Int} (h:Prog K K2 T B word code g0 ob0 g ob) {o:Oper}{k:Box K'}{Bs:Nat}
  (ho:o.op=.call ⟨.value (.func 194),args,tys⟩) (hgT:g0 T=gT) (ha:args.toList.map (St.ev ⟨f,g,ob⟩)=[.one (.ptr T gT 0),iv .i64 op]) (hl:code.length+1≤1000000000)
  (hk:∀g' ob' gI gJ,Prog K (K2+6) T B word (code++[⟨op,0,0,0⟩]) g0 ob0 g' ob'→Open (K2+2) (K2+5) T gT code.length gI gJ g' ob'→(∀i,i<K2→i≠B→g' i=g i)→(∀i,i<K2→i≠T→i≠B→ob' i=ob i)→K' (St.put ⟨f,g',ob'⟩ o.dst (.one (.clo 207 [.ptr (K2+2) gI 0,.ptr (K2+5) gJ 0])))):aR (spB Tryz.prog Bs) o ⟨f,g,ob⟩ k:=by
 have h1:=h.tk;have h2:=h.bk;have h3:=h.kk
 refine bp ho (R:=fun r g' ob'=>xj (K2+2) (K2+5) T gT code.length g' ob' r∧Tape T B word (code++[⟨op,0,0,0⟩]) g' ob'∧(∀i,i<K2→i≠B→g' i=g i)∧(∀i,i<K2→i≠T→i≠B→ob' i=ob i)∧∀i,K2+6≤i→ob' i=none) ?_ ?_
 ·rw[ha]
  exact MA h.tape (h.genT.trans hgT) a6 a6 h.top hl
 ·rintro _ g' ob' ⟨⟨rfl,l2,l3⟩,t,q1,q2,q3⟩
  refine hk g' ob' _ _ ⟨t,fun i hi hb=>?_,fun i hi ht hb=>?_,q3,h1,h2,a6⟩ ⟨rfl,rfl,l2,l3⟩ q1 q2
  ·rw[q1 i a6 hb];exact h.gen i hi hb
  ·rw[q2 i a6 ht hb];exact h.obj i hi ht hb
theorem eV {K K2 T B gT I J gI gJ t:Nat}{pre post:List Ins}{x:Ins} (h:Prog K K2 T B word (pre++x::post) g0 ob0 g ob) (hop:Open I J T gT pre.length gI gJ g ob) {o:Oper}{k:Box K'}{Bs:Nat}
  (ho:o.op=.call ⟨.value (.tmp t),args,tys⟩) (hgT:g0 T=gT) (hf:f t=.one (.clo 207 [.ptr I gI 0,.ptr J gJ 0])) (ha:args.toList.map (St.ev ⟨f,g,ob⟩)=[]) (hl:(pre++x::post).length≤1000000000)
  (hk:∀ob',Prog K K2 T B word (pre ++ { x with a:=((pre++x::post).length:Int)}::post) g0 ob0 g ob'→(∀i,i≠B→ob' i=ob i)→K' (St.put ⟨f,g,ob'⟩ o.dst uv)):aR (spB Tryz.prog Bs) o ⟨f,g,ob⟩ k:=by
 have h1:=h.tk;have h2:=h.bk;have h3:=h.kk
 refine CM ho hf (R:=fun r g' ob'=>r=uv∧g'=g∧Tape T B word (pre ++ { x with a:=((pre++x::post).length:Int)}::post) g ob'∧∀i,i≠B→ob' i=ob i) ?_ ?_
 ·rw[ha]
  exact IL h.tape (h.genT.trans hgT) hop.i hop.gi hop.j hop.gj hl
 ·rintro _ g' ob' ⟨rfl,rfl,t,q⟩
  refine hk ob' ⟨t,h.gen,fun i hi ht hb=>?_,fun i hi=>?_,h1,h2,h3⟩ q
  ·rw[q i hb];exact h.obj i hi ht hb
  ·rw[q i a6];exact h.top i hi
theorem cR (e:Ex):(cxD e).length=6:=by cases e;simp[cxD]
abbrev ipE (e:Ex):AV:=.one (.d (.iptr (cxD e)))
abbrev aW (d:Int) (e:Ex):Bool→Nat→List Ins:=fun _ at'=>(cE at' d e).map Prod.fst
theorem xk {α:Type} (f:Nat→α) (i:Nat):upd f i (f i)=f:=by funext j;simp only[upd];split <;> simp_all
theorem BZ{a b:Ex}{d:Int} (ha:dQ 193 [ipE a] (aW d a)) (hb:dQ 193 [ipE b] (aW d b)) :
  dQ 206 [ipE (.mk 8 op num slot size [a,b])] (aW d (.mk 8 op num slot size [a,b])):=by
 intro K T B word code g ob gT ht hgT hTK hBK hK hl
 have hlen:code.length+((cE code.length d a).length+4+(cE (code.length+(cE code.length d a).length+1+3) d b).length+2)≤1000000000:=by
  have:(aW d (.mk 8 op num slot size [a,b]) word code.length).length=_:=rfl
  simp only[aW,cE,cAO,mD,iZ,nd,j5,A5,true_or,j4,j6,j7] at hl
  simp only[C0,Nat.reduceAdd] at hl ⊢
  omega
 have hp:=Prog.start (K2:=K+50) ht hTK hBK hK a6
 refine hdF K Tryz.func206 rfl [] ?_
 have hp1:=hp.new (V:=K+4) (x:=nxC 253 (g (K+4))) (y:=some [.d (.int .i64 0),.d (.int .i64 0),.d (.int .i64 0),.d (.int .u32 0)]) a6 a6
 have hp2:=hp1.new (V:=K+4) (x:=(upd g (K+4) (nxC 253 (g (K+4)))) (K+4)) (y:=some (vH ⟨7,0,0,0⟩)) a6 a6
 rw[xk] at hp2
 have h1:=ht.t
 have h2:=ht.b
 have hE:cxD (.mk 8 op num slot size [a,b])=[.int .i64 8,.int .i64 op,.int .u32 num,.int .i64 slot,.int .i64 size,.sl [cxD a,cxD b]]:=by simp only[cxD,vA]
 unfold ipE
 rw[hE]
 simp only[go_sem,h1,h2,hgT,cR]
 refine bm ha hp2 rfl hgT rfl (by simp only[aW,j5];omega) ?_
 intro g1 ob1 p1 q1 r1
 have e4:ob1 (K+4)=some [.d (.int .i64 7),.d (.int .i64 0),.d (.int .i64 0),.d (.int .u32 0)]:=by rw[r1 _ a6 a6];simp[upd,vH]
 have g4:g1 (K+4)=nxC 253 (g (K+4)):=by rw[q1 _ a6 a6];simp[upd]
 simp only[go_sem,e4,g4]
 refine bS [⟨7,0,0,0⟩] p1 rfl hgT a6 a6 rfl rfl Yj ?_
 intro g2 ob2 p2 q2 r2
 have e4:ob2 (K+4)=some [.d (.int .i64 7),.d (.int .i64 0),.d (.int .i64 0),.d (.int .u32 0)]:=by rw[r2 _ a6 a6 a6];exact e4
 have g4:g2 (K+4)=nxC 253 (g (K+4)):=by rw[q2 _ a6 a6];exact g4
 simp only[go_sem,e4,g4]
 refine fU p2 rfl hgT rfl Yj ?_
 intro g3 ob3 gI1 gJ1 p3 o1 q3 r3
 have e4:ob3 (K+4)=some [.d (.int .i64 7),.d (.int .i64 0),.d (.int .i64 0),.d (.int .u32 0)]:=by rw[r3 _ a6 a6 a6];exact e4
 have g4:g3 (K+4)=nxC 253 (g (K+4)):=by rw[q3 _ a6 a6];exact g4
 simp only[go_sem,e4,g4]
 refine bS [⟨1,0,0,0⟩] p3 rfl hgT a6 a6 rfl rfl Yj ?_
 intro g4' ob4 p4 q4 r4
 have e4:ob4 (K+4)=some [.d (.int .i64 7),.d (.int .i64 0),.d (.int .i64 0),.d (.int .u32 0)]:=by rw[r4 _ a6 a6 a6];exact e4
 have g4:g4' (K+4)=nxC 253 (g (K+4)):=by rw[q4 _ a6 a6];exact g4
 have o1:=o1.same (g':=g4') (ob':=ob4) (q4 _ a6 a6) (q4 _ a6 a6) (r4 _ a6 a6 a6) (r4 _ a6 a6 a6)
 simp only[go_sem,e4,g4]
 refine fU p4 rfl hgT rfl Yj ?_
 intro g5 ob5 gI2 gJ2 p5 o2 q5 r5
 have e4:ob5 (K+4)=some [.d (.int .i64 7),.d (.int .i64 0),.d (.int .i64 0),.d (.int .u32 0)]:=by rw[r5 _ a6 a6 a6];exact e4
 have g4:g5 (K+4)=nxC 253 (g (K+4)):=by rw[q5 _ a6 a6];exact g4
 have o1:=o1.same (g':=g5) (ob':=ob5) (q5 _ a6 a6) (q5 _ a6 a6) (r5 _ a6 a6 a6) (r5 _ a6 a6 a6)
 simp only[go_sem,e4,g4]
 rw[r0,r0] at p5
 have hlA:(code++aW d a word code.length++[(⟨7,0,0,0⟩:Ins)]).length=code.length+(cE code.length d a).length+1:=by simp only[aW,j4,j5,j6,j7]
 have hlB:(code++aW d a word code.length++[(⟨7,0,0,0⟩:Ins)]++(⟨9,0,0,0⟩:Ins)::[⟨1,0,0,0⟩,⟨8,0,0,0⟩]).length=code.length+(cE code.length d a).length+1+3:=by rw[j4,hlA];rfl
 have hlC:(code++aW d a word code.length++[(⟨7,0,0,0⟩:Ins)]++(⟨9,0,0,0⟩:Ins)::[⟨1,0,0,0⟩]).length=code.length+(cE code.length d a).length+1+2:=by rw[j4,hlA];rfl
 refine eV (pre:=code++aW d a word code.length++[⟨7,0,0,0⟩]) (x:=⟨9,0,0,0⟩) (post:=[⟨1,0,0,0⟩,⟨8,0,0,0⟩]) p5 o1 rfl hgT rfl rfl (by rw[hlB];omega) ?_
 intro ob6 p6 r6
 have e4:ob6 (K+4)=some [.d (.int .i64 7),.d (.int .i64 0),.d (.int .i64 0),.d (.int .u32 0)]:=by rw[r6 _ a6];exact e4
 have o2:=o2.same (g':=g5) (ob':=ob6) rfl rfl (r6 _ a6) (r6 _ a6)
 rw[hlB] at p6
 generalize hX:code++aW d a word code.length++[(⟨7,0,0,0⟩:Ins)]=X at *
 have hlD:(X++(⟨9,((code.length+(cE code.length d a).length+1+3:Nat):Int),0,0⟩:Ins)::[⟨1,0,0,0⟩,⟨8,0,0,0⟩]).length=code.length+(cE code.length d a).length+1+3:=by rw[j4,hlA];rfl
 simp only[go_sem,e4,g4,cR]
 refine bm hb p6 rfl hgT rfl (by simp only[hlD,aW,j5];omega) ?_
 intro g7 ob7 p7 q7 r7
 rw[hlD] at p7
 have e4:ob7 (K+4)=some [.d (.int .i64 7),.d (.int .i64 0),.d (.int .i64 0),.d (.int .u32 0)]:=by rw[r7 _ a6 a6];exact e4
 have g4:g7 (K+4)=nxC 253 (g (K+4)):=by rw[q7 _ a6 a6];exact g4
 have o2:=o2.same (g':=g7) (ob':=ob7) (q7 _ a6 a6) (q7 _ a6 a6) (r7 _ a6 a6) (r7 _ a6 a6)
 simp only[go_sem,e4,g4]
 refine bS [⟨7,0,0,0⟩,⟨7,0,0,0⟩] p7 rfl hgT a6 a6 rfl rfl (by simp only[j4,hlA,aW,j5,j6,j7];omega) ?_
 intro g8 ob8 p8 q8 r8
 have o2:=o2.same (g':=g8) (ob':=ob8) (q8 _ a6 a6) (q8 _ a6 a6) (r8 _ a6 a6 a6) (r8 _ a6 a6 a6)
 have p8:Prog K (K+50+6+6) T B word ((X++[⟨9,((code.length+(cE code.length d a).length+1+3:Nat):Int),0,0⟩,⟨1,0,0,0⟩])++⟨8,0,0,0⟩::(aW d b word (code.length+(cE code.length d a).length+1+3)++[⟨7,0,0,0⟩,⟨7,0,0,0⟩])) g ob g8 ob8:=by
  have:=p8
  exact Wm
 have hlE:(X++[(⟨9,((code.length+(cE code.length d a).length+1+3:Nat):Int),0,0⟩:Ins),(⟨1,0,0,0⟩:Ins)]).length=(X++[(⟨9,0,0,0⟩:Ins)]++[(⟨1,0,0,0⟩:Ins)]).length:=a7
 have hlF:((X++[(⟨9,((code.length+(cE code.length d a).length+1+3:Nat):Int),0,0⟩:Ins),⟨1,0,0,0⟩])++(⟨8,0,0,0⟩:Ins)::(aW d b word (code.length+(cE code.length d a).length+1+3)++[⟨7,0,0,0⟩,⟨7,0,0,0⟩])).length=code.length+(cE code.length d a).length+1+3+(cE (code.length+(cE code.length d a).length+1+3) d b).length+2:=by
  simp only[j4,j6,j7,hlA,aW,j5];omega
 rw[←hlE] at o2
 simp only[go_sem]
 refine eV p8 o2 rfl hgT rfl rfl (by rw[hlF];omega) ?_
 intro ob9 p9 r9
 rw[hlF] at p9
 simp only[go_sem]
 refine bh (fun i=>decide (K≤i)) ?_
 refine⟨rfl,?_⟩
 have e:code++aW d (.mk 8 op num slot size [a,b]) word code.length=(X++[(⟨9,((code.length+(cE code.length d a).length+1+3:Nat):Int),0,0⟩:Ins),⟨1,0,0,0⟩])++⟨8,((code.length+(cE code.length d a).length+1+3+(cE (code.length+(cE code.length d a).length+1+3) d b).length+2:Nat):Int),0,0⟩::(aW d b word (code.length+(cE code.length d a).length+1+3)++[⟨7,0,0,0⟩,⟨7,0,0,0⟩]):=by
  rw[←hX]
  simp only[aW,cE,cAO,mD,iZ,nd,A5,true_or,A3,l7,v8,r0,z8,y1,j6,j7,C5]
 rw[e]
 exact p9.fin hK
theorem Ca{a b:Ex}{d:Int} (ha:dQ 193 [ipE a] (aW d a)) (hb:dQ 193 [ipE b] (aW d b)) :
  dQ 206 [ipE (.mk 9 op num slot size [a,b])] (aW d (.mk 9 op num slot size [a,b])):=by
 intro K T B word code g ob gT ht hgT hTK hBK hK hl
 have hlen:code.length+((cE code.length d a).length+3+(cE (code.length+(cE code.length d a).length+3) d b).length+2)≤1000000000:=by
  have:(aW d (.mk 9 op num slot size [a,b]) word code.length).length=_:=rfl
  simp only[aW,cE,cAO,mD,iZ,nd,j5,show ¬(9:Int)=8 by decide,A4,A5,or_true,j4,j6,j7] at hl
  simp only[C0,I6,Nat.reduceAdd] at hl ⊢
  omega
 have hp:=Prog.start (K2:=K+50) ht hTK hBK hK a6
 refine hdF K Tryz.func206 rfl [] ?_
 have hp1:=hp.new (V:=K+4) (x:=nxC 253 (g (K+4))) (y:=some [.d (.int .i64 0),.d (.int .i64 0),.d (.int .i64 0),.d (.int .u32 0)]) a6 a6
 have hp2:=hp1.new (V:=K+4) (x:=(upd g (K+4) (nxC 253 (g (K+4)))) (K+4)) (y:=some (vH ⟨7,0,0,0⟩)) a6 a6
 rw[xk] at hp2
 have h1:=ht.t
 have h2:=ht.b
 have hE:cxD (.mk 9 op num slot size [a,b])=[.int .i64 9,.int .i64 op,.int .u32 num,.int .i64 slot,.int .i64 size,.sl [cxD a,cxD b]]:=by simp only[cxD,vA]
 unfold ipE
 rw[hE]
 simp only[go_sem,h1,h2,hgT,cR]
 refine bm ha hp2 rfl hgT rfl (by simp only[aW,j5];omega) ?_
 intro g1 ob1 p1 q1 r1
 have e4:ob1 (K+4)=some [.d (.int .i64 7),.d (.int .i64 0),.d (.int .i64 0),.d (.int .u32 0)]:=by rw[r1 _ a6 a6];simp[upd,vH]
 have g4:g1 (K+4)=nxC 253 (g (K+4)):=by rw[q1 _ a6 a6];simp[upd]
 simp only[go_sem,e4,g4]
 refine fU p1 rfl hgT rfl Yj ?_
 intro g3 ob3 gI1 gJ1 p3 o1 q3 r3
 have e4:ob3 (K+4)=some [.d (.int .i64 7),.d (.int .i64 0),.d (.int .i64 0),.d (.int .u32 0)]:=by rw[r3 _ a6 a6 a6];exact e4
 have g4:g3 (K+4)=nxC 253 (g (K+4)):=by rw[q3 _ a6 a6];exact g4
 simp only[go_sem,e4,g4]
 refine bS [⟨1,0,0,1⟩] p3 rfl hgT a6 a6 rfl rfl Yj ?_
 intro g4' ob4 p4 q4 r4
 have e4:ob4 (K+4)=some [.d (.int .i64 7),.d (.int .i64 0),.d (.int .i64 0),.d (.int .u32 0)]:=by rw[r4 _ a6 a6 a6];exact e4
 have g4:g4' (K+4)=nxC 253 (g (K+4)):=by rw[q4 _ a6 a6];exact g4
 have o1:=o1.same (g':=g4') (ob':=ob4) (q4 _ a6 a6) (q4 _ a6 a6) (r4 _ a6 a6 a6) (r4 _ a6 a6 a6)
 simp only[go_sem,e4,g4]
 refine fU p4 rfl hgT rfl Yj ?_
 intro g5 ob5 gI2 gJ2 p5 o2 q5 r5
 have e4:ob5 (K+4)=some [.d (.int .i64 7),.d (.int .i64 0),.d (.int .i64 0),.d (.int .u32 0)]:=by rw[r5 _ a6 a6 a6];exact e4
 have g4:g5 (K+4)=nxC 253 (g (K+4)):=by rw[q5 _ a6 a6];exact g4
 have o1:=o1.same (g':=g5) (ob':=ob5) (q5 _ a6 a6) (q5 _ a6 a6) (r5 _ a6 a6 a6) (r5 _ a6 a6 a6)
 simp only[go_sem,e4,g4]
 rw[r0,r0] at p5
 have hlA:(code++aW d a word code.length).length=code.length+(cE code.length d a).length:=by simp only[aW,j4,j5,j6,j7]
 have hlB:(code++aW d a word code.length++(⟨9,0,0,0⟩:Ins)::[⟨1,0,0,1⟩,⟨8,0,0,0⟩]).length=code.length+(cE code.length d a).length+3:=by rw[j4,hlA];rfl
 have hlC:(code++aW d a word code.length++(⟨9,0,0,0⟩:Ins)::[⟨1,0,0,1⟩]).length=code.length+(cE code.length d a).length+2:=by rw[j4,hlA];rfl
 refine eV (pre:=code++aW d a word code.length) (x:=⟨9,0,0,0⟩) (post:=[⟨1,0,0,1⟩,⟨8,0,0,0⟩]) p5 o1 rfl hgT rfl rfl (by rw[hlB];omega) ?_
 intro ob6 p6 r6
 have e4:ob6 (K+4)=some [.d (.int .i64 7),.d (.int .i64 0),.d (.int .i64 0),.d (.int .u32 0)]:=by rw[r6 _ a6];exact e4
 have o2:=o2.same (g':=g5) (ob':=ob6) rfl rfl (r6 _ a6) (r6 _ a6)
 rw[hlB] at p6
 generalize hX:code++aW d a word code.length=X at *
 have hlD:(X++(⟨9,((code.length+(cE code.length d a).length+3:Nat):Int),0,0⟩:Ins)::[⟨1,0,0,1⟩,⟨8,0,0,0⟩]).length=code.length+(cE code.length d a).length+3:=by rw[j4,hlA];rfl
 simp only[go_sem,e4,g4,cR]
 refine bm hb p6 rfl hgT rfl (by simp only[hlD,aW,j5];omega) ?_
 intro g7 ob7 p7 q7 r7
 rw[hlD] at p7
 have e4:ob7 (K+4)=some [.d (.int .i64 7),.d (.int .i64 0),.d (.int .i64 0),.d (.int .u32 0)]:=by rw[r7 _ a6 a6];exact e4
 have g4:g7 (K+4)=nxC 253 (g (K+4)):=by rw[q7 _ a6 a6];exact g4
 have o2:=o2.same (g':=g7) (ob':=ob7) (q7 _ a6 a6) (q7 _ a6 a6) (r7 _ a6 a6) (r7 _ a6 a6)
 simp only[go_sem,e4,g4]
 refine bS [⟨7,0,0,0⟩,⟨7,0,0,0⟩] p7 rfl hgT a6 a6 rfl rfl (by simp only[j4,hlA,aW,j5,j6,j7];omega) ?_
 intro g8 ob8 p8 q8 r8
 have o2:=o2.same (g':=g8) (ob':=ob8) (q8 _ a6 a6) (q8 _ a6 a6) (r8 _ a6 a6 a6) (r8 _ a6 a6 a6)
 have p8:Prog K (K+50+6+6) T B word ((X++[⟨9,((code.length+(cE code.length d a).length+3:Nat):Int),0,0⟩,⟨1,0,0,1⟩])++⟨8,0,0,0⟩::(aW d b word (code.length+(cE code.length d a).length+3)++[⟨7,0,0,0⟩,⟨7,0,0,0⟩])) g ob g8 ob8:=by
  have:=p8
  exact Wm
 have hlE:(X++[(⟨9,((code.length+(cE code.length d a).length+3:Nat):Int),0,0⟩:Ins),(⟨1,0,0,1⟩:Ins)]).length=(X++[(⟨9,0,0,0⟩:Ins)]++[(⟨1,0,0,1⟩:Ins)]).length:=a7
 have hlF:((X++[(⟨9,((code.length+(cE code.length d a).length+3:Nat):Int),0,0⟩:Ins),⟨1,0,0,1⟩])++(⟨8,0,0,0⟩:Ins)::(aW d b word (code.length+(cE code.length d a).length+3)++[⟨7,0,0,0⟩,⟨7,0,0,0⟩])).length=code.length+(cE code.length d a).length+3+(cE (code.length+(cE code.length d a).length+3) d b).length+2:=by
  simp only[j4,j6,j7,hlA,aW,j5];omega
 rw[←hlE] at o2
 simp only[go_sem]
 refine eV p8 o2 rfl hgT rfl rfl (by rw[hlF];omega) ?_
 intro ob9 p9 r9
 rw[hlF] at p9
 simp only[go_sem]
 refine bh (fun i=>decide (K≤i)) ?_
 refine⟨rfl,?_⟩
 have e:code++aW d (.mk 9 op num slot size [a,b]) word code.length=(X++[(⟨9,((code.length+(cE code.length d a).length+3:Nat):Int),0,0⟩:Ins),⟨1,0,0,1⟩])++⟨8,((code.length+(cE code.length d a).length+3+(cE (code.length+(cE code.length d a).length+3) d b).length+2:Nat):Int),0,0⟩::(aW d b word (code.length+(cE code.length d a).length+3)++[⟨7,0,0,0⟩,⟨7,0,0,0⟩]):=by
  rw[←hX]
  simp only[aW,cE,cAO,mD,iZ,nd,show ¬(9:Int)=8 by decide,A4,A5,or_true,A3,l7,v8,r0,z8,y1,j6,j7,I6]
 rw[e]
 exact p9.fin hK
end
theorem rZ:∀(l:List Ex) (k:Nat) (e:Ex) (at':Nat) (d:Int),l[k]? = some e→cEs at' d (l.take (k+1))=cEs at' d (l.take k)++cE (at'+(cEs at' d (l.take k)).length) (d+k) e
 |[],k,e,at',d,h=>by simp at h
 |x::l,0,e,at',d,h=>by
   simp at h;subst h
   simp[cEs]
 |x::l,k+1,e,at',d,h=>by
   have h':l[k]? = some e:=by simpa using h
   have ih:=rZ l k e (at'+(cE at' d x).length) (d+1) h'
   rw[F8,F8,cEs,cEs,ih,r0,j4,C0]
   rw[show d+1+(k:Int)=d+((k+1:Nat):Int) by omega]
theorem pE (l:List Ex) (k:Nat) (at':Nat) (d:Int):(cEs at' d (l.take k)).length≤(cEs at' d l).length:=by
 have:∀(l:List Ex) (k at':Nat) (d:Int),(cEs at' d (l.take k)).length≤(cEs at' d l).length:=by
  intro l
  induction l with
  |nil=>intro k at' d;simp[cEs]
  |cons x l ih=>
    intro k at' d
    cases k with
    |zero=>simp[cEs]
    |succ k=>
      rw[F8,cEs,cEs,j4,j4]
      have:=ih k (at'+(cE at' d x).length) (d+1)
      omega
 exact this l k at' d
theorem oF {w:Int}{ps:Sig}{f:Nat}{lv:Int}:∀{l:List Ex}{k:Nat}{e:Ex},rEs w ps f lv l→l[k]? = some e→rE w ps f lv e
 |[],k,e,_,h=>by simp at h
 |x::l,0,e,hr,h=>by simp at h;subst h;rw[rEs] at hr;exact hr.1
 |x::l,k+1,e,hr,h=>by rw[rEs] at hr;exact oF hr.2 YC
theorem kA {l:List Ex}{k:Nat}{e:Ex} (h:l[k]? = some e):ky e<fJ l:=by
 have h2:=wT h
 have h3:=BS l (k+1)
 have hk:=(l4.1 h).1
 have h4:l.length≤nD l k:=by unfold nD;omega
 omega
theorem MB {w:Int}{ps:Sig}{fi:Nat}:∀(N:Nat) (e:Ex) (lv d:Int),ky e≤N→N≤1000000000000→rE w ps fi lv e→dQ 193 [ipE e] (aW d e):=by
 intro N
 induction N using Nat.strongRecOn with
 |ind N ih=>
 intro e lv d hN hN' hr
 obtain⟨kind,op,num,slot,size,kids⟩:=e
 have hsz:ky (.mk kind op num slot size kids)=fJ kids:=rfl
 rw[rE] at hr
 obtain⟨hok,hrk⟩:=hr
 have hE:cxD (.mk kind op num slot size kids)=[.int .i64 kind,.int .i64 op,.int .u32 num,.int .i64 slot,.int .i64 size,.sl (kids.map cxD)]:=by simp only[cxD,mn]
 intro K T B word code g ob gT ht hgT hTK hBK hK hl
 have hp:=Prog.start (K2:=K+107) ht hTK hBK hK a6
 refine hdF K Tryz.func193 rfl [] ?_
 unfold ipE
 rw[hE]
 by_cases h89:kind=8∨kind=9
 ·have hk2:kids.length=2:=by
   rcases h89 with rfl|rfl
   ·exact Xc
   ·exact Xc
  obtain⟨a,b,rfl⟩:∃a b,kids=[a,b]:=by
   match kids,hk2 with
   |[a,b],_=>exact⟨a,b,rfl⟩
  have ha:dQ 193 [ipE a] (aW d a):=ih (ky a) (by have:=kA (l:=[a,b]) (k:=0) rfl;omega) a (lv+1) d (l0 _) (by have:=kA (l:=[a,b]) (k:=0) rfl;omega) (oF (k:=0) hrk rfl)
  have hb:dQ 193 [ipE b] (aW d b):=ih (ky b) (by have:=kA (l:=[a,b]) (k:=1) rfl;omega) b (lv+1) d (l0 _) (by have:=kA (l:=[a,b]) (k:=1) rfl;omega) (oF (k:=1) hrk rfl)
  rcases h89 with rfl|rfl
  ·simp only[go_sem]
   refine bm (BZ (op:=op) (num:=num) (slot:=slot) (size:=size) ha hb) hp rfl hgT (by unfold ipE;rw[hE];rfl) hl ?_
   exact Wj
  ·simp only[go_sem]
   refine bm (Ca (op:=op) (num:=num) (slot:=slot) (size:=size) ha hb) hp rfl hgT (by unfold ipE;rw[hE];rfl) hl ?_
   exact Wj
 ·have h8:¬kind=8:=fun h=>h89 (.inl h)
  have h9:¬kind=9:=fun h=>h89 (.inr h)
  have hcE:cE code.length d (.mk kind op num slot size kids)=cEs code.length d kids++one kind op num slot size (d+kids.length):=by rw[cE,if_neg h89]
  have hl1:code.length+(cEs code.length d kids).length+(one kind op num slot size (d+kids.length)).length≤1000000000:=by
   have:(aW d (.mk kind op num slot size kids) word code.length).length=_:=rfl
   simp only[aW,hcE,j5,j4] at hl
   omega
  simp only[go_sem,h8,h9,j5]
  refine dn (fun n s=>∃k:Nat,n+k=kids.length∧s.f 0=.one (.ptr T gT 0)∧s.f 1=.one (.d (.iptr [.int .i64 kind,.int .i64 op,.int .u32 num,.int .i64 slot,.int .i64 size,.sl (kids.map cxD)]))∧s.f 24=iv .i64 kids.length∧s.f 25=iv .i64 k∧
   Prog K (K+107) T B word (code++(cEs code.length d (kids.take k)).map Prod.fst) g ob s.gen s.obj) kids.length ?_ ?_
  ·refine⟨0,rfl,?_⟩
   rw[I3,cEs,v8,l8]
   simp only[go_sem]
   exact hp
  ·rintro n f g1 ob1 ⟨k,hk,f0,f1,f24,f25,p1⟩
   simp only at f0 f1 f24 f25 p1
   have hkl:kids.length≤fJ kids:=by rw[lh];omega
   have hw:=ah (k:=k) a6
   by_cases hlt:k<kids.length
   ·obtain⟨e,he⟩:=getq hlt
    have hse:=kA he
    have hsn:=rZ kids k e code.length d he
    have hle:=pE kids (k+1) code.length d
    have hl2:(cEs code.length d (kids.take k)).length+(cE (code.length+(cEs code.length d (kids.take k)).length) (d+k) e).length≤(cEs code.length d kids).length:=by
     rw[hsn,j4] at hle;exact hle
    have hlc:(code++(cEs code.length d (kids.take k)).map Prod.fst).length=code.length+(cEs code.length d (kids.take k)).length:=by rw[j4,j5]
    simp only[go_sem,f0,f1,f24,f25,hlt,he,j5,cR]
    refine bm (ih (ky e) a6 e (lv+1) (d+k) (l0 _) a6 (oF hrk he)) p1 rfl hgT rfl (by rw[hlc];simp only[aW,j5];omega) ?_
    intro g2 ob2 p2 q2 r2
    rw[hlc] at p2
    simp only[go_sem,f0,f1,f24,f25,hw]
    refine cU (n-1) a6 ⟨k+1,a6,?_⟩
    simp only[go_sem,f0,f1,f24,f25,hw]
    rw[hsn,A3,←r0]
    exact p2
   ·have hkk:k=kids.length:=a6
    subst hkk
    rw[G9] at p1
    have hlc:(code++(cEs code.length d kids).map Prod.fst).length=code.length+(cEs code.length d kids).length:=by rw[j4,j5]
    have hfin:∀(x:Ins),one kind op num slot size (d+kids.length)=[(x,d+kids.length)]→∀g' ob',Prog K (K+107) T B word (code++(cEs code.length d kids).map Prod.fst++[x]) g ob g' ob'→xi K T B word (code++aW d (.mk kind op num slot size kids) word code.length) g ob g' (fun i=>if decide (K≤i)=true then none else ob' i):=by
     intro x hx g' ob' hp'
     have:code++aW d (.mk kind op num slot size kids) word code.length=code++(cEs code.length d kids).map Prod.fst++[x]:=by
      simp only[aW,hcE,hx,A3,l7,v8,r0]
     rw[this]
     exact hp'.fin hK
    obtain⟨_,_,_,_,_,h⟩:=hok
    have hk17:kind=1∨kind=2∨kind=3∨kind=4∨kind=5∨kind=6∨kind=7:=by
     rcases h with⟨h|h,_⟩|⟨h,_⟩|⟨h,_⟩|⟨h,_⟩|⟨h,_⟩|⟨h,_⟩|⟨h|h,_⟩ <;> omega
    have hone:(one kind op num slot size (d+kids.length)).length=1:=by
     rcases hk17 with rfl|rfl|rfl|rfl|rfl|rfl|rfl <;> rfl
    rcases hk17 with rfl|rfl|rfl|rfl|rfl|rfl|rfl
    ·simp only[go_sem,f0,f1,f24,f25,hlt,j5]
     refine bS [⟨1,0,0,num⟩] p1 rfl hgT a6 a6 rfl rfl Yk ?_
     exact Vp
    ·simp only[go_sem,f0,f1,f24,f25,hlt,j5]
     refine bS [⟨2,slot,0,0⟩] p1 rfl hgT a6 a6 rfl rfl Yk ?_
     exact Vp
    ·simp only[go_sem,f0,f1,f24,f25,hlt,j5]
     refine dK aB mixed [K+73] [([0],[0],[],false),([1],[],[],false),([64],[],[],false),([65],[],[],false),([66],[],[],false),([1],[],[],false),([68],[],[],false),([69],[],[],false),([70],[],[],false),([67,71],[],[],false),([72],[],[0],false),([63,73],[],[],true)] 1 b9 rfl a7 ?_
     simp only[go_sem]
     iterate 10 (apply aw;· (intro fa ga oa K' hK;simp only[go_sem,f0,f1] at hK ⊢;exact hK))
     (apply bJ;· (intro fa ga oa K' hK;simp only[go_sem,f0,f1] at hK ⊢;exact hK))
     apply bG
     intro K' hK'
     simp only[go_sem]
     refine bS [⟨4,slot,size,0⟩] p1 rfl hgT a6 a6 rfl rfl Yk ?_
     intro g2 ob2 p2 q2 r2
     refine hK' _ ?_
     simp only[go_sem]
     refine bh (fun i=>decide (K≤i)) ?_
     exact⟨rfl,hfin _ rfl _ _ p2⟩
    ·simp only[go_sem,f0,f1,f24,f25,hlt,j5]
     refine bS [⟨10,slot,0,0⟩] p1 rfl hgT a6 a6 rfl rfl Yk ?_
     exact Vp
    ·simp only[go_sem,f0,f1,f24,f25,hlt,j5]
     refine bS [⟨12,0,0,0⟩] p1 rfl hgT a6 a6 rfl rfl Yk ?_
     exact Vp
    ·simp only[go_sem,f0,f1,f24,f25,hlt,j5]
     refine bS [⟨6,op,0,0⟩] p1 rfl hgT a6 a6 rfl rfl Yk ?_
     exact Vp
    ·simp only[go_sem,f0,f1,f24,f25,hlt,j5]
     refine bS [⟨7,0,0,0⟩] p1 rfl hgT a6 a6 rfl rfl Yk ?_
     exact Vp
section
abbrev ipS (s:Stm):AV:=.one (.d (.iptr (csD s)))
abbrev slS (l:List Stm):AV:=.one (.d (.sl (nB l)))
abbrev mr (s:Stm):Bool→Nat→List Ins:=fun word at'=>(cS word at' s).map Prod.fst
abbrev bj (l:List Stm):Bool→Nat→List Ins:=fun word at'=>(cSs word at' l).map Prod.fst
theorem wU {word:Bool}:∀(l:List Stm) (k:Nat) (e:Stm) (at':Nat),l[k]? = some e→cSs word at' (l.take (k+1))=cSs word at' (l.take k)++cS word (at'+(cSs word at' (l.take k)).length) e
 |[],k,e,at',h=>by simp at h
 |x::l,0,e,at',h=>by
   simp at h;subst h
   simp[cSs]
 |x::l,k+1,e,at',h=>by
   have h':l[k]? = some e:=by simpa using h
   have ih:=wU (word:=word) l k e (at'+(cS word at' x).length) h'
   rw[F8,F8,cSs,cSs,ih,r0,j4,C0]
theorem mt {word:Bool}:∀(l:List Stm) (k at':Nat),(cSs word at' (l.take k)).length≤(cSs word at' l).length:=by
 intro l
 induction l with
 |nil=>intro k at';simp[cSs]
 |cons x l ih=>
   intro k at'
   cases k with
   |zero=>simp[cSs]
   |succ k=>
     rw[F8,cSs,cSs,j4,j4]
     have:=ih k (at'+(cS word at' x).length)
     omega
theorem qN {w:Int}{ps:Sig}{f:Nat}{word:Bool}{lv:Int}:∀{l:List Stm}{k:Nat}{e:Stm},rSs w ps f word lv l→l[k]? = some e→rS w ps f word lv e
 |[],k,e,_,h=>by simp at h
 |x::l,0,e,hr,h=>by simp at h;subst h;rw[rSs] at hr;exact hr.1
 |x::l,k+1,e,hr,h=>by rw[rSs] at hr;exact qN hr.2 YC
variable {l:List Stm}
theorem mu{k:Nat}{e:Stm} (h:l[k]? = some e):lC e<dP l:=by
 have h2:=BT h
 have h3:=Ir l (k+1)
 have hk:=(l4.1 h).1
 have h4:l.length≤yR l k:=by unfold yR;omega
 omega
theorem jO (e:Stm):(csD e).length=6:=by cases e;simp[csD]
theorem rV (hN:dP l≤1000000000000) (hS:∀(k:Nat) (e:Stm),l[k]? = some e→dQ 160 [ipS e] (mr e)):dQ 102 [slS l] (bj l):=by
 intro K T B word code g ob gT ht hgT hTK hBK hK hl
 have hp:=Prog.start (K2:=K+16) ht hTK hBK hK a6
 have hl':code.length+(cSs word code.length l).length≤1000000000:=by simpa only[bj,j5] using hl
 refine hdF K Tryz.func102 rfl [] ?_
 unfold slS
 rw[mq]
 simp only[go_sem,j5]
 refine dn (fun n s=>∃k:Nat,n+k=l.length∧s.f 0=.one (.ptr T gT 0)∧s.f 1=.one (.d (.sl (l.map csD)))∧s.f 6=iv .i64 l.length∧s.f 7=iv .i64 k∧
  Prog K (K+16) T B word (code++(cSs word code.length (l.take k)).map Prod.fst) g ob s.gen s.obj) l.length ?_ ?_
 ·refine⟨0,rfl,?_⟩
  rw[I3,cSs,v8,l8]
  simp only[go_sem]
  exact hp
 ·rintro n f g1 ob1 ⟨k,hk,f0,f1,f6,f7,p1⟩
  simp only at f0 f1 f6 f7 p1
  have hkl:l.length≤dP l:=by rw[nE];omega
  have hw:=ah (k:=k) a6
  by_cases hlt:k<l.length
  ·obtain⟨e,he⟩:=getq hlt
   have hsn:=wU (word:=word) l k e code.length he
   have hle:=mt (word:=word) l (k+1) code.length
   have hl2:(cSs word code.length (l.take k)).length+(cS word (code.length+(cSs word code.length (l.take k)).length) e).length≤(cSs word code.length l).length:=by
    rw[hsn,j4] at hle;exact hle
   have hlc:(code++(cSs word code.length (l.take k)).map Prod.fst).length=code.length+(cSs word code.length (l.take k)).length:=by rw[j4,j5]
   simp only[go_sem,f0,f1,f6,f7,hlt,he,j5,jO]
   refine bm (hS k e he) p1 rfl hgT rfl (by rw[hlc];simp only[mr,j5];omega) ?_
   intro g2 ob2 p2 q2 r2
   rw[hlc] at p2
   simp only[go_sem,f0,f1,f6,f7,hw]
   refine cU (n-1) a6 ⟨k+1,a6,?_⟩
   simp only[go_sem,f0,f1,f6,f7,hw]
   rw[hsn,A3,←r0]
   exact p2
  ·have hkk:k=l.length:=a6
   subst hkk
   rw[G9] at p1
   simp only[go_sem,f0,f1,f6,f7,hlt,j5]
   refine bh (fun i=>decide (K≤i)) ?_
   exact⟨rfl,p1.fin hK⟩
theorem Is {slot size:Int}{c:Ex}{th el:List Stm} (hc:dQ 193 [ipE c] (aW 0 c)) (hth:dQ 102 [slS th] (bj th)) :
  dQ 192 [ipS (.mk 5 slot size [c] th el)] (mr (.mk 5 slot size [c] th el)):=by
 intro K T B word code g ob gT ht hgT hTK hBK hK hl
 have hp:=Prog.start (K2:=K+33) ht hTK hBK hK a6
 have hcS:(mr (.mk 5 slot size [c] th el) word code.length)=(jX code.length (cE code.length 0 c) (fun r=>cSs word r th)).map Prod.fst:=by simp only[mr,cS,A5,nd]
 have hlen:code.length+((cE code.length 0 c).length+1+(cSs word (code.length+(cE code.length 0 c).length+1) th).length+1)≤1000000000:=by
  simp only[hcS,jX,j5,j4,j6,j7] at hl
  omega
 refine hdF K Tryz.func192 rfl [] ?_
 have h1:=ht.t
 have h2:=ht.b
 have hE:csD (.mk 5 slot size [c] th el)=[.int .i64 5,.int .i64 slot,.int .i64 size,.sl [cxD c],.sl (nB th),.sl (nB el)]:=by simp only[csD,vA]
 unfold ipS
 rw[hE]
 simp only[go_sem,h1,h2,hgT,cR]
 refine bm hc hp rfl hgT rfl (by simp only[aW,j5];omega) ?_
 intro g1 ob1 p1 q1 r1
 have hlA:(code++aW 0 c word code.length).length=code.length+(cE code.length 0 c).length:=by simp only[aW,j4,j5]
 generalize hA:code++aW 0 c word code.length=A at *
 simp only[go_sem]
 refine fU p1 rfl hgT rfl a6 ?_
 intro g2 ob2 gI gJ p2 o1 q2 r2
 have hlB:(A++[(⟨9,0,0,0⟩:Ins)]).length=code.length+(cE code.length 0 c).length+1:=by rw[j4,hlA];rfl
 simp only[go_sem]
 refine bm hth p2 rfl hgT rfl Y3 ?_
 intro g3 ob3 p3 q3 r3
 rw[hlB] at p3
 have o1:=o1.same (g':=g3) (ob':=ob3) (q3 _ a6 a6) (q3 _ a6 a6) (r3 _ a6 a6) (r3 _ a6 a6)
 simp only[go_sem]
 refine bS [⟨8,code.length,0,0⟩] p3 rfl hgT a6 a6 rfl rfl (by rw[j4,hlB];simp only[bj,j5,j6,j7];omega) ?_
 intro g4 ob4 p4 q4 r4
 have o1:=o1.same (g':=g4) (ob':=ob4) (q4 _ a6 a6) (q4 _ a6 a6) (r4 _ a6 a6 a6) (r4 _ a6 a6 a6)
 have p4:Prog K (K+33+6) T B word (A++(⟨9,0,0,0⟩:Ins)::(bj th word (code.length+(cE code.length 0 c).length+1)++[(⟨8,code.length,0,0⟩:Ins)])) g ob g4 ob4:=by
  have:=p4
  exact Wm
 have hlF:(A++(⟨9,0,0,0⟩:Ins)::(bj th word (code.length+(cE code.length 0 c).length+1)++[(⟨8,code.length,0,0⟩:Ins)])).length=code.length+(cE code.length 0 c).length+1+(cSs word (code.length+(cE code.length 0 c).length+1) th).length+1:=by
  simp only[j4,j6,j7,hlA,bj,j5];omega
 simp only[go_sem]
 refine eV p4 o1 rfl hgT rfl rfl (by rw[hlF];omega) ?_
 intro ob5 p5 r5
 rw[hlF] at p5
 simp only[go_sem]
 refine bh (fun i=>decide (K≤i)) ?_
 refine⟨rfl,?_⟩
 have e:code++mr (.mk 5 slot size [c] th el) word code.length=A++(⟨9,((code.length+(cE code.length 0 c).length+1+(cSs word (code.length+(cE code.length 0 c).length+1) th).length+1:Nat):Int),0,0⟩:Ins)::(bj th word (code.length+(cE code.length 0 c).length+1)++[(⟨8,code.length,0,0⟩:Ins)]):=by
  rw[hcS,←hA]
  simp only[aW,bj,jX,A3,l7,v8,r0,z8,y1]
 rw[e]
 exact p5.fin hK
end
theorem Mf {w:Int}{ps:Sig}{fi:Nat}{fw:Bool}:∀(N:Nat) (s:Stm) (lv:Int),lC s≤N→N≤100000000000→rS w ps fi fw lv s→dQ 160 [ipS s] (mr s):=by
 intro N
 induction N using Nat.strongRecOn with
 |ind N ih=>
 intro s lv hN hN' hr
 obtain⟨kind,slot,size,e,th,el⟩:=s
 have hsz:lC (.mk kind slot size e th el)=fJ e+dP th+dP el:=rfl
 rw[rS] at hr
 obtain⟨hok,hre,hrt,hrl⟩:=hr
 have hth:dQ 102 [slS th] (bj th):=rV a6 fun k s hs=>ih (lC s) YV s (lv+1) (l0 _) YV (qN hrt hs)
 have hel:dQ 102 [slS el] (bj el):=rV a6 fun k s hs=>ih (lC s) YV s (lv+1) (l0 _) YV (qN hrl hs)
 have hex:∀(k:Nat) (x:Ex) (d:Int),e[k]? = some x→dQ 193 [ipE x] (aW d x):=fun k x d hx=>MB (ky x) x (lv+1) d (l0 _) (by have:=kA hx;omega) (oF hre hx)
 have hE:csD (.mk kind slot size e th el)=[.int .i64 kind,.int .i64 slot,.int .i64 size,.sl (e.map cxD),.sl (nB th),.sl (nB el)]:=by simp only[csD,mn]
 intro K T B word code g ob gT ht hgT hTK hBK hK hl
 have hp:=Prog.start (K2:=K+120) ht hTK hBK hK a6
 refine hdF K Tryz.func160 rfl [] ?_
 unfold ipS
 rw[hE]
 by_cases h5:kind=5
 ·subst h5
  have hn:e.length=1:=by
   obtain⟨_,_,_,_,_,h⟩:=hok
   rcases h with⟨h,_⟩|⟨h,_⟩|⟨_,h⟩|⟨h,_⟩|⟨h,_⟩ <;> omega
  obtain⟨c,rfl⟩:∃c,e=[c]:=by
   match e,hn with
   |[c],_=>exact⟨c,rfl⟩
  simp only[go_sem]
  refine bm (Is (slot:=slot) (size:=size) (el:=el) (hex 0 c 0 rfl) hth) hp rfl hgT (by unfold ipS;rw[hE];rfl) hl ?_
  exact Wj
 ·generalize hrest:(if kind=4 then ifC (code.length+(cEs code.length 0 e).length) (fun r=>cSs word r th) (!el.isEmpty) (fun r=>cSs word r el) else qE word kind slot size e.length)=rest
  have hcS:mr (.mk kind slot size e th el) word code.length=(cEs code.length 0 e).map Prod.fst++rest.map Prod.fst:=by
   simp only[mr,cS,if_neg h5,A3,hrest]
  have hlen:code.length+(cEs code.length 0 e).length+rest.length≤1000000000:=by
   simp only[hcS,j5,j4] at hl
   omega
  simp only[go_sem,h5,j5]
  refine dn (fun n s=>∃k:Nat,n+k=e.length∧s.f 0=.one (.ptr T gT 0)∧s.f 1=.one (.d (.iptr [.int .i64 kind,.int .i64 slot,.int .i64 size,.sl (e.map cxD),.sl (nB th),.sl (nB el)]))∧s.f 19=iv .i64 e.length∧s.f 20=iv .i64 k∧
   Prog K (K+120) T B word (code++(cEs code.length 0 (e.take k)).map Prod.fst) g ob s.gen s.obj) e.length ?_ ?_
  ·refine⟨0,rfl,?_⟩
   rw[I3,cEs,v8,l8]
   simp only[go_sem]
   exact hp
  ·rintro n f g1 ob1 ⟨k,hk,f0,f1,f19,f20,p1⟩
   simp only at f0 f1 f19 f20 p1
   have hkl:e.length≤fJ e:=by rw[lh];omega
   have hw:=ah (k:=k) a6
   by_cases hlt:k<e.length
   ·obtain⟨x,hx⟩:=getq hlt
    have hsn:=rZ e k x code.length 0 hx
    have hle:=pE e (k+1) code.length 0
    have hl2:(cEs code.length 0 (e.take k)).length+(cE (code.length+(cEs code.length 0 (e.take k)).length) (0+k) x).length≤(cEs code.length 0 e).length:=by
     rw[hsn,j4] at hle;exact hle
    have hlc:(code++(cEs code.length 0 (e.take k)).map Prod.fst).length=code.length+(cEs code.length 0 (e.take k)).length:=by rw[j4,j5]
    simp only[go_sem,f0,f1,f19,f20,hlt,hx,j5,cR]
    refine bm (hex k x (0+k) hx) p1 rfl hgT rfl (by rw[hlc];simp only[aW,j5];omega) ?_
    intro g2 ob2 p2 q2 r2
    rw[hlc] at p2
    simp only[go_sem,f0,f1,f19,f20,hw]
    refine cU (n-1) a6 ⟨k+1,a6,?_⟩
    simp only[go_sem,f0,f1,f19,f20,hw]
    rw[hsn,A3,←r0]
    exact p2
   ·have hkk:k=e.length:=a6
    subst hkk
    rw[G9] at p1
    have hlA:(code++(cEs code.length 0 e).map Prod.fst).length=code.length+(cEs code.length 0 e).length:=by rw[j4,j5]
    have hfin:∀g' ob' K2,Prog K K2 T B word (code++(cEs code.length 0 e).map Prod.fst++rest.map Prod.fst) g ob g' ob'→xi K T B word (code++mr (.mk kind slot size e th el) word code.length) g ob g' (fun i=>if decide (K≤i)=true then none else ob' i):=by
     intro g' ob' K2 hp'
     have:code++mr (.mk kind slot size e th el) word code.length=code++(cEs code.length 0 e).map Prod.fst++rest.map Prod.fst:=by rw[hcS,r0]
     rw[this]
     exact hp'.fin hK
    generalize code++(cEs code.length 0 e).map Prod.fst=A at *
    have hk:kind=1∨kind=2∨kind=3∨kind=6∨kind=7∨kind=4:=by
     obtain⟨_,_,_,_,_,h⟩:=hok
     rcases h with⟨h,_⟩|⟨h,_⟩|⟨h|h|h,_⟩|⟨h,_⟩|⟨h,_⟩ <;> omega
    rcases hk with rfl|rfl|rfl|rfl|rfl|rfl
    ·obtain rfl:[(⟨3,slot,0,0⟩,(e.length:Int))]=rest:=hrest
     have hlen:A.length+1≤1000000000:=by rw[hlA];exact hlen
     simp only[go_sem,f0,f1,f19,f20,hlt,j5]
     refine bS [⟨3,slot,0,0⟩] p1 rfl hgT a6 a6 rfl rfl hlen ?_
     exact VB
    ·obtain rfl:[(⟨5,slot,size,0⟩,(e.length:Int))]=rest:=hrest
     have hlen:A.length+1≤1000000000:=by rw[hlA];exact hlen
     simp only[go_sem,f0,f1,f19,f20,hlt,j5]
     refine dK aB mixed [K+58] [([0],[0],[],false),([1],[],[],false),([49],[],[],false),([50],[],[],false),([51],[],[],false),([1],[],[],false),([53],[],[],false),([54],[],[],false),([55],[],[],false),([52,56],[],[],false),([57],[],[0],false),([48,58],[],[],true)] 1 b9 rfl a7 ?_
     simp only[go_sem]
     iterate 10 (apply aw;· (intro fa ga oa K' hK;simp only[go_sem,f0,f1] at hK ⊢;exact hK))
     (apply bJ;· (intro fa ga oa K' hK;simp only[go_sem,f0,f1] at hK ⊢;exact hK))
     apply bG
     intro K' hK'
     simp only[go_sem]
     refine bS [⟨5,slot,size,0⟩] p1 rfl hgT a6 a6 rfl rfl hlen ?_
     intro g2 ob2 p2 q2 r2
     refine hK' _ ?_
     simp only[go_sem]
     refine bh (fun i=>decide (K≤i)) ?_
     exact⟨rfl,hfin _ _ _ p2⟩
    ·obtain rfl:[(⟨13,0,0,0⟩,(e.length:Int))]=rest:=hrest
     have hlen:A.length+1≤1000000000:=by rw[hlA];exact hlen
     simp only[go_sem,f0,f1,f19,f20,hlt,j5]
     refine bS [⟨13,0,0,0⟩] p1 rfl hgT a6 a6 rfl rfl hlen ?_
     exact VB
    ·obtain rfl:[(⟨10,slot,0,0⟩,(e.length:Int))]=rest:=hrest
     have hlen:A.length+1≤1000000000:=by rw[hlA];exact hlen
     simp only[go_sem,f0,f1,f19,f20,hlt,j5]
     refine bS [⟨10,slot,0,0⟩] p1 rfl hgT a6 a6 rfl rfl hlen ?_
     exact VB
    ·by_cases hz:0<e.length
     ·obtain rfl:[(⟨11,0,0,0⟩,(e.length:Int))]=rest:=by
       rw[←hrest]
       unfold qE
       simp only[show ¬((7:Int)=4) by decide,show ¬((7:Int)=1) by decide,show ¬((7:Int)=2) by decide,show ¬((7:Int)=3) by decide,show ¬((7:Int)=6) by decide,A4,A5]
       rw[if_neg a6]
      have hlen:A.length+1≤1000000000:=by rw[hlA];exact hlen
      simp only[go_sem,f0,f1,f19,f20,hlt,j5,Int.natCast_pos,hz]
      refine bS [⟨11,0,0,0⟩] p1 rfl hgT a6 a6 rfl rfl hlen ?_
      exact VB
     ·obtain rfl:leave word=rest:=by
       rw[←hrest]
       unfold qE
       simp only[show ¬((7:Int)=4) by decide,show ¬((7:Int)=1) by decide,show ¬((7:Int)=2) by decide,show ¬((7:Int)=3) by decide,show ¬((7:Int)=6) by decide,A4,A5]
       rw[if_pos a6]
      have hlen:A.length+(leave word).length≤1000000000:=by rw[hlA];exact hlen
      simp only[go_sem,f0,f1,f19,f20,hlt,j5,Int.natCast_pos,hz]
      refine bm AK p1 rfl hgT rfl (by simpa using hlen) ?_
      exact VB
    ·simp only[A5] at hrest
     cases hemp:el with
     |nil=>
       subst hemp
       obtain rfl:(⟨9,(A.length+1+(cSs word (A.length+1) th).length:Nat),0,0⟩,1)::cSs word (A.length+1) th=rest:=by
        rw[←hrest,←hlA];rfl
       have hlen:A.length+(1+(cSs word (A.length+1) th).length)≤1000000000:=by
        rw[j6,←hlA] at hlen;omega
       have hlB:(A++[(⟨9,0,0,0⟩:Ins)]).length=A.length+1:=by rw[j4];rfl
       simp only[go_sem,f0,f1,f19,f20,hlt,j5]
       refine fU p1 rfl hgT rfl a6 ?_
       intro g2 ob2 gI gJ p2 o1 q2 r2
       simp only[go_sem,f0,f1]
       refine bm hth p2 rfl hgT rfl Y3 ?_
       intro g3 ob3 p3 q3 r3
       rw[hlB] at p3
       have p3:Prog K (K+120+6) T B word (A++(⟨9,0,0,0⟩:Ins)::bj th word (A.length+1)) g ob g3 ob3:=by
        have:=p3
        exact Wm
       have o1:=o1.same (g':=g3) (ob':=ob3) (q3 _ a6 a6) (q3 _ a6 a6) (r3 _ a6 a6) (r3 _ a6 a6)
       simp only[go_sem,f1,nB,j7]
       refine eV p3 o1 rfl hgT rfl rfl (by simp only[j4,j6,bj,j5,j7];omega) ?_
       intro ob4 p4 r4
       simp only[go_sem]
       refine fN (fun i=>decide (K≤i)) ?_
       refine⟨rfl,hfin _ _ (K+120+6) ?_⟩
       have e1:(A++(⟨9,0,0,0⟩:Ins)::bj th word (A.length+1)).length=A.length+1+(cSs word (A.length+1) th).length:=by
        simp only[j4,j6,bj,j5,j7];omega
       rw[e1] at p4
       exact p4
     |cons y ys=>
       rw[←hemp]
       have hne:el.isEmpty=false:=by rw[hemp];rfl
       have hll:0<el.length:=by rw[hemp];simp
       have hll0:¬(el.length:Int)=0:=a6
       obtain rfl:(⟨9,(A.length+1+(cSs word (A.length+1) th).length+1:Nat),0,0⟩,1)::(cSs word (A.length+1) th++(⟨8,(A.length+1+(cSs word (A.length+1) th).length+1+(cSs word (A.length+1+(cSs word (A.length+1) th).length+1) el).length:Nat),0,0⟩,0)::cSs word (A.length+1+(cSs word (A.length+1) th).length+1) el)=rest:=by
        rw[←hrest,←hlA,hne];rfl
       have hlen:A.length+(1+(cSs word (A.length+1) th).length+1+(cSs word (A.length+1+(cSs word (A.length+1) th).length+1) el).length)≤1000000000:=by
        simp only[j6,j4,←hlA] at hlen;omega
       have hlB:(A++[(⟨9,0,0,0⟩:Ins)]).length=A.length+1:=by rw[j4];rfl
       simp only[go_sem,f0,f1,f19,f20,hlt,j5]
       refine fU p1 rfl hgT rfl a6 ?_
       intro g2 ob2 gI gJ p2 o1 q2 r2
       simp only[go_sem,f0,f1]
       refine bm hth p2 rfl hgT rfl Y3 ?_
       intro g3 ob3 p3 q3 r3
       rw[hlB] at p3
       have o1:=o1.same (g':=g3) (ob':=ob3) (q3 _ a6 a6) (q3 _ a6 a6) (r3 _ a6 a6) (r3 _ a6 a6)
       have hlC:(A++[(⟨9,0,0,0⟩:Ins)]++bj th word (A.length+1)).length=A.length+1+(cSs word (A.length+1) th).length:=by rw[j4,hlB];simp only[bj,j5]
       simp only[go_sem,f0,f1,EH,hll0]
       refine fU p3 rfl hgT rfl a6 ?_
       intro g4 ob4 gI2 gJ2 p4 o2 q4 r4
       have o1:=o1.same (g':=g4) (ob':=ob4) (q4 _ a6 a6) (q4 _ a6 a6) (r4 _ a6 a6 a6) (r4 _ a6 a6 a6)
       have p4:Prog K (K+120+6+6) T B word (A++(⟨9,0,0,0⟩:Ins)::(bj th word (A.length+1)++[(⟨8,0,0,0⟩:Ins)])) g ob g4 ob4:=by
        have:=p4
        exact Wm
       have hlD:(A++(⟨9,0,0,0⟩:Ins)::(bj th word (A.length+1)++[(⟨8,0,0,0⟩:Ins)])).length=A.length+1+(cSs word (A.length+1) th).length+1:=by
        simp only[j4,j6,j7,bj,j5];omega
       simp only[go_sem]
       refine eV p4 o1 rfl hgT rfl rfl (by rw[hlD];omega) ?_
       intro ob5 p5 r5
       rw[hlD] at p5
       have o2:=o2.same (g':=g4) (ob':=ob5) rfl rfl (r5 _ a6) (r5 _ a6)
       have hlE:(A++(⟨9,((A.length+1+(cSs word (A.length+1) th).length+1:Nat):Int),0,0⟩:Ins)::(bj th word (A.length+1)++[(⟨8,0,0,0⟩:Ins)])).length=A.length+1+(cSs word (A.length+1) th).length+1:=by
        simp only[j4,j6,j7,bj,j5];omega
       simp only[go_sem,f0,f1]
       refine bm hel p5 rfl hgT rfl (by rw[hlE];simp only[bj,j5];omega) ?_
       intro g6 ob6 p6 q6 r6
       rw[hlE] at p6
       have o2:=o2.same (g':=g6) (ob':=ob6) (q6 _ a6 a6) (q6 _ a6 a6) (r6 _ a6 a6) (r6 _ a6 a6)
       have p6:Prog K (K+120+6+6) T B word ((A++(⟨9,((A.length+1+(cSs word (A.length+1) th).length+1:Nat):Int),0,0⟩:Ins)::bj th word (A.length+1))++(⟨8,0,0,0⟩:Ins)::bj el word (A.length+1+(cSs word (A.length+1) th).length+1)) g ob g6 ob6:=by
        have:=p6
        exact Wm
       have hlG:(A++(⟨9,((A.length+1+(cSs word (A.length+1) th).length+1:Nat):Int),0,0⟩:Ins)::bj th word (A.length+1)).length=(A++[(⟨9,0,0,0⟩:Ins)]++bj th word (A.length+1)).length:=a7
       have hlH:((A++(⟨9,((A.length+1+(cSs word (A.length+1) th).length+1:Nat):Int),0,0⟩:Ins)::bj th word (A.length+1))++(⟨8,0,0,0⟩:Ins)::bj el word (A.length+1+(cSs word (A.length+1) th).length+1)).length=A.length+1+(cSs word (A.length+1) th).length+1+(cSs word (A.length+1+(cSs word (A.length+1) th).length+1) el).length:=by
        simp only[j4,j6,j7,bj,j5];omega
       rw[←hlG] at o2
       simp only[go_sem]
       refine eV p6 o2 rfl hgT rfl rfl (by rw[hlH];omega) ?_
       intro ob7 p7 r7
       rw[hlH] at p7
       simp only[go_sem]
       refine bh (fun i=>decide (K≤i)) ?_
       refine⟨rfl,hfin _ _ (K+120+6+6) ?_⟩
       have e1:A++List.map Prod.fst (((⟨9,((A.length+1+(cSs word (A.length+1) th).length+1:Nat):Int),0,0⟩:Ins),(1:Int))::(cSs word (A.length+1) th++(⟨8,((A.length+1+(cSs word (A.length+1) th).length+1+(cSs word (A.length+1+(cSs word (A.length+1) th).length+1) el).length:Nat):Int),0,0⟩,0)::cSs word (A.length+1+(cSs word (A.length+1) th).length+1) el)) =
         (A++(⟨9,((A.length+1+(cSs word (A.length+1) th).length+1:Nat):Int),0,0⟩:Ins)::bj th word (A.length+1))++(⟨8,((A.length+1+(cSs word (A.length+1) th).length+1+(cSs word (A.length+1+(cSs word (A.length+1) th).length+1) el).length:Nat):Int),0,0⟩:Ins)::bj el word (A.length+1+(cSs word (A.length+1) th).length+1):=by
        simp only[bj,A3,l7,r0,z8]
       rw[e1]
       exact p7
section
def ue (fs:List Src.CFn):Nat:=(fs.map fun x=>dP x.body).sum
def oB (fs:List Src.CFn) (k:Nat):Nat:=ue (fs.take k)
theorem yS (fs:List Src.CFn) (k:Nat):oB fs k≤ue fs:=by
 conv=>rhs;rw[←H0 k fs]
 simp only[oB,ue,A3,L6];omega
variable {w:Int}{ps:Sig}{fs:List Src.CFn}{x:Src.CFn}
theorem vE{k:Nat} (h:fs[k]? = some x):oB fs (k+1)=oB fs k+dP x.body:=by
 simp only[oB,ue,A2,h,I1,A3,L6,l7,v8,F9,R9];omega
def bb (x:Ins):List D:=[.int .i64 x.op,.int .i64 x.a,.int .i64 x.b,.int .u32 x.n]
abbrev qB (l:Lower.Code):D:=.sl ((l.map Prod.fst).map bb)
theorem It{fi:Nat}{fw:Bool}{l:List Stm}{lv:Int} (hN:dP l≤100000000000) (hr:rSs w ps fi fw lv l):dQ 102 [slS l] (bj l):=
 rV a6 fun k s hs=>Mf (lC s) s lv (l0 _) YV (qN hr hs)
theorem Mg{fi:Nat}{fw:Bool} (hr:rSs w ps fi fw 1 x.body) (hN:dP x.body≤100000000000) (hl:(codeOf x.word x.body).length≤1000000000) :
  aG Tryz.prog 71 [.agg ((cfD x).map .d)] (· = .one (.d (qB (codeOf x.word x.body)))):=by
 refine hdP Tryz.func71 rfl [2] fun g=>?_
 have hl2:(cSs x.word 0 x.body).length+(leave x.word).length≤1000000000:=by rw[codeOf,j4] at hl;exact hl
 simp only[go_sem,cfD,j5]
 refine zH _ (cA (t:=3) (o:=3) (b:=20) (j:=1) (sz:=4) (off:=0) rfl rfl rfl a8) ?_
 simp only[St.claimAt]
 have hp:Prog 21 21 3 20 x.word [] (upd (upd (upd g 1 (nxC 145 (g 1))) 3 (nxC 200 (g 3))) 20 (g 20+1)) _ _ _:=Prog.start (ob:=upd (upd (upd (upd (upd (fun _=>none) 1 (some [.d (.int .i64 x.params),.d (.int .i64 x.slots),.d (.int .i64 x.first),.d (.bool x.word),.d (.sl (x.body.map csD))])) 3 (some [.d (.bool false),.d .nsl])) 3 (some [.d (.bool x.word),.d .nsl])) 3 (some [.d (.bool x.word),.osl 20 (g 20+1) 4 0 0])) 20 (some []))
  ⟨by simp[upd],by simp[upd,BX],a8⟩ a8 a8 (fun i hi=>by simp only[upd];rw[if_neg a6,if_neg a6,if_neg a6,if_neg a6,if_neg a6]) (l0 _)
 refine bm (It hN hr) hp rfl (gT:=nxC 200 (g 3)) XR (by simp only[slS,mq];rfl) (by simp only[bj,j5,j7,C5];omega) ?_
 intro g1 ob1 p1 q1 r1
 have hlc:([]++bj x.body x.word ([]:List Ins).length).length=(cSs x.word 0 x.body).length:=by simp only[bj,y1,j5,j7]
 simp only[go_sem]
 refine bm AK p1 rfl XR rfl (by rw[hlc,j5];exact hl2) ?_
 intro g2 ob2 p2 q2 r2
 have e:[]++bj x.body x.word ([]:List Ins).length++(leave x.word).map Prod.fst=(codeOf x.word x.body).map Prod.fst:=by simp only[bj,codeOf,y1,A3,j7]
 rw[e] at p2
 have g3:g2 3=nxC 200 (g 3):=by rw[q2 3 a8 a8,q1 3 a8 a8];simp[upd]
 simp only[go_sem,p2.tape.t,g3]
 refine⟨_,⟨_,cL (s:=⟨_,_,_⟩) rfl ((codeOf x.word x.body).map Prod.fst) bb p2.tape.b c9 (fun a _ y hy=>?_) (fun _ _=>rfl) (j5 _),rfl⟩,rfl⟩
 simp only[bb,x9,A1,E7] at hy
 rcases hy with rfl|rfl|rfl|rfl <;> rfl
def sfD (x:Src.CFn):List D:=[.int .i64 x.params,.int .i64 x.slots,.int .i64 x.first,.bool x.word,qB (codeOf x.word x.body)]
def gy (w:Int) (fs:List Src.CFn):AV:=.agg [.d (.int .i64 w),.d (.sl (fs.map sfD))]
theorem Iu (x:Src.CFn):(sfD x).length=5:=rfl
def Kz (fs:List Src.CFn):Prop:=∀x∈fs,(codeOf x.word x.body).length≤1000000000
theorem Mh (hN:ue fs≤100000000000) (hF:fs.length≤1000000) (hsh:Kz fs) (hr:∀(k:Nat) (x:Src.CFn),fs[k]? = some x→rSs w ps k x.word 1 x.body):aG Tryz.prog 41 [nj ⟨w,fs⟩] (· = gy w fs):=by
 refine hdR Tryz.func41 rfl [.cell 2 91] fun g=>?_
 unfold nj
 simp only[go_sem,j5]
 refine vW _ (cA (t:=3) (o:=3) (b:=30) (j:=1) (sz:=5) (off:=0) rfl rfl rfl a8) (fun n s=>∃k:Nat,n+k=fs.length∧s.f 2=.one (.ptr 2 (s.gen 2) 0)∧s.f 3=.one (.ptr 3 (s.gen 3) 0)∧s.f 10=.one (.d (.sl (fs.map cfD)))∧s.f 11=iv .i64 fs.length∧s.f 12=iv .i64 k∧s.obj 2=some [.d (.int .i64 0),.d .nsl]∧s.obj 3=some [.d (.int .i64 w),.osl 30 (s.gen 30) 5 0 k]∧
  s.obj 30=some ((fs.take k).flatMap fun x=>(sfD x).map .d)) fs.length ?_ ?_
 ·refine⟨0,rfl,?_⟩
  simp only[St.claimAt]
  simp only[go_sem,Q5]
  try rfl
 ·clear g
  rintro n f g ob ⟨k,hk,f2,f3,f10,f11,f12,o2,o3,o30⟩
  simp only at f2 f3 f10 f11 f12 o2 o3 o30
  have hw:=ah (k:=k) a6
  have hfl:∀l:List Src.CFn,(l.flatMap fun x=>(sfD x).map C.d).length=l.length*5:=by
   intro l
   induction l with
   |nil=>rfl
   |cons a l ih=>simp only[B4,j4,ih,j5,Iu,j6];omega
  by_cases hlt:k<fs.length
  ·obtain⟨x,hx⟩:=getq hlt
   have hxs:dP x.body≤100000000000:=by
    have h2:=vE hx
    have h3:=yS fs (k+1)
    omega
   have htl:(fs.take k).length=k:=by rw[A8];omega
   simp only[go_sem,f2,f3,f10,f11,f12,o2,o3,o30,hlt,hx,j5,cfD]
   refine dK aB mixed [29,30,3] [([3],[0],[],false),([16],[0],[],false),([5],[],[],false),([18],[],[],false),([5],[],[],false),([20],[],[],false),([5],[],[],false),([22],[],[],false),([5],[],[],false),([24],[],[],false),([5],[],[],false),([26],[],[],false),([19,21,23,25,27],[],[],false),([28],[],[0],false),([17,29],[],[1],false),([3],[],[],false),([31,30],[],[],true)] 3 b9 rfl a8 ?_
   simp only[go_sem]
   iterate 11 (apply aw;· (intro fa ga oa K' hK;simp only[go_sem,f3,o3,setAt] at hK ⊢;exact hK))
   apply aw
   ·intro fa ga oa K' hK
    simp only[go_sem] at hK ⊢
    refine tE rfl (Mg (hr k x hx) hxs (hsh x (l6 hx))) c9 ?_
    exact XJ
   (apply aw;· (intro fa ga oa K' hK;simp only[go_sem,f3,o3] at hK ⊢;exact hK))
   (apply bJ;· (intro fa ga oa K' hK;simp only[go_sem,f3,o3] at hK ⊢;exact hK))
   apply bJ
   ·intro fa ga oa K' hK
    simp only[go_sem,o30,hfl,htl] at hK ⊢
    refine⟨?_,?_,hK⟩
    ·omega
    ·exact⟨a8,a6⟩
   (apply aw;· (intro fa ga oa K' hK;simp only[go_sem,f3,o3] at hK ⊢;exact hK))
   apply bG
   intro K' hK'
   simp only[go_sem,f3,o3]
   refine hK' _ ?_
   simp only[go_sem,f2,f3,f10,f11,f12,o2,hw]
   refine cU (n-1) a6 ⟨k+1,a6,?_⟩
   simp only[go_sem,f2,f3,f10,f11,f12,o2,hw]
   rw[A2,hx,J8,l5 (by rw[hfl,htl];exact l0 _)]
   rfl
  ·have hkk:k=fs.length:=a6
   subst hkk
   simp only[go_sem,f2,f3,f10,f11,f12,o2,o3,hlt,j5]
   rw[G9] at o30
   refine⟨_,⟨[.int .i64 w,.sl (fs.map sfD)],rfl,fun i c hc=>?_,rfl⟩,rfl⟩
   match i,hc with
   |0,hc=>cases hc;exact⟨_,rfl,.d _⟩
   |1,hc=>
     cases hc
     refine⟨_,rfl,cL (s:=⟨_,_,_⟩) rfl fs sfD ?_ rfl (fun a _ y hy=>?_) (fun _ _=>rfl) rfl⟩
     ·simp only[upd];exact o30
     ·simp only[sfD,x9,A1,E7] at hy
      rcases hy with rfl|rfl|rfl|rfl|rfl <;> rfl
end
end
end Go.Proofs.YtgiigidgdhplfaaGreatDoor.Low
namespace Go.Src
section
open Go.Asm (Str)
open Go.Lower (Sig within callee rE rEs rS rSs)
section
def sigs (fs:List Fn):Sig:=fs.map fun f=>((f.params.length:Int),f.word)
structure mZ (fs:List Fn) (W:Int) (k:Nat) (fnd:Str→Option (Nat×Nat)) (pl:Str→Int×Int):Prop where
 no:pl []=(0,0)
 var:∀s kd n,fnd s=some (kd,n)→kd=1∨kd=2→within W (pl s).1 1∧(pl s).2=0
 arr:∀s n,fnd s=some (3,n)→1≤(pl s).2∧(pl s).2≤4096∧within W (pl s).1 (pl s).2
 fn:∀s n,fnd s=some (4,n)→n<k→(pl s).1=n∧(pl s).2=0∧∃f,fs[n]? = some f∧cl fs s=some f
section
variable {fs:List Fn}{W:Int}{k:Nat}{o i:Pl}{fnd:Str→Option (Nat×Nat)}
theorem sN:∀l:List Ex,(dm o i l).length=l.length:=fun l=>by rw[jH,j5]
theorem sO:∀l:List Stm,(cQ o i l).length=l.length:=fun l=>by rw[jI,j5]
theorem uH (H:mZ fs W k fnd (cP o i)) {name:Str}{args:Nat}{w:Bool} (h1:bC fnd k 4 name=true) (h2:fe fnd fs k 4 name args=true) (h3:kG fs name=w):callee (sigs fs) k (cP o i name).1 args w∧(cP o i name).2=0:=by
 unfold bC at h1
 cases hf:fnd name with
 |none=>rw[hf] at h1;cases h1
 |some t=>
   obtain⟨kd,n⟩:=t
   rw[hf] at h1
   simp only[show ¬(4:Nat)=2 by decide,show ¬(4:Nat)=3 by decide,A4,s9,J7,C4] at h1
   obtain⟨rfl,hn⟩:=h1
   obtain⟨e1,e2,f,hfn,hff⟩:=H.fn name n hf hn
   unfold fe at h2
   rw[hf] at h2
   simp[hn,hfn] at h2
   unfold kG at h3
   rw[hff] at h3
   simp only at h3
   refine⟨⟨n,e1,hn,?_⟩,e2⟩
   unfold sigs
   rw[w8,hfn,x8,h2,h3]
mutual
theorem xX (H:mZ fs W k fnd (cP o i)):∀(e:Ex) (lv:Nat),jG lv e=true→okE (fun a b _=>bC fnd k a b) e=true→okE (fun a b c=>fe fnd fs k a b c) e=true→kH fs e≠0→rE W (sigs fs) k lv (fA o i e)
 |.mk kind op num name kids,lv,h1,h2,h3,h4=>by
   rw[jG] at h1
   rw[okE] at h2 h3
   rw[kH] at h4
   simp only[s9,C4] at h1 h2 h3
   obtain⟨hlv,hform,hkr⟩:=h1
   rw[fA,rE]
   have hlvi:(lv:Int)≤24:=a6
   have hlen:=sN (o:=o) (i:=i) kids
   unfold Lower.okE
   rw[hlen]
   have hnil:kids=[]→rEs W (sigs fs) k (lv+1) (dm o i kids):=fun e=>by rw[e,dm,rEs];trivial
   have hkids:∀t,eb fs t kids=true→t≠0→rEs W (sigs fs) k (lv+1) (dm o i kids):=fun t ha ht=>by
    have:=lx H kids (lv+1) t hkr h2.2 h3.2 ha ht
    exact WO
   have hno:name=[]→cP o i name=(0,0):=fun e=>by rw[e];exact H.no
   unfold oT aO at hform
   by_cases k1:kind=1
   ·subst k1
    simp at hform
    obtain⟨⟨ho,hn⟩,hl⟩:=hform
    have hl0:kids=[]:=by first|exact hl|exact J6.1 hl
    rw[hno hn]
    exact⟨⟨hlvi,.inl rfl,.inr ho,.inr rfl,.inr (.inr (.inr rfl)),.inl ⟨.inl rfl,by rw[hl0];rfl⟩⟩,hnil hl0⟩
   by_cases k2:kind=2
   ·subst k2
    simp at hform
    obtain⟨⟨⟨ho,hnum⟩,hn⟩,hl⟩:=hform
    have hl0:kids=[]:=by first|exact hl|exact J6.1 hl
    have h2':=h2.1
    simp only[A5] at h2'
    unfold bC at h2'
    cases hf:fnd name with
    |none=>rw[hf] at h2';cases h2'
    |some t=>
      obtain⟨kd,n⟩:=t
      rw[hf] at h2'
      simp at h2'
      obtain⟨w1,w2⟩:=H.var name kd n hf h2'
      exact⟨⟨hlvi,.inr hnum,.inr ho,.inr w2,.inl rfl,.inr (.inl ⟨rfl,w1,by rw[hl0];rfl⟩)⟩,hnil hl0⟩
   by_cases k5:kind=5
   ·subst k5
    simp at hform
    obtain⟨⟨⟨ho,hnum⟩,hn⟩,hl⟩:=hform
    have hl0:kids=[]:=by first|exact hl|exact J6.1 hl
    rw[hno hn]
    exact⟨⟨hlvi,.inr hnum,.inr ho,.inr rfl,.inr (.inr (.inr rfl)),.inl ⟨.inr rfl,by rw[hl0];rfl⟩⟩,hnil hl0⟩
   by_cases k3:kind=3
   ·subst k3
    simp at hform
    obtain⟨⟨⟨ho,hnum⟩,hn⟩,hl⟩:=hform
    have h2':=h2.1
    simp at h2'
    unfold bC at h2'
    simp at h4
    cases hf:fnd name with
    |none=>rw[hf] at h2';cases h2'
    |some t=>
      obtain⟨kd,n⟩:=t
      rw[hf] at h2'
      simp at h2'
      subst h2'
      obtain⟨a1,a2,a3⟩:=H.arr name n hf
      exact⟨⟨hlvi,.inr hnum,.inr ho,.inl rfl,.inr (.inl rfl),.inr (.inr (.inl ⟨rfl,a1,a2,a3,hl⟩))⟩,hkids 1 h4 a8⟩
   by_cases k4:kind=4
   ·subst k4
    simp at hform
    obtain⟨⟨⟨ho,hnum⟩,hn⟩,hl⟩:=hform
    have h2':=h2.1
    have h3':=h3.1
    simp at h2' h3' h4
    obtain⟨c1,c2⟩:=uH H h2' h3' h4.1
    exact⟨⟨hlvi,.inr hnum,.inr ho,.inr c2,.inr (.inr (.inl rfl)),.inr (.inr (.inr (.inl ⟨rfl,c1⟩)))⟩,hkids 1 h4.2 a8⟩
   by_cases k6:kind=6
   ·subst k6
    simp at hform
    obtain⟨⟨⟨ho,hnum⟩,hn⟩,hl⟩:=hform
    simp at h4
    rw[hno hn]
    exact⟨⟨hlvi,.inr hnum,.inl rfl,.inr rfl,.inr (.inr (.inr rfl)),.inr (.inr (.inr (.inr (.inl ⟨rfl,ho.1,ho.2,hl⟩))))⟩,hkids 1 h4.1 a8⟩
   by_cases k7:kind=7
   ·subst k7
    simp at hform
    obtain⟨⟨⟨ho,hnum⟩,hn⟩,hl⟩:=hform
    simp at h4
    rw[hno hn]
    exact⟨⟨hlvi,.inr hnum,.inr ho,.inr rfl,.inr (.inr (.inr rfl)),.inr (.inr (.inr (.inr (.inr (.inl ⟨rfl,hl⟩)))))⟩,hkids 2 h4 a8⟩
   by_cases k8:kind=8∨kind=9
   ·simp[k1,k2,k3,k4,k5,k6,k7,k8] at hform
    obtain⟨⟨⟨ho,hnum⟩,hn⟩,hl⟩:=hform
    have ha:eb fs 2 kids=true:=by
     rw[if_neg a6,if_neg a6,if_neg k3,if_neg k4,if_neg k6] at h4
     simpa using h4
    rw[hno hn]
    exact⟨⟨hlvi,.inr hnum,.inr ho,.inr rfl,.inr (.inr (.inr rfl)),.inr (.inr (.inr (.inr (.inr (.inr ⟨k8,hl⟩)))))⟩,hkids 2 ha a8⟩
   ·simp[k1,k2,k3,k4,k5,k6,k7,k8] at hform
theorem lx (H:mZ fs W k fnd (cP o i)):∀(l:List Ex) (lv:Nat) (t:Int),dW lv l=true→cZ (fun a b _=>bC fnd k a b) l=true→cZ (fun a b c=>fe fnd fs k a b c) l=true→eb fs t l=true→t≠0→rEs W (sigs fs) k lv (dm o i l)
 |[],lv,t,_,_,_,_,_=>by rw[dm,rEs];trivial
 |e::l,lv,t,h1,h2,h3,h4,h5=>by
   rw[dW,s9] at h1
   rw[cZ,s9] at h2 h3
   rw[eb,s9,C4] at h4
   rw[dm,rEs]
   exact⟨xX H e lv h1.1 h2.1 h3.1 (by rw[h4.1];exact h5),lx H l lv t h1.2 h2.2 h3.2 h4.2 h5⟩
end
mutual
theorem xY {w:Bool} (H:mZ fs W k fnd (cP o i)):∀(s:Stm) (lv:Nat),iS lv s=true→okS (fun a b _=>bC fnd k a b) s=true→okS (fun a b c=>fe fnd fs k a b c) s=true→pQ fs w s=true→rS W (sigs fs) k w lv (coreS o i s)
 |.mk kind name e th el,lv,h1,h2,h3,h4=>by
   rw[iS] at h1
   rw[okS] at h2 h3
   rw[pQ] at h4
   simp only[s9,C4] at h1 h2 h3 h4
   obtain⟨⟨hlv,hform,hkr⟩,hth,hel⟩:=h1
   obtain⟨⟨⟨c6,c7⟩,hall⟩,htt,hte⟩:=h4
   rw[coreS,rS]
   have hlvi:(lv:Int)≤24:=a6
   unfold Lower.okS
   rw[sN,sO,sO]
   have r1:rEs W (sigs fs) k (lv+1) (dm o i e):=by
    have:=lx H e (lv+1) _ hkr h2.1.1.2 h3.1.1.2 hall (by split <;> decide)
    exact WO
   have r2:rSs W (sigs fs) k w (lv+1) (cQ o i th):=by
    have:=jf H th (lv+1) hth h2.1.2 h3.1.2 htt
    exact WO
   have r3:rSs W (sigs fs) k w (lv+1) (cQ o i el):=by
    have:=jf H el (lv+1) hel h2.2 h3.2 hte
    exact WO
   refine⟨?_,r1,r2,r3⟩
   have hno:name=[]→cP o i name=(0,0):=fun e=>by rw[e];exact H.no
   have hvar:bC fnd k 2 name=true→within W (cP o i name).1 1∧(cP o i name).2=0:=fun h=>by
    unfold bC at h
    cases hf:fnd name with
    |none=>rw[hf] at h;cases h
    |some t=>
      obtain⟨kd,n⟩:=t
      rw[hf] at h
      simp at h
      exact H.var name kd n hf h
   unfold oU aO at hform
   by_cases k1:kind=1
   ·subst k1
    simp at hform
    have h2':=h2.1.1.1
    simp at h2'
    obtain⟨w1,w2⟩:=hvar h2'
    exact⟨hlvi,.inr w2,.inl rfl,.inr Yn,.inr (.inr Yo),.inl ⟨rfl,w1,hform.2.1⟩⟩
   by_cases k2:kind=2
   ·subst k2
    simp at hform
    have h2':=h2.1.1.1
    simp at h2'
    unfold bC at h2'
    cases hf:fnd name with
    |none=>rw[hf] at h2';cases h2'
    |some t=>
      obtain⟨kd,n⟩:=t
      rw[hf] at h2'
      simp at h2'
      subst h2'
      obtain⟨a1,a2,a3⟩:=H.arr name n hf
      exact⟨hlvi,.inl rfl,.inr (.inl rfl),.inr Yn,.inr (.inr Yo),.inr (.inl ⟨rfl,a1,a2,a3,hform.2.1⟩)⟩
   by_cases k3:kind=3
   ·subst k3
    simp at hform
    rw[hno hform.1]
    exact⟨hlvi,.inr rfl,.inr (.inr (.inr rfl)),.inr Yn,.inr (.inr Yo),.inr (.inr (.inl ⟨.inl rfl,hform.2.1⟩))⟩
   by_cases k4:kind=4
   ·subst k4
    simp at hform
    rw[hno hform.1]
    exact⟨hlvi,.inr rfl,.inr (.inr (.inr rfl)),.inl rfl,.inl rfl,.inr (.inr (.inl ⟨.inr (.inl rfl),hform.2⟩))⟩
   by_cases k5:kind=5
   ·subst k5
    simp at hform
    rw[hno hform.1]
    exact⟨hlvi,.inr rfl,.inr (.inr (.inr rfl)),.inr (by first|exact hform.2.2|(simp[hform.2.2])),.inr (.inl rfl),.inr (.inr (.inl ⟨.inr (.inr rfl),hform.2.1⟩))⟩
   by_cases k6:kind=6
   ·subst k6
    simp at hform
    have h2':=h2.1.1.1
    have h3':=h3.1.1.1
    simp at h2' h3' c6
    obtain⟨d1,d2⟩:=uH H h2' h3' c6
    exact⟨hlvi,.inr d2,.inr (.inr (.inl rfl)),.inr Yn,.inr (.inr Yo),.inr (.inr (.inr (.inl ⟨rfl,d1⟩)))⟩
   by_cases k7:kind=7
   ·subst k7
    simp at hform c7
    rw[hno hform.1]
    refine⟨hlvi,.inr rfl,.inr (.inr (.inr rfl)),.inr Yn,.inr (.inr Yo),.inr (.inr (.inr (.inr ⟨rfl,?_⟩)))⟩
    by_cases h0:e.length=0
    ·exact .inl h0
    ·have hp:0<e.length:=a6
     exact .inr ⟨by first|exact c7 hp|exact c7 (R7.1 hp)|(simp_all),by omega⟩
   ·simp[k1,k2,k3,k4,k5,k6,k7] at hform
theorem jf {w:Bool} (H:mZ fs W k fnd (cP o i)):∀(l:List Stm) (lv:Nat),dG lv l=true→dH (fun a b _=>bC fnd k a b) l=true→dH (fun a b c=>fe fnd fs k a b c) l=true→cJ fs w l=true→rSs W (sigs fs) k w lv (cQ o i l)
 |[],lv,_,_,_,_=>by rw[cQ,rSs];trivial
 |s::l,lv,h1,h2,h3,h4=>by
   rw[dG,s9] at h1
   rw[dH,s9] at h2 h3
   rw[cJ,s9] at h4
   rw[cQ,rSs]
   exact⟨xY H s lv h1.1 h2.1 h3.1 h4.1,jf H l lv h1.2 h2.2 h3.2 h4.2⟩
end
end
end
section
theorem jS {α β γ:Type} (f:Nat→α→β) (g:β→γ) (l:List α):(l.mapIdx f).map g=l.mapIdx fun i a=>g (f i a):=by
 apply N3
 intro i
 rw[w8,N9,N9]
 cases l[i]? <;> rfl
theorem FM:∀(l:List Str) (m:Pl) (w:Int),gV l m w=((l.mapIdx fun i n=>((n,w+(i:Int),0):Str×Int×Int)).reverse++m,w+l.length)
 |[],m,w=>by simp[gV]
 |n::l,m,w=>by
   rw[gV,FM l,O6]
   simp only[N4,r0,H6,j6,J3]
   refine⟨?_,by push_cast;omega⟩
   congr 1
   ·congr 1
    congr 1
    funext i n
    simp only[J3,L1,T8]
    push_cast;omega
   ·simp
theorem FN:∀(l:List (Str×Int)) (m:Pl) (w:Int),gA l m w=((l.mapIdx fun i a=>((a.1,w+((l.take i).map (·.2)).sum,a.2):Str×Int×Int)).reverse++m,w+(l.map (·.2)).sum)
 |[],m,w=>by simp[gA]
 |n::l,m,w=>by
   rw[gA,FN l,O6]
   simp only[N4,r0,H6,l7,F9,J3]
   refine⟨?_,a6⟩
   congr 1
   ·congr 1
    congr 1
    funext i n
    simp only[F8,l7,F9,J3,L1,T8]
    omega
   ·simp
theorem KI:∀(l:List Fn) (j:Nat) (m:Pl),gF j l m=(l.mapIdx fun i f=>((f.name,((j+i:Nat):Int),0):Str×Int×Int)).reverse++m
 |[],j,m=>by simp[gF]
 |n::l,j,m=>by
   rw[gF,KI l,O6]
   simp only[N4,r0,H6]
   congr 1
   ·congr 1
    congr 1
    funext i n
    simp only[J3,L1,T8]
    push_cast;omega
theorem FO (w:Int):∀(l:List Str) (j:Nat) (m:Pl),lP w j l m=(l.mapIdx fun i n=>((n,w+((j+i:Nat):Int),0):Str×Int×Int)).reverse++m
 |[],j,m=>by simp[lP]
 |n::l,j,m=>by
   rw[lP,FO w l,O6]
   simp only[N4,r0,H6]
   congr 1
   ·congr 1
    congr 1
    funext i n
    simp only[J3,L1,T8]
    push_cast;omega
theorem sC (enc:Nat×Nat→Int×Int) (s:Str):∀(n:Nat) (T:List Th),T.length=n→bK [] T=true→iw ((T.map fun t=>(t.1,enc t.2)).reverse) s=(aF T s).map enc:=by
 intro n
 induction n with
 |zero=>intro T hT _;rw[J6.1 hT];rfl
 |succ n ih=>
   intro T hT hu
   obtain⟨l,t,rfl⟩:∃l t,T=l++[t]:=⟨T.dropLast,T.getLast (by intro h;rw[h] at hT;cases hT),(N0 _).symm⟩
   rw[oV,s9] at hu
   have hl:l.length=n:=by rw[j4] at hT;simpa using hT
   have hn:aF l t.1=none:=by simpa using hu.2
   rw[A3,R8,qs]
   simp only[l7,v8,N4,List.reverse_nil,y1,H6,iw]
   by_cases hs:t.1=s
   ·rw[if_pos hs]
    rw[hs] at hn
    rw[hn]
    simp[aF,hs]
   ·rw[if_neg hs,ih l hl hu.1]
    cases aF l s with
    |some x=>rfl
    |none=>simp[aF,hs]
def sD (p:Prog) (n:Nat):Int:=p.vars.length+((p.arrays.take n).map (·.2)).sum
def vP (p:Prog) (n:Nat):Int:=((p.arrays[n]?).map (·.2)).getD 0
def sE (p:Prog) (w:Int) (t:Nat×Nat):Int×Int:=if t.1=3 then(sD p t.2,vP p t.2) else if t.1=1 then(w+t.2,0) else((t.2:Int),0)
theorem sF (p:Prog) (w:Int):(aP p).1=((bg p).map fun t=>(t.1,sE p w t.2)).reverse:=by
 unfold aP bg
 simp only
 rw[KI,FN,FM]
 simp only[A3,R8,l8]
 congr 1
 ·congr 1
  unfold thF
  rw[jS]
  congr 1
  funext i f
  simp[sE]
 ·congr 1
  ·congr 1
   apply N3
   intro i
   unfold thA
   rw[w8,N9,N9]
   cases hq:p.arrays[i]? with
   |none=>rfl
   |some a=>simp[sE,sD,vP,hq]
  ·congr 1
   unfold thV
   rw[jS]
   congr 1
   funext i f
   simp[sE]
theorem tw (p:Prog) (f:Fn) (w:Int):lP (w+f.params.length) 0 f.locals (lP w 0 f.params [])=((bn f).map fun t=>(t.1,sE p w t.2)).reverse:=by
 unfold bn
 rw[FO,FO]
 simp only[A3,R8,l8]
 congr 1
 ·congr 1
  unfold thL
  rw[jS]
  congr 1
  funext i f
  simp[sE]
  omega
 ·congr 1
  unfold thL
  rw[jS]
  congr 1
theorem oO (p:Prog) (f:Fn) (w:Int) (h1:bK [] (bg p)=true) (h2:bK [] (bn f)=true) (s:Str) :
  cP (aP p).1 (lP (w+f.params.length) 0 f.locals (lP w 0 f.params [])) s=((aS (bg p) (bn f) s).map (sE p w)).getD (0,0):=by
 unfold cP aS
 rw[sF p w,tw p f w,sC _ s _ _ rfl h1,sC _ s _ _ rfl h2]
 cases aF (bn f) s <;> rfl
theorem uC (s:Str):∀(fs:List Fn) (j n:Nat),aF (fs.mapIdx fun i f=>((f.name,4,j+i):Th)) s=some (4,n)→∃m f,n=j+m∧fs[m]? = some f∧cl fs s=some f
 |[],j,n,h=>by simp[aF] at h
 |f::fs,j,n,h=>by
   rw[O6] at h
   simp only[aF,cl] at h ⊢
   by_cases hs:f.name=s
   ·rw[if_pos hs] at h
    cases h
    exact⟨0,f,rfl,rfl,by rw[if_pos hs]⟩
   ·rw[if_neg hs] at h
    have e:(fs.mapIdx fun i f=>((f.name,4,j+(i+1)):Th))=fs.mapIdx fun i f=>((f.name,4,(j+1)+i):Th):=by
     congr 1
     funext i f
     simp only[J3,T8]
     omega
    rw[e] at h
    obtain⟨m,g,h1,h2,h3⟩:=uC s fs (j+1) n h
    exact⟨m+1,g,a6,h2,by rw[if_neg hs];exact h3⟩
variable {t:Th}{vs:List Str}{as_:List (Str×Int)}
theorem FP{s:Str}{k n:Nat} (h:(s,k,n)∈thA as_):∃a,as_[n]? = some a∧k=3:=by
 simp only[thA,H9] at h
 obtain⟨i,hi,e⟩:=h
 cases e
 exact⟨_,w9 hi,rfl⟩
theorem FQ{s:Str}{k n:Nat} (h:(s,k,n)∈thV vs):n<vs.length∧k=2:=by
 simp only[thV,H9] at h
 obtain⟨i,hi,e⟩:=h
 cases e
 exact⟨hi,rfl⟩
theorem Nl (h:t∈thV vs):t.1∈vs:=by
 simp only[thV,H9] at h
 obtain⟨i,hi,rfl⟩:=h
 exact O0 hi
theorem Nm (h:t∈thA as_):∃a∈as_,t.1=a.1:=by
 simp only[thA,H9] at h
 obtain⟨i,hi,rfl⟩:=h
 exact⟨_,O0 hi,rfl⟩
theorem Nn {fs:List Fn} (h:t∈thF fs):∃f∈fs,t.1=f.name:=by
 simp only[thF,H9] at h
 obtain⟨i,hi,rfl⟩:=h
 exact⟨_,O0 hi,rfl⟩
theorem FR {j:Nat} (h:t∈thL j vs):t.1∈vs:=by
 simp only[thL,H9] at h
 obtain⟨i,hi,rfl⟩:=h
 exact O0 hi
theorem jE:cO []=false:=by simp[cO]
theorem FS {p:Prog}{f:Fn} (hr:dS p=true) (hf:f∈p.funcs):aS (bg p) (bn f) []=none:=by
 unfold dS at hr
 simp only[s9,x7] at hr
 obtain⟨⟨_,hv⟩,ha,hfs⟩:=hr
 have hff:=hfs f hf
 unfold eC at hff
 simp only[s9,x7] at hff
 unfold aS
 have n1:aF (bn f) []=none:=by
  cases h:aF (bn f) [] with
  |none=>rfl
  |some x=>
    exfalso
    have hm:=ei h
    unfold bn at hm
    rcases D1.1 hm with hm|hm
    ·have:=hff.2.1.1 _ (FR hm);simp only[jE] at this;cases this
    ·have:=hff.2.1.2 _ (FR hm);simp only[jE] at this;cases this
 have n2:aF (bg p) []=none:=by
  cases h:aF (bg p) [] with
  |none=>rfl
  |some x=>
    exfalso
    have hm:=ei h
    unfold bg at hm
    rcases D1.1 hm with hm|hm
    ·rcases D1.1 hm with hm|hm
     ·have:=hv _ (Nl hm);simp only[jE] at this;cases this
     ·obtain⟨a,ha1,ha2⟩:=Nm hm
      have:=ha a ha1
      unfold fF at this
      exact W4
    ·obtain⟨a,ha1,ha2⟩:=Nn hm
     have:=hfs a ha1
     unfold eC at this
     exact W4
 rw[n1,n2]
theorem lw (o:Pl):∀(l:List Fn) (w:Int) (k:Nat) (f:Fn),l[k]? = some f→∃w',w≤w'∧(cX o l w).1[k]? = some (mF o f w')∧w'+(f.params.length+f.locals.length)≤(cX o l w).2
 |[],w,k,f,h=>by simp at h
 |g::l,w,0,f,h=>by
   simp at h
   subst h
   refine⟨w,G6 _,rfl,?_⟩
   simp only[cX]
   have:∀(l:List Fn) (w:Int),w≤(cX o l w).2:=by
    intro l
    induction l with
    |nil=>intro w;exact G6 _
    |cons a l ih=>intro w;simp only[cX];have:=ih (w+(a.params.length+a.locals.length));omega
   exact this _ _
 |g::l,w,k+1,f,h=>by
   obtain⟨w',h1,h2,h3⟩:=lw o l (w+(g.params.length+g.locals.length)) k f YC
   refine⟨w',a6,?_,?_⟩
   ·simp only[cX,l9];exact h2
   ·simp only[cX];exact h3
theorem uD (o:Pl):∀(l:List Fn) (w:Int),w≤(cX o l w).2
 |[],w=>G6 _
 |a::l,w=>by simp only[cX];have:=uD o l (w+(a.params.length+a.locals.length));omega
theorem jF (o:Pl):∀(l:List Fn) (w:Int),(cX o l w).1.length=l.length
 |[],w=>rfl
 |a::l,w=>by simp only[cX,j6,jF o l]
theorem qp:∀(l:List (Str×Int)) (n:Nat) (a:Str×Int),(∀x∈l,1≤x.2)→l[n]? = some a→((l.take n).map (·.2)).sum+a.2≤(l.map (·.2)).sum∧0≤((l.take n).map (·.2)).sum
 |[],n,a,_,h=>by simp at h
 |x::l,0,a,hp,h=>by
   simp at h;subst h
   have:∀m:List (Str×Int),(∀x∈m,1≤x.2)→0≤(m.map (·.2)).sum:=by
    intro m hm
    induction m with
    |nil=>simp
    |cons y m ih=>have h1:=ih (fun z hz=>hm z (by simp[hz]));have h2:=hm y a7;simp only[l7,F9];omega
   have h0:=this l (fun z hz=>hp z (by simp[hz]))
   simp only[I3,v8,R9,l7,F9]
   omega
 |x::l,n+1,a,hp,h=>by
   have ih:=qp l n a (fun z hz=>hp z (by simp[hz])) YC
   have:=hp x a7
   simp only[F8,l7,F9]
   omega
theorem FT {p:Prog}{f:Fn}{k:Nat}{w W:Int} (hr:dS p=true) (h1:bK [] (bg p)=true) (h2:bK [] (bn f)=true) (hf:f∈p.funcs) (hw0:(aP p).2≤w) (hW:w+(f.params.length+f.locals.length)≤W) :
  mZ p.funcs W k (aS (bg p) (bn f)) (cP (aP p).1 (lP (w+f.params.length) 0 f.locals (lP w 0 f.params []))):=by
 have hg:(aP p).2=p.vars.length+(p.arrays.map (·.2)).sum:=by
  unfold aP;simp only;rw[FN,FM];simp
 have har:∀a∈p.arrays,1≤a.2∧a.2≤4096:=by
  unfold dS at hr
  simp only[s9,x7] at hr
  intro a ha
  have:=hr.2.1 a ha
  unfold fF at this
  simp at this
  omega
 have har1:∀a∈p.arrays,1≤a.2:=fun a ha=>(har a ha).1
 have hsum0:0≤(p.arrays.map (·.2)).sum:=by
  have:∀m:List (Str×Int),(∀x∈m,1≤x.2)→0≤(m.map (·.2)).sum:=by
   intro m hm
   induction m with
   |nil=>simp
   |cons y m ih=>have h1:=ih (fun z hz=>hm z (by simp[hz]));have h2:=hm y a7;simp only[l7,F9];omega
  exact this _ har1
 have hout:∀{s:Str}{t:Nat×Nat},aF (bn f) s=some t→t.1=1∧t.2<f.params.length+f.locals.length:=fun {s t} h=>by
  have hm:=ei h
  unfold bn at hm
  rcases D1.1 hm with hm|hm
  ·have:=AY hm;exact⟨this.1,a6⟩
  ·have:=AY hm;exact⟨this.1,a6⟩
 have hin:∀{s:Str}{t:Nat×Nat},aF (bg p) s=some t→(t.1=2∧t.2<p.vars.length)∨(t.1=3∧∃a,p.arrays[t.2]? = some a)∨t.1=4:=fun {s t} h=>by
  have hm:=ei h
  unfold bg at hm
  rcases D1.1 hm with hm|hm
  ·rcases D1.1 hm with hm|hm
   ·have:=FQ hm;exact .inl ⟨this.2,this.1⟩
   ·obtain⟨a,ha,hk⟩:=FP hm;exact .inr (.inl ⟨hk,a,ha⟩)
  ·exact .inr (.inr (Gg hm).1)
 refine⟨?_,fun s kd n hs hk=>?_,fun s n hs=>?_,fun s n hs hn=>?_⟩
 ·rw[oO p f w h1 h2,FS hr hf];rfl
 ·rw[oO p f w h1 h2,hs]
  simp only[x8,y7]
  unfold aS at hs
  cases hq:aF (bn f) s with
  |some t=>
    rw[hq] at hs
    cases hs
    have:=hout hq
    simp only at this
    obtain⟨rfl,hlt⟩:=this
    simp only[sE,show ¬(1:Nat)=3 by decide,A4,A5]
    exact⟨⟨a6,a6,a6,a6⟩,trivial⟩
  |none=>
    rw[hq] at hs
    simp only at hs
    rcases hin hs with⟨h3,h4⟩|⟨h3,_⟩|h3
    ·simp only at h3 h4
     subst h3
     simp only[sE,show ¬(2:Nat)=3 by decide,show ¬(2:Nat)=1 by decide,A4]
     exact⟨⟨a6,a6,a6,a6⟩,trivial⟩
    ·simp only at h3;omega
    ·simp only at h3;omega
 ·rw[oO p f w h1 h2,hs]
  simp only[x8,y7]
  unfold aS at hs
  cases hq:aF (bn f) s with
  |some t=>
    exact XB
  |none=>
    rw[hq] at hs
    simp only at hs
    rcases hin hs with⟨h3,h4⟩|⟨_,a,ha⟩|h3
    ·simp only at h3;omega
    ·simp only at ha
     simp only[sE,A5,sD,vP,ha,x8,y7]
     have hb:=har a (l6 ha)
     have hs2:=qp p.arrays n a har1 ha
     exact⟨hb.1,hb.2,a6,a6,a6,a6⟩
    ·simp only at h3;omega
 ·rw[oO p f w h1 h2,hs]
  simp only[x8,y7,sE,show ¬(4:Nat)=3 by decide,show ¬(4:Nat)=1 by decide,A4,T8]
  unfold aS at hs
  cases hq:aF (bn f) s with
  |some t=>
    exact XB
  |none=>
    rw[hq] at hs
    simp only at hs
    unfold bg at hs
    rw[qs] at hs
    cases hva:aF (thV p.vars++thA p.arrays) s with
    |some t=>
      rw[hva] at hs
      cases hs
      have hm:=ei hva
      rcases D1.1 hm with hm|hm
      ·have:=(FQ hm).2;omega
      ·obtain⟨_,_,h⟩:=FP hm;omega
    |none=>
      rw[hva] at hs
      simp only at hs
      unfold thF at hs
      have e:(p.funcs.mapIdx fun i f=>((f.name,4,i):Th))=p.funcs.mapIdx fun i f=>((f.name,4,0+i):Th):=by
       congr 1;funext i f;simp
      rw[e] at hs
      obtain⟨m,g,e1,e2,e3⟩:=uC s p.funcs 0 n hs
      obtain rfl:n=m:=a6
      exact⟨g,e2,e3⟩
end
section
theorem nL {α:Type}{c:Nat→α→Bool}:∀{l:List α}{j k:Nat}{x:α},df c j l=true→l[k]? = some x→c (j+k) x=true
 |[],j,k,x,_,h=>by simp at h
 |a::l,j,0,x,h1,h2=>by
   simp at h2;subst h2
   rw[df,s9] at h1
   exact h1.1
 |a::l,j,k+1,x,h1,h2=>by
   rw[df,s9] at h1
   have:=nL h1.2 (k:=k) (x:=x) (by simpa using h2)
   rw[show j+(k+1)=j+1+k by omega]
   exact this
variable {p:Prog}
theorem xD (h:cC p=0):dS p=true∧iT p=0∧nO p=0:=by
 unfold cC at h
 split at h
 ·cases h
 ·rename_i hr
  split at h
  ·rename_i hs;exact absurd h hs
  ·rename_i hs
   exact⟨by simpa using hr,by simpa using hs,h⟩
theorem xE (h:iT p=0) (hl:1≤p.funcs.length):bK [] (bg p)=true∧df (jZ p) 0 p.funcs=true∧df (zC p) 0 p.funcs=true:=by
 unfold iT at h
 split at h
 ·cases h
 ·rename_i hn
  have hn2:(bK [] (bg p)&&df (jZ p) 0 p.funcs)=true:=by simpa using hn
  rw[s9] at hn2
  split at h
  ·rename_i hlast
   rw[List.getLast?_eq_none_iff] at hlast
   rw[hlast] at hl
   simp at hl
  ·split at h
   ·rename_i hc;exact⟨hn2.1,hn2.2,hc.1⟩
   ·cases h
theorem No (h:cC p=0) {k:Nat}{x:CFn} (hx:(al p).funcs[k]? = some x):rSs (al p).words (sigs p.funcs) k x.word 1 x.body:=by
 obtain⟨hr,hs,ht⟩:=xD h
 have hl:1≤p.funcs.length:=by unfold dS at hr;simp at hr;exact hr.1.1.1
 obtain⟨hu,hnm,hnu⟩:=xE hs hl
 unfold al at hx ⊢
 simp only at hx ⊢
 have hk:k<p.funcs.length:=by
  have:=(l4.1 hx).1
  rw[jF] at this
  exact this
 obtain⟨f,hf⟩:∃f,p.funcs[k]? = some f:=⟨_,w9 hk⟩
 obtain⟨w',h1,h2,h3⟩:=lw (aP p).1 p.funcs (aP p).2 k f hf
 rw[hx] at h2
 cases h2
 have hmem:=l6 hf
 have g1:=nL hnm hf
 have g2:=nL hnu hf
 rw[C5] at g1 g2
 unfold jZ at g1
 rw[s9] at g1
 unfold zC at g2
 have hfn:eC f=true:=by
  unfold dS at hr
  simp only[s9,x7] at hr
  exact hr.2.2 f hmem
 have hbody:dG 1 f.body=true:=by
  unfold eC at hfn
  simp only[s9] at hfn
  exact hfn.2.2
 have hty:cJ p.funcs f.word f.body=true:=by
  unfold nO at ht
  split at ht
  ·cases ht
  ·split at ht
   ·cases ht
   ·rename_i hq
    have:(p.funcs.all fun f=>cJ p.funcs f.word f.body)=true:=by simpa using hq
    rw[x7] at this
    exact this f hmem
 have hP:=FT (p:=p) (f:=f) (k:=k) (w:=w') (W:=(cX (aP p).1 p.funcs (aP p).2).2) hr hu g1.1 hmem h1 a6
 unfold mF
 simp only
 have:=jf (w:=f.word) hP f.body 1 hbody g1.2 g2 hty
 exact WO
end
end
section
open Go.Lower (cE cEs cAO nd cS cSs one mD iZ leave jX ifC qE codeOf)
mutual
def cnE:Lower.Ex→Nat
 |.mk _ _ _ _ _ kids=>nf kids+1
def nf:List Lower.Ex→Nat
 |[]=>0
 |e::l=>cnE e+nf l
end
mutual
def cnS:Lower.Stm→Nat
 |.mk _ _ _ e th el=>nf e+lK th+lK el+1
def lK:List Lower.Stm→Nat
 |[]=>0
 |s::l=>cnS s+lK l
end
mutual
theorem FU (o i:Pl):∀e:Ex,cnE (fA o i e)=szE e
 |.mk kind op num name kids=>by rw[fA,cnE,szE,pH o i kids]
theorem pH (o i:Pl):∀l:List Ex,nf (dm o i l)=bF l
 |[]=>by rw[dm,nf,bF]
 |e::l=>by rw[dm,nf,bF,FU o i e,pH o i l]
end
mutual
theorem FV (o i:Pl):∀e:Stm,cnS (coreS o i e)=szS e
 |.mk kind name e th el=>by rw[coreS,cnS,szS,pH,mX o i th,mX o i el]
theorem mX (o i:Pl):∀l:List Stm,lK (cQ o i l)=bu l
 |[]=>by rw[cQ,lK,bu]
 |e::l=>by rw[cQ,lK,bu,FV o i e,mX o i l]
end
theorem one_le {kind op num slot size d:Int}:(Lower.one kind op num slot size d).length≤1:=by
 unfold Lower.one
 repeat' split
 all_goals simp
theorem FW {kind d:Int}:(iZ kind d).length≤1:=by unfold iZ;split <;> simp
mutual
theorem FX:∀(e:Lower.Ex) (at':Nat) (d:Int),(cE at' d e).length≤6*cnE e
 |.mk kind op num slot size kids,at',d=>by
   rw[cE,cnE]
   split
   ·exact Np kids at' d kind
   ·rw[j4]
    have:=pE kids at' d
    have:=one_le (kind:=kind) (op:=op) (num:=num) (slot:=slot) (size:=size) (d:=d+kids.length)
    omega
theorem pE:∀(l:List Lower.Ex) (at':Nat) (d:Int),(cEs at' d l).length≤6*nf l
 |[],at',d=>by rw[cEs];simp
 |e::l,at',d=>by
   rw[cEs,nf,j4]
   have:=FX e at' d
   have:=pE l (at'+(cE at' d e).length) (d+1)
   omega
theorem Np:∀(l:List Lower.Ex) (at':Nat) (d kind:Int),(cAO at' d kind l).length≤6*(nf l+1)
 |[],at',d,kind=>by rw[cAO];simp
 |e::l,at',d,kind=>by
   rw[cAO,nf]
   unfold mD
   simp only[j4,j6,j7]
   have h1:=FX e at' d
   have h2:=AU l (at'+(cE at' d e).length+(iZ kind d).length+3) d
   have h3:=FW (kind:=kind) (d:=d)
   omega
theorem AU:∀(l:List Lower.Ex) (at':Nat) (d:Int),(nd at' d l).length≤6*nf l
 |[],at',d=>by rw[nd];simp
 |e::l,at',d=>by
   rw[nd,nf]
   have:=FX e at' d
   omega
end
theorem xF {w:Bool}:(leave w).length≤2:=by unfold leave;split <;> simp
theorem Jo {w:Bool}{kind slot size:Int}{n:Nat}:(qE w kind slot size n).length≤2:=by
 unfold qE
 have:=xF (w:=w)
 repeat' split
 all_goals first|assumption|simp
mutual
theorem RM (w:Bool):∀(s:Lower.Stm) (at':Nat),(cS w at' s).length≤6*cnS s
 |.mk kind slot size e th el,at'=>by
   rw[cS,cnS]
   split
   ·unfold jX
    simp only[j4,j6,j7]
    have h1:=AU e at' 0
    have h2:=mt w th (at'+(nd at' 0 e).length+1)
    omega
   ·rw[j4]
    have h1:=pE e at' 0
    split
    ·unfold ifC
     split
     ·simp only[j4,j6,j7]
      have h2:=mt w th (at'+(cEs at' 0 e).length+1)
      have h3:=mt w el (at'+(cEs at' 0 e).length+1+(cSs w (at'+(cEs at' 0 e).length+1) th).length+1)
      omega
     ·simp only[j6]
      have h2:=mt w th (at'+(cEs at' 0 e).length+1)
      omega
    ·have:=Jo (w:=w) (kind:=kind) (slot:=slot) (size:=size) (n:=e.length)
     omega
theorem mt (w:Bool):∀(l:List Lower.Stm) (at':Nat),(cSs w at' l).length≤6*lK l
 |[],at'=>by rw[cSs];simp
 |e::l,at'=>by
   rw[cSs,lK,j4]
   have:=RM w e at'
   have:=mt w l (at'+(cS w at' e).length)
   omega
end
theorem Ot (w:Bool) (l:List Lower.Stm):(codeOf w l).length≤6*lK l+2:=by
 unfold codeOf
 rw[j4]
 have:=mt w l 0
 have:=xF (w:=w)
 omega
theorem Jp {α:Type} (f:α→Nat):∀{l:List α}{x:α},x∈l→f x≤(l.map f).sum
 |a::l,x,h=>by
   simp only[l7,F9]
   rcases x9.1 h with rfl|h
   ·omega
   ·have:=Jp f h;omega
theorem xG (o:Pl):∀(l:List Fn) (w:Int),((cX o l w).1.map fun x=>lK x.body).sum=(l.map fun f=>bu f.body).sum
 |[],w=>rfl
 |f::l,w=>by
   simp only[cX,l7,F9,xG o l]
   unfold mF
   simp only[mX]
end
end Go.Src
namespace Go.Proofs.YtgiigidgdhplfaaGreatDoor.Low
section
open Go Go.Am Go.Lower
open Go.Src (cnE nf cnS lK al cC)
mutual
theorem EI:∀e:Ex,ky e+1=cnE e
 |.mk _ _ _ _ _ kids=>by rw[ky,cnE,px kids]
theorem px:∀l:List Ex,fJ l=nf l
 |[]=>by rw[fJ,nf]
 |e::l=>by rw[fJ,nf,←EI e,px l];omega
end
mutual
theorem EJ:∀e:Stm,lC e+1=cnS e
 |.mk _ _ _ e th el=>by rw[lC,cnS,px e,mR th,mR el]
theorem mR:∀l:List Stm,dP l=lK l
 |[]=>by rw[dP,lK]
 |e::l=>by rw[dP,lK,←EJ e,mR l];omega
end
theorem qg (l:List Src.Fn):(l.map fun f=>Src.bu f.body).sum≤(l.map fun f=>f.params.length+f.locals.length+Src.bu f.body).sum:=by
 induction l with
 |nil=>exact l0 _
 |cons a l ih=>simp only[l7,F9];omega
theorem Iv {p:Src.Prog} (h:cC p=0) (hsz:szP p≤1000000):aG Tryz.prog 41 [nj (al p)] (· = gy (al p).words (al p).funcs):=by
 unfold szP at hsz
 have hs1:=Src.xG (Src.aP p).1 p.funcs (Src.aP p).2
 have hs2:=qg p.funcs
 have hsum:((al p).funcs.map fun x=>lK x.body).sum≤1000000:=by unfold al;simp only;omega
 refine Mh (ps:=Src.sigs p.funcs) ?_ ?_ ?_ (fun k x hx=>Src.No h hx)
 ·unfold ue
  rw[show (fun x:Src.CFn=>dP x.body)=fun x=>lK x.body from funext fun x=>mR x.body]
  omega
 ·rw[Src.jF]
  omega
 ·intro x hx
  have h1:=Src.Ot x.word x.body
  have h2:=Src.Jp (fun x:Src.CFn=>lK x.body) hx
  omega
end
section
attribute [local congr] Go.Am.ite_cc
open Go Go.Am Go.Lower
section
variable {x:Ins}
theorem wV {ps:Sig}{word:Bool}{r:Int×Int} (h:takes ps word x=some r):x.op=1∨x.op=2∨x.op=3∨x.op=4∨x.op=5∨x.op=6∨x.op=7∨x.op=8∨x.op=9∨x.op=10∨x.op=11∨x.op=12∨x.op=13:=by
 unfold takes at h
 by_cases h1:x.op=1∨x.op=2∨x.op=12
 ·omega
 exact VQ
def ksD (l:List Int):D:=.sl (l.map fun k=>[.int .i64 k])
theorem Mj {at':Nat} (hat:at'≤1000000000):aG Tryz.prog 139 [.agg ((bb x).map .d),iv .i64 at'] (· = .one (.d (ksD (next x at')))):=by
 refine hdP Tryz.func139 rfl [4] fun g=>?_
 obtain⟨op,a,b,n⟩:=x
 have hw:=ah (k:=at') a6
 by_cases h8:op=8
 ·subst h8
  simp only[go_sem,bb]
  exact⟨_,⟨_,cL (s:=⟨_,_,_⟩) rfl [a] (fun k=>[.int .i64 k]) (by simp only[upd];rfl) rfl (fun _ _ y hy=>by simp at hy;subst hy;rfl) (fun _ _=>rfl) rfl,rfl⟩,rfl⟩
 by_cases h9:op=9
 ·subst h9
  simp only[go_sem,bb,hw]
  exact⟨_,⟨_,cL (s:=⟨_,_,_⟩) rfl [((at'+1:Nat):Int),a] (fun k=>[.int .i64 k]) (by simp only[upd];rfl) rfl (fun _ _ y hy=>by simp at hy;subst hy;rfl) (fun _ _=>rfl) rfl,rfl⟩,rfl⟩
 by_cases h11:op=11
 ·subst h11
  simp only[go_sem,bb]
  rfl
 ·simp only[go_sem,bb,h8,h9,h11,hw]
  have e:next ⟨op,a,b,n⟩ at'=[((at'+1:Nat):Int)]:=by simp[next,h8,h9,h11]
  rw[e]
  exact⟨_,⟨_,cL (s:=⟨_,_,_⟩) rfl [((at'+1:Nat):Int)] (fun k=>[.int .i64 k]) (by simp only[upd];rfl) rfl (fun _ _ y hy=>by simp at hy;subst hy;rfl) (fun _ _=>rfl) rfl,rfl⟩,rfl⟩
def Iw (fs:List Src.CFn):Sig:=fs.map fun x=>(x.params,x.word)
theorem qO (b:Bool):aG Tryz.prog 191 [bv b] (· = iv .i64 (if b then 1 else 0)):=by
 refine hdP Tryz.func191 rfl [2] fun g=>?_
 cases b <;> (simp only[go_sem])
theorem EK {w:Int}{fs:List Src.CFn}{f:Nat}{fx:Src.CFn} (hf:fs[f]? = some fx){t p d:Int} (h:takes (Iw fs) fx.word x=some (t,p)) (h0:0≤t) (htd:t≤d) (hd:d≤1000000000) (h11:x.op=11→d=t) :
  aG Tryz.prog 138 [gy w fs,iv .i64 f,.agg ((bb x).map .d),iv .i64 d] (· = .tup [iv .i64 (if x.op=11 then 0 else d-t+p),bv true]):=by
 refine hdP Tryz.func138 rfl [8,9] fun g=>?_
 have hop:=wV h
 obtain⟨op,a,b,n⟩:=x
 have hfl:f<fs.length:=(l4.1 hf).1
 unfold gy
 simp only at hop h11
 have hw1:IntKind.i64.wrap (d-t)=d-t:=by rw[wrap_i64] <;> omega
 have h30:IntKind.i64.wrap (d-t+0)=d-t+0:=by rw[wrap_i64] <;> omega
 have h31:IntKind.i64.wrap (d-t+1)=d-t+1:=by rw[wrap_i64] <;> omega
 rcases hop with rfl|rfl|rfl|rfl|rfl|rfl|rfl|rfl|rfl|rfl|rfl|rfl|rfl
 all_goals try (obtain⟨rfl,rfl⟩:_=t∧_=p:=by simpa[takes] using h)
 ·simp only[go_sem,bb,hw1,h30,h31,htd]
 ·simp only[go_sem,bb,hw1,h30,h31,htd]
 ·simp only[go_sem,bb,hw1,h30,h31,htd]
 ·simp only[go_sem,bb,hw1,h30,h31,htd]
 ·simp only[go_sem,bb,hw1,h30,h31,htd]
 ·simp only[go_sem,bb,hw1,h30,h31,htd]
 ·simp only[go_sem,bb,hw1,h30,h31,htd]
 ·simp only[go_sem,bb,hw1,h30,h31,htd]
 ·simp only[go_sem,bb,hw1,h30,h31,htd]
 ·by_cases ha:a<0
  ·simp[takes,ha] at h
  ·obtain⟨k,rfl⟩:∃k:Nat,a=(k:Int):=⟨a.toNat,a6⟩
   simp only[takes,Iw,ha,A4,A6,w8,Option.map_map] at h
   cases hk:fs[k]? with
   |none=>simp[hk] at h
   |some y=>
     have hkl:k<fs.length:=(l4.1 hk).1
     have hkl':¬fs.length≤k:=a6
     have hkl2:(k:Int)<(fs.length:Int):=a6
     have hkl3:¬(fs.length:Int)≤(k:Int):=a6
     have hk0:(0:Int)≤(k:Int):=a6
     cases hw:y.word with
     |false=>
       obtain⟨rfl,rfl⟩:y.params=t∧(0:Int)=p:=by simpa[hk,hw] using h
       have hy0:¬y.params<0:=a6
       simp only[go_sem,bb,hk,hkl,hkl',hkl2,hkl3,hk0,ha,hw,sfD,j5,hy0]
       refine eR aB mixed b9 ?_
       simp only[go_sem,bb,hk,hkl,hkl',hkl2,hkl3,hk0,ha,hw,sfD,j5,hy0]
       refine bT rfl (qO false) (cg rfl) rfl ?_
       simp only[go_sem,bb,hk,hkl,hkl',hkl2,hkl3,hk0,ha,hw,sfD,j5,hy0,hw1,h30,htd,B8]
     |true=>
       obtain⟨rfl,rfl⟩:y.params=t∧(1:Int)=p:=by simpa[hk,hw] using h
       have hy0:¬y.params<0:=a6
       simp only[go_sem,bb,hk,hkl,hkl',hkl2,hkl3,hk0,ha,hw,sfD,j5,hy0]
       refine eR aB mixed b9 ?_
       simp only[go_sem,bb,hk,hkl,hkl',hkl2,hkl3,hk0,ha,hw,sfD,j5,hy0]
       refine bT rfl (qO true) (cg rfl) rfl ?_
       simp only[go_sem,bb,hk,hkl,hkl',hkl2,hkl3,hk0,ha,hw,sfD,j5,hy0,hw1,h31,htd]
 ·have hd2:=h11 rfl
  have hf0:(0:Int)≤(f:Int):=a6
  have hf1:(f:Int)<(fs.length:Int):=a6
  cases hw:fx.word with
  |false=>
    obtain⟨rfl,rfl⟩:(0:Int)=t∧(0:Int)=p:=by simpa[takes,hw] using h
    simp only[go_sem,bb,hf,hf0,hf1,hfl,sfD,j5,hw]
    refine dX rfl (qO false) c9 ?_
    rintro _ rfl
    simp only[go_sem,s5 hd2,B8]
  |true=>
    obtain⟨rfl,rfl⟩:(1:Int)=t∧(0:Int)=p:=by simpa[takes,hw] using h
    simp only[go_sem,bb,hf,hf0,hf1,hfl,sfD,j5,hw]
    refine dX rfl (qO true) c9 ?_
    rintro _ rfl
    simp only[go_sem,s5 hd2]
 ·simp only[go_sem,bb,hw1,h30,h31,htd]
 ·simp only[go_sem,bb,hw1,h30,h31,htd]
end
section
def icells (l:List Int):List C:=l.map fun k=>.d (.int .i64 k)
theorem bN (l:List Int):(icells l).length=l.length:=by simp[icells]
theorem fK (l:List Int) (k:Nat):(icells l)[k]? = (l[k]?).map fun k=>.d (.int .i64 k):=by simp[icells]
theorem fL (l:List Int) (k:Nat) (v:Int):(icells l).set k (.d (.int .i64 v))=icells (l.set k v):=by simp[icells,S7]
theorem jz (a b:List Int):icells (a++b)=icells a++icells b:=by simp[icells]
structure qh (T D:Nat) (l:List Int) (g:Nat→Nat) (ob:Obs):Prop where
 t:ob T=some [.osl D (g D) 1 0 l.length]
 d:∃r:List Int,ob D=some (icells (l++r))
variable {l:List Int}{B T D:Nat}{g:Nat→Nat}{ob:Obs}{gT:Nat}
theorem Ml (hB:∀i,B≤i→ob i=none) (hT:T<B) (h:qh T D l g ob) (hgT:g T=gT) :
  cB Tryz.prog 136 [.one (.ptr T gT 0)] g ob (fun r g' ob'=>g'=g∧ob'=ob∧r=iv .i64 l.length) (fun _ _ _=>False):=by
 refine hdM B [] Tryz.func136 rfl [.tmp 2] a7 hB fun b₀ β0 s0 w0=>?_
 obtain⟨h1,r,h2⟩:=h
 simp only[go_sem,h1,h2,hgT,bN,j4]
 refine⟨_,ab.refl _,?_⟩
 simp only[go_sem]
 exact aT.nil (fun i hi=>⟨rfl,rfl⟩) (rs':=[iv .i64 l.length]) ⟨_,_,rfl,.one (.d _),rfl⟩ ⟨rfl,rfl,rfl⟩
theorem yT {B:Nat}:∀c∈icells l,lI B c:=fun c hc=>by
 obtain⟨x,_,rfl⟩:=H8.1 hc
 trivial
theorem EL{x:Int} (hB:∀i,B≤i→ob i=none) (hT:T<B) (hD:D<B) (hTD:T≠D) (h:qh T D l g ob) (hgT:g T=gT) (hl:l.length≤1000000000) :
  cB Tryz.prog 135 [.one (.ptr T gT 0),iv .i64 x] g ob (fun _ g' ob'=>qh T D (l++[x]) g' ob'∧(∀i,i≠D→g' i=g i)∧∀i,i≠T→i≠D→ob' i=ob i) (fun _ _ _=>False):=by
 refine hdM B [T,D] Tryz.func135 rfl [] XQ hB fun b₀ β0 s0 w0=>?_
 obtain⟨h1,r,h2⟩:=h
 have n1:∀k,(T=B+k)=False:=fun k=>by simp;omega
 have n2:∀k,(D=B+k)=False:=fun k=>by simp;omega
 have n3:(T=D)=False:=by simp[hTD]
 have n4:(D=T)=False:=by simp[z7 hTD]
 simp only[go_sem,n1,n2,n3,n4,h1,h2,hgT,bN,j4,aC]
 refine⟨a6,⟨a8,a6⟩,?_⟩
 refine⟨_,ab.refl _,?_⟩
 simp only[go_sem]
 refine⟨⟨fun i hi hn=>?_,fun i hi cells hc=>?_⟩,[],rfl,⟨?_,?_⟩,fun i hi=>?_,fun i hi hi2=>?_⟩
 ·have h1:i≠T:=fun e=>hn YK
  have h2:i≠D:=fun e=>hn YK
  exact⟨nu,nu⟩
 ·simp only[x9,A1,E7] at hi
  rcases hi with rfl|rfl
  ·simp[upd] at hc
   subst hc
   intro c hc
   rw[C7.1 hc]
   exact hD
  ·simp[upd,n4] at hc
   subst hc
   intro c hc
   rcases D1.1 hc with hc|hc
   ·exact yT c (M1 hc)
   ·rw[C7.1 hc];trivial
 ·simp[iO,eL,upd]
 ·refine⟨[],?_⟩
  simp[eL,upd,n4]
  rw[jz]
  simp[icells]
 ·exact WQ
 ·unfold eL
  rw[if_neg (by simp[hi,hi2])]
theorem Rr{x:Int} (hB:∀i,B≤i→ob i=none) (hT:T<B) (hD:D<B) (hTD:T≠D) (h:qh T D (l++[x]) g ob) (hgT:g T=gT) (hl:l.length≤1000000000) :
  cB Tryz.prog 137 [.one (.ptr T gT 0)] g ob (fun r g' ob'=>r=iv .i64 x∧qh T D l g' ob'∧g'=g∧∀i,i≠T→ob' i=ob i) (fun _ _ _=>False):=by
 refine hdM B [T] Tryz.func137 rfl [.tmp 2] XQ hB fun b₀ β0 s0 w0=>?_
 obtain⟨h1,r,h2⟩:=h
 have n1:∀k,(T=B+k)=False:=fun k=>by simp;omega
 have n3:(T=D)=False:=by simp[hTD]
 have n4:(D=T)=False:=by simp[z7 hTD]
 have hlen:(l++[x]).length=l.length+1:=a7
 rw[hlen] at h1
 have hw:IntKind.i64.wrap (((l.length+1:Nat):Int)-1)=(l.length:Int):=by rw[wrap_i64] <;> omega
 have hg:(l++[x]++r)[l.length]? = some x:=a7
 have h0:(0:Int)≤(l.length:Int):=a6
 simp only[go_sem,n1,n3,n4,h1,h2,hgT,bN,j4,hw,fK,hg,h0]
 refine⟨a6,a6,a6,?_⟩
 refine⟨_,ab.refl _,?_⟩
 simp only[go_sem]
 refine⟨⟨fun i hi hn=>?_,fun i hi cells hc=>?_⟩,[iv .i64 x],⟨_,_,rfl,.one (.d _),rfl⟩,rfl,⟨?_,x::r,?_⟩,vy (fun i hi=>rfl),fun i hi=>?_⟩
 ·have h1:i≠T:=fun e=>hn YK
  exact⟨nu,nu⟩
 ·simp only[x9,A1,E7] at hi
  subst hi
  simp[upd] at hc
  subst hc
  intro c hc
  rw[C7.1 hc]
  exact hD
 ·rw[vy (fun i hi=>rfl)]
  simp[eL,upd]
 ·simp only[eL,x9,A1,E7,n4,A4]
  rw[h2]
  simp
 ·simp[eL,hi]
end
end
end Go.Proofs.YtgiigidgdhplfaaGreatDoor.Low
namespace Go.Emit
section
open Go.Lower (Ins Code codeOf takes next Inv left)
section
def visit (cd:Lower.Code):List Int→List Int×List Nat→List Int×List Nat
 |[],st=>st
 |y::l,st=>visit cd l (if (st.1[y.toNat]?.getD 0)<0 then(st.1.set y.toNat (((cd[y.toNat]?).map Prod.snd).getD 0),st.2++[y.toNat]) else st)
def search (cd:Lower.Code):Nat→List Int×List Nat→List Int
 |0,st=>st.1
 |n+1,st=>match st.2.getLast? with
   |none=>st.1
   |some a=>match cd[a]? with
     |none=>st.1
     |some x=>search cd n (visit cd (next x.1 a) (st.1,st.2.dropLast))
def kv (cd:Lower.Code):List Int:=search cd cd.length ((List.replicate cd.length (-1)).set 0 0,[0])
theorem yD (cd:Lower.Code) (n:Nat) (out:List Int):search cd n (out,[])=out:=by cases n <;> rfl
theorem wt (cd:Lower.Code) (n:Nat) (out:List Int) (todo:List Nat) (a:Nat) {x:Ins×Int} (h:cd[a]? = some x):search cd (n+1) (out,todo++[a])=search cd n (visit cd (next x.1 a) (out,todo)):=by
 simp only[search,List.getLast?_append,List.getLast?_singleton,Option.some_or,h,List.dropLast_concat]
variable {l:List Int}{out:List Int}{todo:List Nat}
theorem rF {cd:Lower.Code}{y:Int}{u d:Int} (h:out[y.toNat]? = some u) (hu:u<0) (hd:(cd[y.toNat]?).map Prod.snd=some d):visit cd (y::l) (out,todo)=visit cd l (out.set y.toNat d,todo++[y.toNat]):=by
 simp only[visit,h,hd,y7,hu,A5]
theorem rG {cd:Lower.Code}{y:Int}{u:Int} (h:out[y.toNat]? = some u) (hu:¬u<0):visit cd (y::l) (out,todo)=visit cd l (out,todo):=by
 simp only[visit,h,y7,hu,A4]
def deepest (l:List Int) (d:Int):Int:=l.foldl max d
theorem vh (a:Int) (l:List Int) (d:Int):deepest (a::l) d=deepest l (max d a):=rfl
def gu (n:Nat):Nat→List (List Int)→Int→List Int×List Int×Int
 |_,[],w=>([],[],w)
 |k,o::l,w=>
   let b:=if k+1=n then w else w+1
   let r:=gu n (k+1) l (b+deepest o 0)
   (w::r.1,b::r.2.1,r.2.2)
structure Plan where
 depths:List (List Int)
 back:List Int
 base:List Int
 data:Int
def vj (w:Int) (fs:List Src.CFn):Plan:=
 let ds:=fs.map fun x=>kv (codeOf x.word x.body)
 let r:=gu fs.length 0 ds w
 ⟨ds,r.1,r.2.1,r.2.2⟩
theorem wu (n:Nat):∀(l:List (List Int)) (k:Nat) (w:Int) (o:List Int),gu n k (l++[o]) w =
  let r:=gu n k l w
  let b:=if k+l.length+1=n then r.2.2 else r.2.2+1
  (r.1++[r.2.2],r.2.1++[b],b+deepest o 0)
 |[],k,w,o=>by simp[gu]
 |a::l,k,w,o=>by
   simp only[z8,gu,wu n l,j6]
   rw[show k+1+l.length+1=k+(l.length+1)+1 by omega]
theorem rH (n:Nat):∀(l:List (List Int)) (k:Nat) (w:Int),(gu n k l w).1.length=l.length∧(gu n k l w).2.1.length=l.length
 |[],k,w=>by simp[gu]
 |a::l,k,w=>by
   simp only[gu,j6]
   exact⟨by rw[(rH n l _ _).1],by rw[(rH n l _ _).2]⟩
abbrev MI:=Int×Int×Int×Int
abbrev Ho:=Int×Int×Int
structure Wr where
 code:List MI
 holes:List Ho
def eu:Nat→Wr:=fun _=>⟨[],[]⟩
def aj (op a b c:Int):Nat→Wr:=fun _=>⟨[(op,a,b,c)],[]⟩
def ao (op a f pl:Int):Nat→Wr:=fun n=>⟨[(op,a,0,0)],[((n:Int),f,pl)]⟩
def am (x y:Nat→Wr):Nat→Wr:=fun n=>⟨(x n).code++(y (n+(x n).code.length)).code,(x n).holes++(y (n+(x n).code.length)).holes⟩
def pj:List (Nat→Wr)→Nat→Wr
 |[]=>eu
 |[x]=>x
 |x::y::l=>am x (pj (y::l))
def jM (P:Plan) (f:Nat) (dp reg below:Int):Nat→Wr:=aj 16 reg 0 ((P.base[f]?).getD 0+dp-below)
def kZ (P:Plan) (f:Nat) (dp reg below:Int):Nat→Wr:=aj 17 reg 0 ((P.base[f]?).getD 0+dp-below)
def hi16 (n:Int):Int:=(n/65536+9223372036854775808)%18446744073709551616-9223372036854775808
def vk (reg n:Int):Nat→Wr:=if 65535<n then am (aj 1 reg 0 (n%65536)) (aj 2 reg 0 (hi16 n)) else aj 1 reg 0 (n%65536)
def vl (fs:List Src.CFn) (P:Plan) (f:Nat) (dp:Int):Nat→Wr:=
 if f+1=fs.length then aj 26 0 0 0
 else
  let back:=am (aj 16 14 0 ((P.back[f]?).getD 0)) (aj 22 14 0 0)
  if ((fs[f]?).map (·.word)).getD false then am (jM P f dp 1 1) back else back
def vm (a:Int):Nat→Nat→Wr
 |0=>eu
 |k+1=>am (vm a k) (aj 17 0 0 (a+k))
def vn (a b:Int):Nat→Wr:=
 if b-a≤6 then vm a (b-a).toNat
 else fun n=>⟨[(1,1,0,a),(1,2,0,b),(17,0,1,0),(4,1,1,15),(14,3,1,2),(20,3,0,(n:Int)+2)],[]⟩
def DC (P:Plan) (f:Nat) (dp params first:Int):Nat→Nat→Wr
 |0=>eu
 |k+1=>am (DC P f dp params first k) (am (jM P f dp 1 (params-k)) (aj 17 1 0 (first+k)))
def Aa (fs:List Src.CFn) (P:Plan) (f:Nat) (dp a:Int):Nat→Wr:=
 match fs[a.toNat]? with
 |none=>eu
 |some y=>am (DC P f dp y.params y.first y.params.toNat) (am (ao 21 14 a (-1)) (if y.word then kZ P f dp 1 y.params else eu))
def tg (fs:List Src.CFn) (P:Plan) (f:Nat) (dp:Int) (x:Ins):Nat→Wr:=
 if x.op=1 then am (vk 1 x.n) (kZ P f dp 1 0)
 else if x.op=2 then am (aj 16 1 0 x.a) (kZ P f dp 1 0)
 else if x.op=3 then am (jM P f dp 1 1) (aj 17 1 0 x.a)
 else if x.op=4 then am (jM P f dp 1 1) (am (aj 25 1 0 x.b) (am (aj 16 1 1 x.a) (kZ P f dp 1 1)))
 else if x.op=5 then am (jM P f dp 1 2) (am (aj 25 1 0 x.b) (am (jM P f dp 2 1) (aj 17 2 1 x.a)))
 else if x.op=6 then am (jM P f dp 1 2) (am (jM P f dp 2 1) (am (aj x.a 1 1 2) (kZ P f dp 1 2)))
 else if x.op=7 then am (jM P f dp 1 1) (am (aj 15 1 1 0) (kZ P f dp 1 1))
 else if x.op=8 then ao 18 0 f x.a
 else if x.op=9 then am (jM P f dp 1 1) (ao 19 1 f x.a)
 else if x.op=10 then Aa fs P f dp x.a
 else if x.op=11 then vl fs P f dp
 else if x.op=12 then am (aj 23 1 0 0) (kZ P f dp 1 0)
 else if x.op=13 then am (jM P f dp 1 1) (aj 24 1 0 0)
 else eu
def DD (fs:List Src.CFn) (P:Plan) (f:Nat):Nat→Wr:=
 if f+1=fs.length then eu
 else match fs[f]? with
  |none=>eu
  |some y=>am (aj 17 14 0 ((P.back[f]?).getD 0)) (vn (y.first+y.params) (y.first+y.slots))
def qf (fs:List Src.CFn) (P:Plan) (f:Nat) (cd:Lower.Code) (ds:List Int):Nat→Nat→Wr
 |0=>DD fs P f
 | k+1=>am (qf fs P f cd ds k) (match cd[k]?,ds[k]? with
   |some x,some d=>if 0≤d then tg fs P f d x.1 else eu
   | _,_=>eu)
def placesOf (fs:List Src.CFn) (P:Plan) (f:Nat) (cd:Lower.Code) (ds:List Int) (n:Nat):List Int:=
 (List.range cd.length).map fun k=>((n+(qf fs P f cd ds k n).code.length:Nat):Int)
structure ip where
 code:List MI
 holes:List Ho
 ent:List Int
 pls:List (List Int)
def eM (fs:List Src.CFn) (P:Plan) (d:ip) (f:Nat):ip:=
 match fs[f]?,P.depths[f]? with
 |some y,some ds=>
   let cd:=codeOf y.word y.body
   let w:=qf fs P f cd ds cd.length d.code.length
   ⟨d.code++w.code,d.holes++w.holes,d.ent.set f d.code.length,d.pls.set f (placesOf fs P f cd ds d.code.length)⟩
 |_,_=>d
def start (fs:List Src.CFn) (P:Plan):ip:=eM fs P ⟨[(1,15,0,1)],[],List.replicate fs.length 0,List.replicate fs.length []⟩ (fs.length-1)
def Ly (fs:List Src.CFn) (P:Plan):Nat→ip
 |0=>start fs P
 |k+1=>eM fs P (Ly fs P k) k
def whole (fs:List Src.CFn) (P:Plan):ip:=Ly fs P (fs.length-1)
def place (d:ip) (h:Ho):Int:=if 0≤h.2.2 then(((d.pls[h.2.1.toNat]?).getD [])[h.2.2.toNat]?).getD 0 else(d.ent[h.2.1.toNat]?).getD 0
def fill (d:ip) (code:List MI) (h:Ho):List MI:=
 match code[h.1.toNat]? with
 |some x=>code.set h.1.toNat (x.1,x.2.1,x.2.2.1,place d h)
 |none=>code
def filled (d:ip):List MI:=d.holes.foldl (fill d) d.code
end
end
end Go.Emit

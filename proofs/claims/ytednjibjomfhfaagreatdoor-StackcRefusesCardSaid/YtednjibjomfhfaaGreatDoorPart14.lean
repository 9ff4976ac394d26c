/- A part of the proof; no conditions. -/
import Derived.Test.YtednjibjomfhfaaGreatDoorPart13
set_option linter.all false
open List renaming length -> z
open Option renaming some -> S, none -> N
open Bool renaming true -> T, false -> F
set_option maxHeartbeats 64000000
set_option maxRecDepth 100000
namespace Go.Proofs.YtednjibjomfhfaaGreatDoor
section
open Go Go.Am Go.Asm
open Go.Src (Ex Stm szE aH szS aE Pl jZ ei iP eM coreS ej lJ lK)
attribute[local congr]ite_cc
section
mutual
def cxD:Lower.Ex->List D
 |.mk kind op num slot size kids=>[.int .i64 kind,.int .i64 op,.int .u32 num,.int .i64 slot,.int .i64 size,.sl (za kids)]
def za:List Lower.Ex->List (List D)
 |[]=>[]
 |e::l=>cxD e::za l
end
def pb:∀l:List Lower.Ex,za l=l.map cxD
 |[]=>by simp[za]
 |e::l=>by simp[za,pb l]
def ES(e:Lower.Ex):z (cxD e)=6:=by cases e;simp[cxD]
mutual
def csD:Lower.Stm->List D
 |.mk kind slot size e a el=>[.int .i64 kind,.int .i64 slot,.int .i64 size,.sl (za e),.sl (qG a),.sl (qG el)]
def qG:List Lower.Stm->List (List D)
 |[]=>[]
 |e::l=>csD e::qG l
end
def pd:∀l:List Lower.Stm,qG l=l.map csD
 |[]=>by simp[qG]
 |e::l=>by simp[qG,pd l]
def ET(e:Lower.Stm):z (csD e)=6:=by cases e;simp[csD]
def xh(l:List Lower.Ex):AV:=.one (.d (.sl (l.map cxD)))
def sR(l:List Lower.Stm):AV:=.one (.d (.sl (l.map csD)))
def plD(t:Int×Int):List D:=[.int .i64 t.1,.int .i64 t.2]
def rK(M:List C)(m:Pl):Prop:=∀s:Str,mget M (.str s)=(jZ m s).map λt=>.d (.iptr (plD t))
def rK.put{M:List C}{m:Pl}(h:rK M m)(V:Str)(t:Int×Int):rK (mset M (.str V) (.d (.iptr (plD t)))) ((V,t)::m):=λs=>by
 rw[pG];simp only[kE,jZ];by_cases a:V=s
 .subst a
  simp
 .simp only[a,K7,A3,B8]
  exact h s
structure IM (lo li:Pl) (io ii go gi:Nat) (g:Nat->Nat) (ob:Obs):Prop where
 mo:∃M,ob io=some M/\rK M lo
 mi:∃M,ob ii=some M/\rK M li
 go:g io=go
 gi:g ii=gi
def IM.mono{lo li:Pl}{io ii go gi B:Nat}{g g':Nat->Nat}{ob Z:Obs}(h:IM lo li io ii go gi g ob)(ho:io<B)(hi:ii<B)(a:∀i,i<B->g' i=g i/\Z i=ob i):IM lo li io ii go gi g' Z where
 mo:=by rw[(a io ho).2];exact h.mo
 mi:=by rw[(a ii hi).2];exact h.mi
 go:=by rw[(a io ho).1];exact h.go
 gi:=by rw[(a ii hi).1];exact h.gi
def uF(io ii go gi:Nat):AV:=.agg [.mp io go 208,.mp ii gi 208]
def EU(lo li:Pl)(io ii go gi:Nat)(f:FuncId)(xs:List AV)(r:AV):Prop:=∀(B:Nat)(g:Nat->Nat)(ob:Obs),io<B->ii<B->(∀i,B<=i->ob i=N)->IM lo li io ii go gi g ob->
 fv Tryz.prog f (uF io ii go gi::xs) g ob (λX a Z=>a=g/\Z=ob/\X=r) (λ_ _ _=>False)
section
variable{O:Bs}{rd:Option Nat}{n:St->Am.Loc->List Deferred->World->Prop}
def qH{d:fW}{e:Nat}(j:br O n){o:Oper}{s:St}{K:St->Prop}{k:Box K}{f:FuncId}{args:Array Operand}{tys:Array TypeId}(ho:o.op=.call ⟨.value (.func f),args,tys⟩){xs:List AV}{r:AV}{lo li:Pl}{io ii go gi:Nat}
 (V:EU lo li io ii go gi f xs r)(I:args.toList.map s.ev=uF io ii go gi::xs)(c:Nat)(U:io<c)(Y:ii<c)(b:∀i,c<=i->s.obj i=N)(E:IM lo li io ii go gi s.gen s.obj)(l:K (s.put o.dst r)):bu (spF Tryz.prog rd O n e d) o s k:=by
 refine bX (R:=λX a Z=>a=s.gen/\Z=s.obj/\X=r) (cd:=λ_ _ _=>False) j ho (by rw[I];exact V c s.gen s.obj U Y b E) (λ_ _ _ h=>h.elim) ?_;rintro _ a Z ⟨rfl,rfl,rfl⟩;exact l
end
section
variable{lo li:Pl}{io ii go gi:Nat}
def IN(V:Str):EU lo li io ii go gi 87 [sv V] (.agg ((plD (ei lo li V)).map .d)):=by
 intro B g ob U Y hB E;obtain⟨⟨l,c,mo⟩,⟨o,oi,mi⟩,ad,m⟩:=E;unfold uF;refine hdM B [] Tryz.func87 rfl [.cell 4 119] a8 hB λO bo s0 w0=>?_;have Q:∀k,(io=B+k)=False:=λk=>by simp;omega
 have n2:∀k,(ii=B+k)=False:=λk=>by simp;omega
 have a:=mi V;have b:=mo V;unfold ei;cases n:jZ li V with
 |some t=>
   rw[n]at a;simp only[z8,plD]at a;simp only[go_sem,Q,n2,m,oi,D3,C0,a];exact S3
 |none=>
   rw[n]at a;simp only[Hk]at a;cases e:jZ lo V with
   |some t=>
     rw[e]at b;simp only[z8,plD]at b;simp only[go_sem,Q,n2,m,ad,oi,D3,C0,a,c,b];exact S3
   |none=>
     rw[e]at b;simp only[Hk]at b;simp only[go_sem,Q,n2,m,ad,oi,D3,C0,a,c,b];refine⟨_,ae.refl _,?_⟩;simp only[go_sem,Q,n2];exact bD.nil (λi hi=>⟨nu,nu⟩) (q:=[.agg ((plD (0,0)).map .d)]) ⟨_,_,rfl,Gk (plD (0,0)),rfl⟩ ⟨rfl,rfl,rfl⟩
def cxC(l:List Lower.Ex):List C:=l.flatMap λa=>(cxD a).map .d
def Mv(l:List Lower.Ex):z (cxC l)=z l*6:=by
 induction l with
 |nil=>rfl
 |cons a l b=>simp only[cxC,A1,j4,j5,ES,j6]at b|-;omega
def Mw(l m:List Lower.Ex):cxC (l++m)=cxC l++cxC m:=by simp[cxC]
def Mx(e:Lower.Ex):cxC [e]=(cxD e).map .d:=by simp[cxC]
def csC(l:List Lower.Stm):List C:=l.flatMap λa=>(csD a).map .d
def My(l:List Lower.Stm):z (csC l)=z l*6:=by
 induction l with
 |nil=>rfl
 |cons a l b=>simp only[csC,A1,j4,j5,ET,j6]at b|-;omega
def Mz(l m:List Lower.Stm):csC (l++m)=csC l++csC m:=by simp[csC]
def MA(e:Lower.Stm):csC [e]=(csD e).map .d:=by simp[csC]
def xM{a β:Type}{f:a->β}{l:List a}{k:Nat}{x:a}(h:l[k]?=S x):(l.take (k+1)).map f=(l.take k).map f++[f x]:=by
 rw[B4,h,I7,A7];rfl
def MB:∀(av:Nat)(l:List Ex),aH l<=av->av<=1000000000->EU lo li io ii go gi 88 [dE l] (xh (eM lo li l)):=by
 intro av
 induction av using Nat.strongRecOn with
 |ind av ih=>
 intro l bs hN B g ob U Y hB E;rw[lJ];unfold uF;refine hdM B [] Tryz.func88 rfl [.tmp 4] a8 hB λO bo s0 w0=>?_;have cv:=Src.Kr l;unfold dE;simp only[go_sem,j5]
 refine oY _ (uK (t:=5) (id:=B+36) (sz:=6) Wh) (λm K=>∃k:Nat,m+k=z l/\K.f 2=.one (.ptr (B+2) (K.gen (B+2)) 0)/\K.f 5=.one (.osl (B+36) (K.gen (B+36)) 6 0 k)/\K.f 9=.one (.d (.sl (l.map exD)))/\K.f 10=iv .i64 (z l)/\K.f 11=iv .i64 k/\
   K.obj (B+2)=S [.mp io go 208,.mp ii gi 208]/\K.obj (B+36)=S (cxC ((l.take k).map (iP lo li)))/\(∀j,j<B->K.gen j=g j/\K.obj j=ob j)/\(∀j,B+39<=j->K.obj j=N)) (z l) ?_ ?_
 .exact Uu
 rintro m f g1 ad ⟨k,hk,q2,o,q9,G,u,o2,b,fr,L⟩;simp only at q2 o q9 G u o2 b fr L;have hw:=ab (k:=k) a6;by_cases af:k<z l
 case neg=>
  have H:¬(k:Int)<(z l:Int):=a6;obtain rfl:k=z l:=a6;rw[s6 (l0 _)]at b;simp only[go_sem,o,G,u,H];refine⟨_,ae.refl _,?_⟩;simp only[go_sem,o];exact bD.nil fr (q:=[xh (l.map (iP lo li))]) ⟨_,_,rfl,.one (fN a6 rfl (l.map (iP lo li)) cxD b rfl (λa _=>ES a) (by rw[j5])),rfl⟩ ⟨rfl,rfl,rfl⟩
 have H:(k:Int)<(z l:Int):=a6;have an:(0:Int)<=(k:Int):=a6;obtain⟨e,he⟩:=getq af;have bd:=Src.se (l5 he);obtain⟨kind,op,num,name,n⟩:=e;rw[szE]at bd;have hE:exD (.mk kind op num name n)=[.int .i64 kind,.int .i64 op,.int .u32 num,.str name,.sl (n.map exD)]:=by simp only[exD,aA]
 have c:=ih (aH n) a6 n (l0 _) a6;simp only[go_sem,q2,o,q9,G,u,o2,H,an,he,hE];refine qH aa rfl (IN name) (by simp only[go_sem,uF]) (B+39) a6 a6 (λi hi=>nt (L i a6)) ((E.mono U Y fr).mono U Y λi hi=>⟨nu,nu⟩) ?_;obtain⟨W,b2⟩:∃x,ei lo li name=x:=⟨_,rfl⟩
 rw[b2];have r:iP lo li (.mk kind op num name n)=.mk kind op num W.1 W.2 (eM lo li n):=by rw[iP,b2]
 unfold plD;simp only[go_sem];refine dS aR mixed aa [B+35,B+36] [([5],[0],[],F),([7],[],[],F),([20],[],[],F),([7],[],[],F),([22],[],[],F),([7],[],[],F),([24],[],[],F),([8],[],[],F),([26],[],[],F),([8],[],[],F),([28],[],[],F),([2],[],[],F),([7],[],[],F),([31],[],[],F),([30,32],[],[],F),([21,23,25,27,29,33],[],[],F),([34],[],[0],F),([19,35],[],[1],F),([36],[],[],T)] 2 rfl b9 rfl a8 ?_;simp only[go_sem]
 iterate 10 (apply ay;(case hg=>first|exact w8|exact⟨_,rfl,by decide,rfl⟩);(case U=>intro A I V K' J;simp only[go_sem,q2,o,o2]at J|-;exact J))
 iterate 4 (apply ay;(case hg=>first|exact w8|exact⟨_,rfl,by decide,rfl⟩);(case U=>intro A I V K' J;simp only[go_sem,q2,o,o2]at J|-;exact J))
 apply ay (v:=xh (eM lo li n))
 case hg=>exact w8
 case U=>
  intro A I V K' J;simp only[go_sem,xh]at J|-;refine qH aa rfl c Xt (B+39) a6 a6 (λi hi=>nt (L i a6)) ((E.mono U Y fr).mono U Y λi hi=>⟨nu,nu⟩) ?_;unfold xh;exact Uh
 (apply ay;(case hg=>first|exact w8|exact⟨_,rfl,by decide,rfl⟩);(case U=>intro A I V K' J;simp only[go_sem,xh]at J|-;exact J))
 (apply de;(case hg=>first|exact w8|exact⟨_,rfl,by decide,rfl⟩);(case U=>intro A I V K' J;simp only[go_sem,aZ]at J|-;exact J))
 have b4:=Mv ((l.take k).map (iP lo li));have Z:z ((l.take k).map (iP lo li))=k:=by rw[j5,C2];omega
 rw[Z]at b4;refine de (a:=1) (v:=.one (.osl (B+36) (nxC (apC 246 (g1 (B+36)) 0) (g1 (B+36))) 6 0 (k+1))) (x:=nxC (apC 246 (g1 (B+36)) 0) (g1 (B+36))) (y:=S (cxC ((l.take k).map (iP lo li)++[iP lo li (.mk kind op num name n)]))) w8 (λA I V K' J=>?_) ?_
 .have e1:List.take (k*6) (cxC ((l.take k).map (iP lo li)))++(cxD (iP lo li (.mk kind op num name n))).map .d=cxC ((l.take k).map (iP lo li)++[iP lo li (.mk kind op num name n)]):=by
   rw[s6 a6,Mw,Mx]
  rw[r]at e1;simp only[cxD,pb,l9,v8]at e1;rw[r]at J;simp only[go_sem,aZ,b,b4]at J|-;exact UD
 exact tj
end
end
section
section
variable{lo li:Pl}{io ii go gi:Nat}
def MC:∀(av:Nat)(l:List Stm),aE l<=av->av<=1000000000->EU lo li io ii go gi 52 [ed l] (sR (ej lo li l)):=by
 intro av
 induction av using Nat.strongRecOn with
 |ind av ih=>
 intro l bs hN B g ob U Y hB E;rw[lK];unfold uF;refine hdM B [] Tryz.func52 rfl [.tmp 4] a8 hB λO bo s0 w0=>?_;have cv:=Src.Ks l;unfold ed;simp only[go_sem,j5]
 refine oY _ (uK (t:=5) (id:=B+40) (sz:=6) Wh) (λm K=>∃k:Nat,m+k=z l/\K.f 2=.one (.ptr (B+2) (K.gen (B+2)) 0)/\K.f 5=.one (.osl (B+40) (K.gen (B+40)) 6 0 k)/\K.f 9=.one (.d (.sl (l.map smD)))/\K.f 10=iv .i64 (z l)/\K.f 11=iv .i64 k/\
   K.obj (B+2)=S [.mp io go 208,.mp ii gi 208]/\K.obj (B+40)=S (csC ((l.take k).map (coreS lo li)))/\(∀j,j<B->K.gen j=g j/\K.obj j=ob j)/\(∀j,B+43<=j->K.obj j=N)) (z l) ?_ ?_
 .exact Uu
 rintro m f g1 ad ⟨k,hk,q2,q5,q9,G,u,o2,b,fr,L⟩;simp only at q2 q5 q9 G u o2 b fr L;have hw:=ab (k:=k) a6;by_cases af:k<z l
 case neg=>
  have H:¬(k:Int)<(z l:Int):=a6;obtain rfl:k=z l:=a6;rw[s6 (l0 _)]at b;simp only[go_sem,q5,G,u,H];refine⟨_,ae.refl _,?_⟩;simp only[go_sem,q5];exact bD.nil fr (q:=[sR (l.map (coreS lo li))]) ⟨_,_,rfl,.one (fN a6 rfl (l.map (coreS lo li)) csD b rfl (λa _=>ET a) (by rw[j5])),rfl⟩ ⟨rfl,rfl,rfl⟩
 have H:(k:Int)<(z l:Int):=a6;have an:(0:Int)<=(k:Int):=a6;obtain⟨e,he⟩:=getq af;have bd:=Src.kO (l5 he);obtain⟨kind,name,n,o,el⟩:=e;rw[szS]at bd;have hE:smD (.mk kind name n o el)=[.int .i64 kind,.str name,.sl (n.map exD),.sl (o.map smD),.sl (el.map smD)]:=by simp only[smD,aA,cT]
 have p:=ih (aE o) a6 o (l0 _) a6;have a':=ih (aE el) a6 el (l0 _) a6;have W:=MB (lo:=lo) (li:=li) (io:=io) (ii:=ii) (go:=go) (gi:=gi) (aH n) n (l0 _) a6;simp only[go_sem,q2,q5,q9,G,u,o2,H,an,he,hE];refine qH aa rfl (IN name) (by simp only[go_sem,uF]) (B+43) a6 a6 (λi hi=>nt (L i a6)) ((E.mono U Y fr).mono U Y λi hi=>⟨nu,nu⟩) ?_;obtain⟨ps,b2⟩:∃x,ei lo li name=x:=⟨_,rfl⟩
 rw[b2];have r:coreS lo li (.mk kind name n o el)=.mk kind ps.1 ps.2 (eM lo li n) (ej lo li o) (ej lo li el):=by rw[coreS,b2]
 unfold plD;simp only[go_sem];refine dS aR mixed aa [B+39,B+40] [([5],[0],[],F),([7],[],[],F),([20],[],[],F),([8],[],[],F),([22],[],[],F),([8],[],[],F),([24],[],[],F),([2],[],[],F),([7],[],[],F),([27],[],[],F),([26,28],[],[],F),([2],[],[],F),([7],[],[],F),([31],[],[],F),([30,32],[],[],F),([2],[],[],F),([7],[],[],F),([35],[],[],F),([34,36],[],[],F),([21,23,25,29,33,37],[],[],F),([38],[],[0],F),([19,39],[],[1],F),([40],[],[],T)] 2 rfl b9 rfl a8 ?_;simp only[go_sem]
 iterate 10 (apply ay;(case hg=>first|exact w8|exact⟨_,rfl,by decide,rfl⟩);(case U=>intro A I V K' J;simp only[go_sem,q2,q5,o2]at J|-;exact J))
 apply ay (v:=xh (eM lo li n))
 case hg=>exact w8
 case U=>
  intro A I V K' J;simp only[go_sem,xh]at J|-;refine qH aa rfl W Xt (B+43) a6 a6 (λi hi=>nt (L i a6)) ((E.mono U Y fr).mono U Y λi hi=>⟨nu,nu⟩) ?_;unfold xh;exact Uh
 iterate 3 (apply ay;(case hg=>first|exact w8|exact⟨_,rfl,by decide,rfl⟩);(case U=>intro A I V K' J;simp only[go_sem,q2,q5,o2]at J|-;exact J))
 apply ay (v:=sR (ej lo li o))
 case hg=>exact w8
 case U=>
  intro A I V K' J;simp only[go_sem,sR]at J|-;refine qH aa rfl p Xt (B+43) a6 a6 (λi hi=>nt (L i a6)) ((E.mono U Y fr).mono U Y λi hi=>⟨nu,nu⟩) ?_;unfold sR;exact Uh
 iterate 3 (apply ay;(case hg=>first|exact w8|exact⟨_,rfl,by decide,rfl⟩);(case U=>intro A I V K' J;simp only[go_sem,q2,q5,o2]at J|-;exact J))
 apply ay (v:=sR (ej lo li el))
 case hg=>exact w8
 case U=>
  intro A I V K' J;simp only[go_sem,sR]at J|-;refine qH aa rfl a' Xt (B+43) a6 a6 (λi hi=>nt (L i a6)) ((E.mono U Y fr).mono U Y λi hi=>⟨nu,nu⟩) ?_;unfold sR;exact Uh
 (apply ay;(case hg=>first|exact w8|exact⟨_,rfl,by decide,rfl⟩);(case U=>intro A I V K' J;simp only[go_sem,xh,sR]at J|-;exact J))
 (apply de;(case hg=>first|exact w8|exact⟨_,rfl,by decide,rfl⟩);(case U=>intro A I V K' J;simp only[go_sem,aZ]at J|-;exact J))
 have b4:=My ((l.take k).map (coreS lo li));have Z:z ((l.take k).map (coreS lo li))=k:=by rw[j5,C2];omega
 rw[Z]at b4;refine de (a:=1) (v:=.one (.osl (B+40) (nxC (apC 173 (g1 (B+40)) 0) (g1 (B+40))) 6 0 (k+1))) (x:=nxC (apC 173 (g1 (B+40)) 0) (g1 (B+40))) (y:=S (csC ((l.take k).map (coreS lo li)++[coreS lo li (.mk kind name n o el)]))) w8 (λA I V K' J=>?_) ?_
 .have e1:List.take (k*6) (csC ((l.take k).map (coreS lo li)))++(csD (coreS lo li (.mk kind name n o el))).map .d=csC ((l.take k).map (coreS lo li)++[coreS lo li (.mk kind name n o el)]):=by
   rw[s6 a6,Mz,MA]
  rw[r]at e1;simp only[csD,pb,pd,l9,v8]at e1;rw[r]at J;simp only[go_sem,aZ,b,b4]at J|-;exact UD
 exact tj
end
end
end
section
open Go Go.Am Go.Asm
open Go.Src (Ex Stm szE aH szS aE Pl jZ ei gV gA gF bB lP)
attribute[local congr]ite_cc
def dropq{a:Type}{l:List a}{k:Nat}{x:a}(h:l[k]?=S x):l.drop k=x::l.drop (k+1):=by
 have b:=(l8.1 h).1;rw[A8 b,(l8.1 h).2]
def Gp{g:Nat->Nat}{ob:Obs}{p:Src.Prog}(bc:szP p<=1000000)(av:∀a∈p.arrays,0<=a.2/\a.2<=4096):
  fv Tryz.prog 51 [cn p] g ob (λr g' Z=>r=.tup [.one (.mp 1012 (g' 1012) 208),iv .i64 (bB p).2]/\(0<=(bB p).2/\(bB p).2<=1000000+4096*1000000)/\(∃M,Z 1012=S M/\rK M (bB p).1)/\∀i,i<1000\/1100<=i->g' i=g i/\Z i=ob i) (λ_ _ _=>False):=by
 refine hdX 1000 Tryz.func51 rfl [.tmp 2,.tmp 3] λO bo s0 w0=>?_;obtain⟨vs,u,fs⟩:=p;unfold szP at bc;simp only at bc av;obtain⟨h,j⟩:∃L,bB ⟨vs,u,fs⟩=L:=⟨_,rfl⟩
 obtain⟨L,y⟩:∃L,bB ⟨vs,u,fs⟩=L:=⟨_,rfl⟩
 rw[y];unfold bB at y;simp only at y;unfold cn je;simp only[go_sem,j5]
 refine aq (λm K=>∃(k:Nat)(pm:Pl)(w:Int),m+k=z vs/\gV (vs.drop k) pm w=gV vs [] 0/\0<=w/\w<=k/\K.f 1=.one (.ptr 1001 (K.gen 1001) 0)/\K.f 4=.one (.mp 1012 (K.gen 1012) 208)/\K.f 5=iv .i64 w/\K.obj 1001=S (iu ⟨vs,u,fs⟩)/\(∃M,K.obj 1012=S M/\rK M pm)/\K.f 14=.one (.d (.sl (vs.map λs=>[.str s])))/\K.f 15=iv .i64 (z vs)/\K.f 16=iv .i64 k/\
   ∀i,i<1000\/1100<=i->K.gen i=g i/\K.obj i=ob i) (z vs) ?_ ?_
 .refine⟨0,[],0,rfl,by rw[B1],a6,a6,?_⟩
  simp only[go_sem];exact⟨rfl,⟨[],rfl,λs=>rfl⟩,λi J=>⟨nu,nu⟩⟩
 rintro m f g1 ad ⟨k,pm,w,hk,b,bk,b',t,l,o,o1,⟨M,oM,I⟩,E,n,A,fr⟩;simp only at t l o o1 oM E n A fr;have W:=ab (k:=k) a6;by_cases Y:k<z vs
 .have H:(k:Int)<(z vs:Int):=a6
  have an:(0:Int)<=(k:Int):=a6;have b6:IntKind.i64.wrap (w+1)=w+1:=by rw[wrap_i64]<;>omega
  obtain⟨v,U⟩:=getq Y;rw[dropq U,gV]at b;have e:=I.put v (w,0);unfold plD at e;simp only[go_sem,l,o,E,n,A,H,an,U,oM,b6,W];refine ai (m-1) a6 ⟨k+1,_,_,a6,b,a6,a6,?_⟩;simp only[go_sem,t,l,E,n,o1];exact⟨⟨_,rfl,e⟩,λi J=>⟨(fr i J).1,nt ((fr i J).2)⟩⟩
 have H:¬(k:Int)<(z vs:Int):=a6;obtain rfl:k=z vs:=a6;rw[F1,gV]at b;rw[<-b]at y;simp only at y;have G:=o1;unfold iu je at o1;simp only[l9,v8]at o1;simp only[go_sem,t,o1,n,A,H,j5]
 refine aq (λm K=>∃(k:Nat)(bs:Pl)(V:Int),m+k=z u/\gA (u.drop k) bs V=gA u pm w/\0<=V/\V<=1000000+4096*k/\K.f 1=.one (.ptr 1001 (K.gen 1001) 0)/\K.f 4=.one (.mp 1012 (K.gen 1012) 208)/\K.f 5=iv .i64 V/\K.obj 1001=S (iu ⟨vs,u,fs⟩)/\(∃M,K.obj 1012=S M/\rK M bs)/\K.f 28=.one (.d (.sl (u.map arD)))/\K.f 29=iv .i64 (z u)/\K.f 30=iv .i64 k/\
   ∀i,i<1000\/1100<=i->K.gen i=g i/\K.obj i=ob i) (z u) ?_ ?_
 .refine⟨0,pm,w,rfl,by rw[B1],bk,a6,?_⟩
  simp only[go_sem,t,l,o,o1];exact⟨rfl,⟨M,oM,I⟩,fr⟩
 clear t l o o1 G oM E n A fr I M W Y H hk bk b' b;rintro m f g1 ad ⟨k,bs,V,hk,b,bk,b',t,l,o,o1,⟨M,oM,I⟩,E,n,A,fr⟩;simp only at t l o o1 oM E n A fr;have W:=ab (k:=k) a6;by_cases Y:k<z u
 .have H:(k:Int)<(z u:Int):=a6
  have an:(0:Int)<=(k:Int):=a6;obtain⟨⟨v,X⟩,U⟩:=getq Y;have hz:=av _ (l5 U);simp only at hz;have b6:IntKind.i64.wrap (V+X)=V+X:=by rw[wrap_i64]<;>omega
  rw[dropq U,gA]at b;simp only at b;have e:=I.put v (V,X);unfold plD at e;simp only[go_sem,l,o,E,n,A,H,an,U,arD,oM,b6,W];refine ai (m-1) a6 ⟨k+1,_,_,a6,b,a6,a6,?_⟩;simp only[go_sem,t,l,E,n,o1];exact⟨⟨_,rfl,e⟩,λi J=>⟨nt ((fr i J).1),nt ((fr i J).2)⟩⟩
 have H:¬(k:Int)<(z u:Int):=a6;obtain rfl:k=z u:=a6;rw[F1,gA]at b;rw[<-b]at y;simp only at y;have G:=o1;unfold iu je at o1;simp only[l9,v8]at o1;simp only[go_sem,t,o1,n,A,H,j5]
 refine aq (λm K=>∃(k:Nat)(c:Pl),m+k=z fs/\gF k (fs.drop k) c=gF 0 fs bs/\K.f 4=.one (.mp 1012 (K.gen 1012) 208)/\K.f 5=iv .i64 V/\(∃M,K.obj 1012=S M/\rK M c)/\K.f 47=.one (.d (.sl (fs.map fnD)))/\K.f 48=iv .i64 (z fs)/\K.f 49=iv .i64 k/\
   ∀i,i<1000\/1100<=i->K.gen i=g i/\K.obj i=ob i) (z fs) ?_ ?_
 .refine⟨0,bs,rfl,by rw[B1],?_⟩
  simp only[go_sem,l,o];exact⟨⟨M,oM,I⟩,fr⟩
 clear t l o o1 G oM E n A fr I M W Y H hk b;rintro m f g1 ad ⟨k,c,hk,b,l,o,⟨M,oM,I⟩,E,n,A,fr⟩;simp only at l o oM E n A fr;have W:=ab (k:=k) a6;by_cases Y:k<z fs
 .have H:(k:Int)<(z fs:Int):=a6
  have an:(0:Int)<=(k:Int):=a6;obtain⟨x,U⟩:=getq Y;rw[dropq U,gF]at b;have e:=I.put x.name ((k:Int),0);unfold plD at e;simp only[go_sem,l,o,E,n,A,H,an,U,fnD,oM,W];refine ai (m-1) a6 ⟨k+1,_,a6,b,?_⟩;simp only[go_sem,l,o,E,n];exact⟨⟨_,rfl,e⟩,λi J=>⟨nt ((fr i J).1),nt ((fr i J).2)⟩⟩
 have H:¬(k:Int)<(z fs:Int):=a6;obtain rfl:k=z fs:=a6;rw[F1,gF]at b;rw[<-b]at y;subst y;simp only[go_sem,l,o,n,A,H];refine⟨_,ae.refl _,?_⟩;simp only[go_sem];exact⟨rfl,⟨bk,a6⟩,⟨M,oM,I⟩,fr⟩
end
section
open Go Go.Am Go.Asm
open Go.Src (Ex Stm szE aH szS aE Pl jZ ei gV gA gF bB lP CFn Core pE eF au jI ej cW cD)
attribute[local congr]ite_cc
def cfD(x:CFn):List D:=[.int .i64 x.params,.int .i64 x.slots,.int .i64 x.first,.bool x.word,.sl (x.body.map csD)]
def qq(c:Core):AV:=.agg [.d (.int .i64 c.words),.d (.sl (c.funcs.map cfD))]
def cfC(l:List CFn):List C:=l.flatMap λa=>(cfD a).map .d
def MD(l:List CFn):z (cfC l)=z l*5:=by
 induction l with
 |nil=>rfl
 |cons a l b=>simp only[cfC,A1,j4,j5,cfD,j6,j7]at b|-;omega
def ME(l m:List CFn):cfC (l++m)=cfC l++cfC m:=by simp[cfC]
def MF(e:CFn):cfC [e]=(cfD e).map .d:=by simp[cfC]
def Qz{o:cg}(ho:kC o)(p:Src.Prog)(bc:szP p<=1000000):bP Tryz.prog 4 o 27 [cn p] (·=.tup [qq (jI p).1,iv .i64 ((jI p).2:Nat)]):=by
 refine hdG Tryz.func27 rfl [.cell 2 77,.tmp 3] λO bo s0 w0 g=>?_;have Q:cn p=.agg [.d (.sl (p.vars.map λs=>[.str s])),.d (.sl (p.arrays.map arD)),.d (.sl (p.funcs.map fnD))]:=rfl;obtain⟨X,hz⟩:∃X,jI p=X:=⟨_,rfl⟩
 rw[hz];unfold jI at hz;have hS:=Mu ho p a6;rw[Q]at hS|-;simp only[go_sem];refine cK rfl XW ?_;rintro _ rfl;by_cases hs:cW p=0
 case neg=>
  rw[l7 hs]at hz;subst hz;have A:¬((cW p:Nat):Int)=0:=a6;simp only[go_sem,A];exact⟨_,⟨_,⟨_,_,rfl,rJ [.int .i64 0,.nsl],_,_,rfl,kj _,rfl⟩,rfl⟩,rfl⟩
 rw[j8 (by simp[hs])]at hz
 have V:cD p=T:=by
  unfold cW at hs;split at hs
  .cases hs
  .rename_i h;simpa using h
 have av:∀a∈p.arrays,0<=a.2/\a.2<=4096:=by
  unfold cD at V;simp only[l4,x7]at V;intro a ha;have:=V.2.1 a ha;unfold Src.fb at this;simp at this;omega
 simp only[go_sem,hs];refine bX aG rfl (by simp only[go_sem];rw[<-Q];exact Gp bc av) ?_ ?_
 .exact kb
 rintro r g1 ad ⟨rfl,⟨bk,b'⟩,⟨M,oM,I⟩,fr⟩;have e1:=fr 1 (.inl a7);have e2:=fr 2 (.inl a7);simp[upd]at e1 e2;have L:∀j,1100<=j->ad j=N:=λj hj=>by rw[(fr j (.inr a6)).2];(try simp only[upd]);(repeat rw[j8 (by omega)])
 clear fr;unfold au at hz;obtain⟨om,cy⟩:∃x,(bB p).1=x:=⟨_,rfl⟩
 obtain⟨cz,cv⟩:∃x,(bB p).2=x:=⟨_,rfl⟩
 rw[cy,cv]at hz;rw[cy]at I;rw[cv]at bk b'|-;obtain⟨b1,hF⟩:∃b1,eF om p.funcs cz=b1:=⟨_,rfl⟩
 rw[hF]at hz;unfold szP at bc;simp only[go_sem,e1.1,e1.2,j5];refine oY _ (dR (t:=7) (o:=7) (b:=95) (j:=1) (sz:=5) (off:=0) (cells:=[.d (.int .i64 0),.d .nsl]) Wh Wh rfl a7) (λm K=>∃(k:Nat)(w:Int)(q:List CFn),m+k=z p.funcs/\(q++(eF om (p.funcs.drop k) w).1,(eF om (p.funcs.drop k) w).2)=b1/\z q=k/\0<=w/\w<=5000000000+1000000*k/\K.f 2=.one (.ptr 2 (K.gen 2) 0)/\K.f 5=.one (.mp 1012 (K.gen 1012) 208)/\K.f 7=.one (.ptr 7 (K.gen 7) 0)/\K.f 28=.one (.d (.sl (p.funcs.map fnD)))/\K.f 29=iv .i64 (z p.funcs)/\K.f 30=iv .i64 k/\K.f 6=iv .i64 w/\K.obj 2=S [.d (.int .i64 0),.d .nsl]/\K.obj 7=S [.d (.int .i64 0),.osl 95 (K.gen 95) 5 0 (z q)]/\K.obj 95=S (cfC q)/\(∃M,K.obj 1012=S M/\rK M om)/\(∀j,1100<=j->K.obj j=N)) (z p.funcs) ?_ ?_
 .refine⟨0,cz,[],rfl,by rw[B1];exact hF,rfl,bk,a6,?_⟩
  simp only[St.claimAt];simp only[go_sem,e2.1,e2.2];exact⟨rfl,⟨M,oM,I⟩,λj hj=>nt (L j hj)⟩
 clear e1 e2 L oM I M hF;rintro m f g1 ad ⟨k,w,q,hk,cd,b8,c1,c2,q2,q5,q7,Y,l,W,q6,o2,o7,a',⟨M,oM,I⟩,L⟩;simp only at q2 q5 q7 Y l W q6 o2 o7 a' oM L;have E:=ab (k:=k) a6;by_cases af:k<z p.funcs
 .have H:(k:Int)<(z p.funcs:Int):=a6
  have an:(0:Int)<=(k:Int):=a6;obtain⟨x,he⟩:=getq af;have B:=kK (p:=p) (l5 he);unfold szP at B;have bd:fnD x=[.str x.name,.sl (x.params.map λs=>[.str s]),.sl (x.locals.map λs=>[.str s]),.bool x.word,.sl (x.body.map smD)]:=rfl;have ch:IntKind.i64.wrap ((z x.params:Int)+(z x.locals:Int))=((z x.params+z x.locals:Nat):Int):=by rw[wrap_i64]<;>omega
  rw[dropq he,eF]at cd;simp only at cd;simp only[go_sem,q5,Y,l,W,H,an,he,bd,j5,ch];refine aq (λm2 K=>∃(n:Nat)(pm:Pl),m2+n=z x.params/\lP w n (x.params.drop n) pm=lP w 0 x.params []/\K.f 45=.one (.d (.sl (x.params.map λs=>[.str s])))/\K.f 46=iv .i64 (z x.params)/\K.f 47=iv .i64 n/\K.f 9=.one (.ptr 9 (K.gen 9) 0)/\K.f 10=.one (.ptr 10 (K.gen 10) 0)/\K.f 11=iv .i64 ((z x.params+z x.locals:Nat):Int)/\K.obj 9=S ((fnD x).map .d)/\K.obj 10=S [.mp 1012 (K.gen 1012) 208,.mp 35 (K.gen 35) 208]/\(∃M,K.obj 35=S M/\rK M pm)/\K.f 2=.one (.ptr 2 (K.gen 2) 0)/\K.f 5=.one (.mp 1012 (K.gen 1012) 208)/\K.f 7=.one (.ptr 7 (K.gen 7) 0)/\K.f 28=.one (.d (.sl (p.funcs.map fnD)))/\K.f 29=iv .i64 (z p.funcs)/\K.f 30=iv .i64 k/\K.f 6=iv .i64 w/\K.obj 2=S [.d (.int .i64 0),.d .nsl]/\K.obj 7=S [.d (.int .i64 0),.osl 95 (K.gen 95) 5 0 (z q)]/\K.obj 95=S (cfC q)/\(∃M,K.obj 1012=S M/\rK M om)/\(∀j,1100<=j->K.obj j=N)) (z x.params) ?_ ?_
  .refine⟨0,[],rfl,by rw[B1],?_⟩
   simp only[go_sem,q2,q5,q7,Y,l,W,q6,o2,o7,a'];exact⟨rfl,⟨[],rfl,λs=>rfl⟩,⟨M,oM,I⟩,λj hj=>nt (L j hj)⟩
  clear q2 q5 q7 Y l W q6 o2 o7 a' oM L I M;rintro m2 f g1 ad ⟨n,pm,hn,cm,b5,Z,a1,q9,G,u,o9,b2,⟨M2,bl,cf⟩,q2,q5,q7,Y,l,W,q6,o2,o7,a',⟨M,oM,I⟩,L⟩;simp only at b5 Z a1 q9 G u o9 b2 bl q2 q5 q7 Y l W q6 o2 o7 a' oM L;have cb:=ab (k:=n) a6;by_cases bf:n<z x.params
  .have P:(n:Int)<(z x.params:Int):=a6
   have bz:(0:Int)<=(n:Int):=a6;obtain⟨v,ca⟩:=getq bf;have b6:IntKind.i64.wrap (w+(n:Int))=w+n:=by rw[wrap_i64]<;>omega
   rw[dropq ca,lP]at cm;have e:=cf.put v (w+n,0);unfold plD at e;simp only[go_sem,b5,Z,a1,P,bz,ca,G,b2,bl,q6,b6,cb];refine ai (m2-1) a6 ⟨n+1,_,a6,cm,?_⟩;simp only[go_sem,q2,q5,q7,Y,l,W,q6,o2,o7,a',b5,Z,q9,G,u,o9,b2];exact⟨⟨_,rfl,e⟩,⟨M,oM,I⟩,λj hj=>nt (L j hj)⟩
  have P:¬(n:Int)<(z x.params:Int):=a6;obtain rfl:n=z x.params:=a6;rw[F1,lP]at cm;have cu:=o9;rw[bd]at cu;simp only[l9,v8]at cu;simp only[go_sem,q9,cu,Z,a1,P,j5];refine aq (λm2 K=>∃(n:Nat)(bs:Pl),m2+n=z x.locals/\lP (w+z x.params) n (x.locals.drop n) bs=lP (w+z x.params) 0 x.locals pm/\K.f 61=.one (.d (.sl (x.locals.map λs=>[.str s])))/\K.f 62=iv .i64 (z x.locals)/\K.f 63=iv .i64 n/\K.f 9=.one (.ptr 9 (K.gen 9) 0)/\K.f 10=.one (.ptr 10 (K.gen 10) 0)/\K.f 11=iv .i64 ((z x.params+z x.locals:Nat):Int)/\K.obj 9=S ((fnD x).map .d)/\K.obj 10=S [.mp 1012 (K.gen 1012) 208,.mp 35 (K.gen 35) 208]/\(∃M,K.obj 35=S M/\rK M bs)/\K.f 2=.one (.ptr 2 (K.gen 2) 0)/\K.f 5=.one (.mp 1012 (K.gen 1012) 208)/\K.f 7=.one (.ptr 7 (K.gen 7) 0)/\K.f 28=.one (.d (.sl (p.funcs.map fnD)))/\K.f 29=iv .i64 (z p.funcs)/\K.f 30=iv .i64 k/\K.f 6=iv .i64 w/\K.obj 2=S [.d (.int .i64 0),.d .nsl]/\K.obj 7=S [.d (.int .i64 0),.osl 95 (K.gen 95) 5 0 (z q)]/\K.obj 95=S (cfC q)/\(∃M,K.obj 1012=S M/\rK M om)/\(∀j,1100<=j->K.obj j=N)) (z x.locals) ?_ ?_
  .refine⟨0,pm,rfl,by rw[B1],?_⟩
   simp only[go_sem,q2,q5,q7,Y,l,W,q6,o2,o7,a',q9,G,u,o9,b2];exact⟨⟨M2,bl,cf⟩,⟨M,oM,I⟩,L⟩
  clear q2 q5 q7 Y l W q6 o2 o7 a' oM L I M b5 Z a1 q9 G u o9 cu b2 bl cf M2 cb bf P hn;rintro m2 f g1 ad ⟨n,bs,hn,b3,b5,Z,a1,q9,G,u,o9,b2,⟨M2,bl,cf⟩,q2,q5,q7,Y,l,W,q6,o2,o7,a',⟨M,oM,I⟩,L⟩;simp only at b5 Z a1 q9 G u o9 b2 bl q2 q5 q7 Y l W q6 o2 o7 a' oM L;have cb:=ab (k:=n) a6;rw[bd]at o9;simp only[l9,v8]at o9;by_cases bf:n<z x.locals
  .have P:(n:Int)<(z x.locals:Int):=a6
   have bz:(0:Int)<=(n:Int):=a6;obtain⟨v,ca⟩:=getq bf;have c0:IntKind.i64.wrap (w+(z x.params:Int))=w+z x.params:=by rw[wrap_i64]<;>omega
   have b6:IntKind.i64.wrap (w+(z x.params:Int)+(n:Int))=w+z x.params+n:=by rw[wrap_i64]<;>omega
   rw[dropq ca,lP]at b3;have e:=cf.put v (w+z x.params+n,0);unfold plD at e;simp only[go_sem,b5,Z,a1,P,bz,ca,q9,o9,j5,G,b2,bl,q6,c0,b6,cb];refine ai (m2-1) a6 ⟨n+1,_,a6,b3,?_⟩;simp only[go_sem,q2,q5,q7,Y,l,W,q6,o2,o7,a',b5,Z,q9,G,u,o9,b2,bd,l9,v8];exact⟨⟨_,rfl,e⟩,⟨M,oM,I⟩,λj hj=>nt (L j hj)⟩
  have P:¬(n:Int)<(z x.locals:Int):=a6;obtain rfl:n=z x.locals:=a6;rw[F1,lP]at b3;rw[cm]at b3;have b7:=MC (lo:=om) (li:=bs) (io:=1012) (ii:=35) (go:=g1 1012) (gi:=g1 35) (aE x.body) x.body (l0 _) a6;simp only[go_sem,Z,a1,P];refine dS aR mixed aG [94,95,7] [([7],[0],[],F),([80],[0],[],F),([9],[],[],F),([82],[],[],F),([83],[],[],F),([11],[],[],F),([6],[],[],F),([9],[],[],F),([87],[],[],F),([10],[],[],F),([9],[],[],F),([90],[],[],F),([89,91],[],[],F),([84,85,86,88,92],[],[],F),([93],[],[0],F),([81,94],[],[1],F),([7],[],[],F),([96,95],[],[],T)] 3 rfl b9 rfl a7 ?_;simp only[go_sem]
  iterate 12 (apply ay;(case hg=>first|exact w8|exact⟨_,rfl,by decide,rfl⟩);(case U=>intro fa ga oa K' J;simp only[go_sem,q7,o7,q9,o9,u,q6,G,b2,j5]at J|-;exact J))
  apply ay (v:=sR (ej om bs x.body))
  case hg=>exact w8
  case U=>
   intro fa ga oa K' J;simp only[go_sem,sR]at J|-;refine qH aG rfl b7 Xt 1100 a7 a7 (λi hi=>nt (L i a6)) ⟨⟨M,oM,I⟩,⟨M2,bl,cf⟩,rfl,rfl⟩ ?_;unfold sR;exact Uh
  (apply ay;(case hg=>first|exact w8|exact⟨_,rfl,by decide,rfl⟩);(case U=>intro fa ga oa K' J;simp only[go_sem,sR]at J|-;exact J))
  (apply de;(case hg=>first|exact w8|exact⟨_,rfl,by decide,rfl⟩);(case U=>intro fa ga oa K' J;simp only[go_sem,aZ]at J|-;exact J))
  have b4:=MD q
  have cx:pE om x w=⟨z x.params,((z x.params+z x.locals:Nat):Int),w,x.word,ej om bs x.body⟩:=by
   unfold pE;rw[<-b3];rfl
  refine de (a:=1) (v:=.one (.osl 95 (nxC (apC 123 (g1 95) 0) (g1 95)) 5 0 (z q+1))) (x:=nxC (apC 123 (g1 95) 0) (g1 95)) (y:=S (cfC (q++[pE om x w]))) w8 (λfa ga oa K' J=>?_) ?_
  .have e1:List.take (z q*5) (cfC q)++(cfD (pE om x w)).map .d=cfC (q++[pE om x w]):=by
    rw[s6 a6,ME,MF]
   rw[cx]at e1 J;simp only[cfD,l9,v8]at e1;simp only[go_sem,aZ,a',b4]at J|-;exact UD
  (apply ay;(case hg=>first|exact w8|exact⟨_,rfl,by decide,rfl⟩);(case U=>intro fa ga oa K' J;simp only[go_sem,q7,o7]at J|-;exact J))
  refine dU w8 ?_;intro K' b0;simp only[go_sem,q7,o7];refine b0 _ ?_;clear b0 K';have cc:IntKind.i64.wrap (w+((z x.params+z x.locals:Nat):Int))=w+((z x.params:Int)+(z x.locals:Int)):=by rw[wrap_i64]<;>omega
  simp only[go_sem,q6,u,W,cc,E];refine ai (m-1) a6 ⟨k+1,w+((z x.params:Int)+(z x.locals:Int)),q++[pE om x w],a6,by rw[<-cd,l6];rfl,by rw[j4];simp;omega,a6,a6,?_⟩;simp only[go_sem,q2,q5,q7,Y,l,o2,j4,j6,j7];exact⟨⟨M,oM,I⟩,λj hj=>nt (L j hj)⟩
 have H:¬(k:Int)<(z p.funcs:Int):=a6;obtain rfl:k=z p.funcs:=a6;rw[F1,eF]at cd;simp only[s5]at cd;subst cd;simp only at hz;by_cases hw:32768<w
 .rw[l7 hw]at hz
  subst hz;simp only[go_sem,l,W,H,q6,hw,q2,o2];exact⟨_,⟨_,⟨_,_,rfl,rJ [.int .i64 0,.nsl],_,_,rfl,kj _,rfl⟩,rfl⟩,rfl⟩
 rw[j8 hw]at hz;subst hz;simp only[go_sem,l,W,H,q6,hw,q2,o2,q7,o7];refine⟨_,⟨_,⟨_,_,rfl,⟨[.int .i64 w,.sl (q.map cfD)],rfl,λi c hc=>?_,rfl⟩,_,_,rfl,kj _,rfl⟩,rfl⟩,rfl⟩
 match i,hc with
 |0,hc=>cases hc;exact⟨_,rfl,.d _⟩
 |1,hc=>
   cases hc;refine⟨_,rfl,eG (s:=⟨_,_,_⟩) rfl q cfD ?_ rfl (λa _ y hy=>?_) (λ_ _=>rfl) rfl⟩
   .simp[upd]
    exact a'
   .simp only[cfD,y9,A4,E7]at hy
    rcases hy with rfl|rfl|rfl|rfl|rfl<;>rfl
end
end Go.Proofs.YtednjibjomfhfaaGreatDoor
namespace Go.Lower
section
section
variable{w:Int}{ps:Sig}{f:Nat}{word:Bool}{G:Nat->Option Int}
variable{at':Nat}{a b n d:Int}
def iD{x:Ins}{d:Int}(t p:Int)(U:takes ps word x=S (t,p))(Y:0<=t)(g:t<=d)(c:x.op≠8/\x.op≠9/\x.op≠11)(i:G (at'+1)=S (d-t+p)):OkI ps word G at' x d:=by
 refine⟨t,p,U,Y,g,λh=>absurd h c.2.2,λk e=>?_⟩;simp only[next,c.1,c.2.1,c.2.2,B8,C6]at e;exact⟨at'+1,e,i⟩
def wx(k:Nat)(e:a=(k:Int))(hd:0<=d)(h:G k=S d):OkI ps word G at' ⟨8,a,b,n⟩ d:=by
 refine⟨0,0,rfl,G9 _,hd,λh=>absurd h a8,λE c=>?_⟩;simp only[next,B5,C6]at c;exact⟨k,by rw[c,e],by rw[h];simp⟩
def rW(k:Nat)(e:a=(k:Int))(hd:0<=d)(h:G k=S d)(U:G (at'+1)=S d):OkI ps word G at' ⟨9,a,b,n⟩ (d+1):=by
 refine⟨1,0,rfl,a7,a6,λh=>absurd h a8,λE c=>?_⟩;simp only[next,show ¬((9:Int)=8) by decide,B8,B5,y9,A4,E7]at c;rcases c with rfl|rfl
 .exact⟨at'+1,rfl,by rw[U];simp⟩
 .exact⟨k,e,by rw[h];simp⟩
def NR{q kind op num slot size d:Int}{n:Nat}(h:okE w ps f q kind op num slot size n)(c:¬(kind=8\/kind=9)):z (one kind op num slot size d)=1:=by
 obtain⟨_,_,_,_,_,h⟩:=h;rcases h with⟨h|h,_⟩|⟨h,_⟩|⟨h,_⟩|⟨h,_⟩|⟨h,_⟩|⟨h,_⟩|⟨h,_⟩
 any_goals (subst h;rfl)
 exact absurd h c
def JV{q kind op num slot size d:Int}{n at':Nat}(h:okE w ps f q kind op num slot size n)(c:¬(kind=8\/kind=9))(hd:0<=d)(hT:G (at'+1)=S (d+1)):
  (z (one kind op num slot size (d+n)))=1/\Good ps word G at' (one kind op num slot size (d+n))/\(Seg G at' (one kind op num slot size (d+n))->G at'=S (d+n)):=by
 obtain⟨_,_,_,_,_,h⟩:=h;rcases h with⟨h|h,hn⟩|⟨h,_,hn⟩|⟨h,_,_,_,hn⟩|⟨h,k,e,a,g⟩|⟨h,_,_,hn⟩|⟨h,hn⟩|⟨h,_⟩
 .exact Lw
 .exact Lw
 .exact Lw
 .exact VN
 .subst h e
  refine⟨rfl,⟨iD n 1 ?_ a6 a6 a8 (by rw[hT];congr 1;omega),trivial⟩,λh=>h.1⟩;have:¬((k:Nat):Int)<0:=a6;simp[takes,g,this]
 .subst h hn
  exact⟨rfl,⟨iD 2 1 rfl a7 a6 a8 (by rw[hT];congr 1;omega),trivial⟩,λh=>h.1⟩
 .exact VN
 .exact absurd h c
def DQ{kind d:Int}{c0:Code}{c1:Nat->Code}(hd:0<=d)
 (o:Seg G at' c0->G (at'+z c0)=S (d+1)->G at'=S d/\Good ps word G at' c0)
 (U:∀r,Seg G r (c1 r)->G (r+z (c1 r))=S (d+1)->G r=S d/\Good ps word G r (c1 r))
 (g:Seg G at' (pA at' d kind c0 c1))(hT:G (at'+z (pA at' d kind c0 c1))=S (d+1)):G at'=S d/\Good ps word G at' (pA at' d kind c0 c1):=by
 unfold pA at g hT|-;simp only at g hT|-;rw[iT,iT]at g;obtain⟨p,a,g⟩:=g;simp only[Seg]at g;obtain⟨c,tp,e,g⟩:=g;rw[iT]at g;obtain⟨j,k,l,_⟩:=g
 have c4:z (kH kind d)=0/\kH kind d=[]\/z (kH kind d)=1/\kH kind d=[(⟨7,0,0,0⟩,d+1)]:=by
  unfold kH;split
  .exact .inr ⟨rfl,rfl⟩
  .exact .inl ⟨rfl,rfl⟩
 generalize V:at'+z c0+z (kH kind d)=r at *;have m:r+1+1+1=r+3:=a6;rw[m]at j k l;obtain⟨bk,q⟩:=U (r+3) j k
 have h:G (r+3+z (c1 (r+3))+2)=S (d+1):=by
  rw[<-hT];congr 1;simp only[j4,j6,j7];omega
 have s:G (at'+z c0)=S (d+1):=by
  rcases c4 with⟨hl,_⟩|⟨hl,i⟩
  .rw[<-c];congr 1;omega
  .rw[i]at a;exact a.1
 obtain⟨t,u⟩:=o p s;refine⟨t,?_⟩;rw[fX,fX];refine⟨u,?_,?_⟩
 .rcases c4 with⟨_,i⟩|⟨hl,i⟩
  .rw[i];trivial
  .rw[i]
   exact⟨iD 1 1 rfl a7 a6 a8 (by rw[show at'+z c0+1=r by omega,c];congr 1;omega),trivial⟩
 .rw[V]
  refine⟨rW (r+3) rfl hd bk tp,iD 0 1 rfl a7 hd a8 (by rw[e];congr 1;omega),wx (r+3+z (c1 (r+3))+2) rfl a6 h,?_⟩;rw[m,fX];exact⟨q,iD 1 1 rfl a7 a6 a8 (by rw[l];congr 1;omega),iD 1 1 rfl a7 a6 a8 (by rw[show r+3+z (c1 (r+3))+1+1=r+3+z (c1 (r+3))+2 by omega,h];congr 1;omega),trivial⟩
mutual
theorem zz:∀(e:Ex){q d:Int}{at':Nat},rE w ps f q e->0<=d->Seg G at' (cE at' d e)->G (at'+z (cE at' d e))=S (d+1)->G at'=S d/\Good ps word G at' (cE at' d e)
 |.mk kind op num slot size kids,q,d,at',h,hd,c,hT=>by
   rw[rE]at h;rw[cE]at c hT|-;by_cases g:kind=8\/kind=9
   .rw[l7 g]at c hT|-
    have i:z kids=2:=by
     obtain⟨⟨_,_,_,_,_,h⟩,_⟩:=h;omega
    exact JW kids i h.2 hd c hT
   .rw[j8 g]at c hT|-
    rw[iT]at c;obtain⟨hl,j,O⟩:=JV (G:=G) (word:=word) (at':=at'+z (cEs at' d kids)) h.1 g hd (by rw[<-hT,j4,NR h.1 g,C7]);have:=wy kids h.2 hd c.1 (O c.2);exact⟨this.1,fX.2 ⟨this.2,j⟩⟩
theorem wy:∀(l:List Ex){q d:Int}{at':Nat},rEs w ps f q l->0<=d->Seg G at' (cEs at' d l)->G (at'+z (cEs at' d l))=S (d+z l)->G at'=S d/\Good ps word G at' (cEs at' d l)
 |[],q,d,at',h,hd,g,c=>by
   rw[cEs]at c|-;exact⟨by simpa using c,trivial⟩
 |e::l,q,d,at',h,hd,g,c=>by
   rw[rEs]at h;rw[cEs]at g c|-;rw[iT]at g;obtain⟨i,j⟩:=wy l h.2 a6 g.2 (by rw[j4,<-C7]at c;rw[c];congr 1;simp only[j6];omega);obtain⟨k,m⟩:=zz e h.1 hd g.1 i;exact⟨k,fX.2 ⟨m,j⟩⟩
theorem JW:∀(l:List Ex){q d kind:Int}{at':Nat},z l=2->rEs w ps f q l->0<=d->Seg G at' (cAO at' d kind l)->G (at'+z (cAO at' d kind l))=S (d+1)->G at'=S d/\Good ps word G at' (cAO at' d kind l)
 |[],q,d,kind,at',c,h,hd,g,i=>by cases c
 |e::l,q,d,kind,at',c,h,hd,g,i=>by
   rw[rEs]at h;rw[cAO]at g i|-;exact DQ hd (λs t=>zz e h.1 hd s t) (λr s t=>yb l (by simpa using c) h.2 hd s t) g i
theorem yb:∀(l:List Ex){q d:Int}{at':Nat},z l=1->rEs w ps f q l->0<=d->Seg G at' (qh at' d l)->G (at'+z (qh at' d l))=S (d+1)->G at'=S d/\Good ps word G at' (qh at' d l)
 |[],q,d,at',i,h,hd,c,g=>by cases i
 |e::l,q,d,at',i,h,hd,c,g=>by
   rw[rEs]at h;rw[qh]at c g|-;exact zz e h.1 hd c g
end
end
section
variable{w:Int}{ps:Sig}{f:Nat}{word:Bool}{G:Nat->Option Int}
def leave(word:Bool):Code:=if word then [(⟨1,0,0,0⟩,0),(⟨11,0,0,0⟩,1)]else [(⟨11,0,0,0⟩,0)]
def mh(at':Nat)(c0:Code)(c1:Nat->Code):Code:=
 c0++(⟨9,(at'+z c0+1+(c1 (at'+z c0+1)).length+1:Nat),0,0⟩,1)::(c1 (at'+z c0+1)++[(⟨8,(at':Int),0,0⟩,0)])
def ifC(at':Nat)(c1:Nat->Code)(a:Bool)(c2:Nat->Code):Code:=
 if a then
  let r:=at'+1+z (c1 (at'+1))+1
  (⟨9,(r:Int),0,0⟩,1)::(c1 (at'+1)++(⟨8,(r+z (c2 r):Nat),0,0⟩,0)::c2 r)
 else(⟨9,(at'+1+z (c1 (at'+1)):Nat),0,0⟩,1)::c1 (at'+1)
def uJ(word:Bool)(kind slot size:Int)(n:Nat):Code:=
 if kind=1 then [(⟨3,slot,0,0⟩,n)]else if kind=2 then [(⟨5,slot,size,0⟩,n)]else if kind=3 then [(⟨13,0,0,0⟩,n)]
 else if kind=6 then [(⟨10,slot,0,0⟩,n)]else if kind=7 then(if n=0 then leave word else [(⟨11,0,0,0⟩,n)])else []
mutual
def cS(word:Bool)(at':Nat):Stm->Code
 |.mk kind slot size e a el=>
   if kind=5 then mh at' (qh at' 0 e) (λr=>cSs word r a)
   else cEs at' 0 e++(if kind=4 then ifC (at'+z (cEs at' 0 e)) (λr=>cSs word r a) (!el.isEmpty) (λr=>cSs word r el)else uJ word kind slot size (z e))
def cSs(word:Bool)(at':Nat):List Stm->Code
 |[]=>[]
 |e::l=>cS word at' e++cSs word (at'+z (cS word at' e)) l
end
variable{at':Nat}
def wz(b:Seg G at' (leave word)):G at'=S 0/\Good ps word G at' (leave word):=by
 cases word with
 |true=>
   obtain⟨U,Y,_⟩:=b;exact⟨U,iD 0 1 rfl a7 a7 a8 Y,⟨1,0,rfl,a7,a7,λ_=>rfl,λk a=>by simp[next]at a⟩,trivial⟩
 |false=>
   obtain⟨U,_⟩:=b;exact⟨U,⟨0,0,rfl,a7,a7,λ_=>rfl,λk a=>by simp[next]at a⟩,trivial⟩
def GP{q kind slot size:Int}{n nt ne at':Nat}(h:okS w ps f word q kind slot size n nt ne)(d:kind≠4)(e:kind≠5)(c:Seg G at' (uJ word kind slot size n))(hT:G (at'+z (uJ word kind slot size n))=S 0):
  G at'=S (n:Int)/\Good ps word G at' (uJ word kind slot size n):=by
 obtain⟨_,_,_,_,_,h⟩:=h;rcases h with⟨h,_,b⟩|⟨h,_,_,_,b⟩|⟨h,b⟩|⟨h,k,g,a,i⟩|⟨h,b⟩
 .subst h b
  exact⟨c.1,iD 1 0 rfl a7 a7 a8 hT,trivial⟩
 .subst h b
  exact⟨c.1,iD 2 0 rfl a7 a7 a8 hT,trivial⟩
 .subst b
  rcases h with h|h|h
  .subst h
   exact⟨c.1,iD 1 0 rfl a7 a7 a8 hT,trivial⟩
  .exact absurd h d
  .exact absurd h e
 .subst h g
  refine⟨c.1,iD n 0 ?_ a6 a6 a8 (by rw[show at'+1=at'+z (uJ word 6 (k:Int) size n)from rfl,hT];congr 1;omega),trivial⟩;have:¬((k:Nat):Int)<0:=a6;simp[takes,i,this]
 .subst h
  rcases b with b|⟨j,b⟩
  .subst b
   exact wz c
  .subst j b
   exact⟨c.1,⟨1,0,rfl,a7,a7,λ_=>rfl,λk l=>by simp[next]at l⟩,trivial⟩
def BG{c0:Code}{c1:Nat->Code}
 (d:Seg G at' c0->G (at'+z c0)=S 1->G at'=S 0/\Good ps word G at' c0)
 (U:∀r,Seg G r (c1 r)->G (r+z (c1 r))=S 0->G r=S 0/\Good ps word G r (c1 r))
 (a:Seg G at' (mh at' c0 c1))(hT:G (at'+z (mh at' c0 c1))=S 0):G at'=S 0/\Good ps word G at' (mh at' c0 c1):=by
 unfold mh at a hT|-;rw[iT]at a;obtain⟨g,c,a⟩:=a;rw[iT]at a;obtain⟨i,e,_⟩:=a;obtain⟨b,j⟩:=d g c;obtain⟨V,k⟩:=U _ i e;refine⟨b,fX.2 ⟨j,rW _ rfl a7 ?_ V,fX.2 ⟨k,wx at' rfl a7 b,trivial⟩⟩⟩;rw[<-hT];congr 1;simp only[j4,j6,j7];omega
def JX{a:Bool}{c1 c2:Nat->Code}
 (U:∀r,Seg G r (c1 r)->G (r+z (c1 r))=S 0->G r=S 0/\Good ps word G r (c1 r))
 (Y:∀r,Seg G r (c2 r)->G (r+z (c2 r))=S 0->G r=S 0/\Good ps word G r (c2 r))
 (d:Seg G at' (ifC at' c1 a c2))(hT:G (at'+z (ifC at' c1 a c2))=S 0):G at'=S 1/\Good ps word G at' (ifC at' c1 a c2):=by
 unfold ifC at d hT|-;cases a with
 |false=>
   simp only[A3,B8]at d hT|-;obtain⟨c,g⟩:=d;have b:G (at'+1+z (c1 (at'+1)))=S 0:=by rw[<-hT];congr 1;simp only[j6];omega
   obtain⟨V,i⟩:=U _ g b;exact⟨c,rW _ rfl a7 b V,i⟩
 |true=>
   simp only[B5]at d hT|-;obtain⟨c,d⟩:=d;rw[iT]at d;obtain⟨g,e,j⟩:=d;generalize V:at'+1+z (c1 (at'+1))+1=r at *;have b:G (r+z (c2 r))=S 0:=by rw[<-hT];congr 1;simp only[j6,j4];omega
   obtain⟨k,i⟩:=U _ g e;obtain⟨l,m⟩:=Y _ j b;refine⟨c,rW _ rfl a7 l k,fX.2 ⟨i,wx _ rfl a7 b,?_⟩⟩;rw[V];exact m
mutual
theorem NS:∀(s:Stm){q:Int}{at':Nat},rS w ps f word q s->Seg G at' (cS word at' s)->G (at'+z (cS word at' s))=S 0->G at'=S 0/\Good ps word G at' (cS word at' s)
 |.mk kind slot size e d el,q,at',h,a,hT=>by
   rw[rS]at h;obtain⟨g,l,p,m⟩:=h;rw[cS]at a hT|-;by_cases i:kind=5
   .rw[l7 i]at a hT|-
    have j:z e=1:=by
     obtain⟨_,_,_,_,_,h⟩:=g;omega
    exact BG (λs t=>yb e j l a7 s t) (λr s t=>pC d p s t) a hT
   .rw[j8 i]at a hT|-
    rw[iT]at a;obtain⟨n,c⟩:=a;rw[j4,<-C7]at hT
    have b:G (at'+z (cEs at' 0 e))=S (z e:Int)/\Good ps word G (at'+z (cEs at' 0 e)) (if kind=4 then ifC (at'+z (cEs at' 0 e)) (λr=>cSs word r d) (!el.isEmpty) (λr=>cSs word r el)else uJ word kind slot size (z e)):=by
     by_cases k:kind=4
     .rw[l7 k]at c hT|-
      have j:z e=1:=by
       obtain⟨_,_,_,_,_,h⟩:=g;omega
      rw[j];exact JX (λr s t=>pC d p s t) (λr s t=>pC el m s t) c hT
     .rw[j8 k]at c hT|-
      exact GP g k i c hT
    obtain⟨o,u⟩:=wy e l (G9 0) n (by rw[b.1];congr 1;omega);exact⟨o,fX.2 ⟨u,b.2⟩⟩
theorem pC:∀(l:List Stm){q:Int}{at':Nat},rSs w ps f word q l->Seg G at' (cSs word at' l)->G (at'+z (cSs word at' l))=S 0->G at'=S 0/\Good ps word G at' (cSs word at' l)
 |[],q,at',h,b,a=>by
   rw[cSs]at a|-;exact⟨by simpa using a,trivial⟩
 |e::l,q,at',h,b,a=>by
   rw[rSs]at h;rw[cSs]at b a|-;rw[iT]at b;rw[j4,<-C7]at a;obtain⟨c,d⟩:=pC l h.2 b.2 a;obtain⟨g,i⟩:=NS e h.1 b.1 c;exact⟨g,fX.2 ⟨i,d⟩⟩
end
def codeOf(word:Bool)(body:List Stm):Code:=cSs word 0 body++leave word
def BH:∀(c pre:Code),Seg (λk=>((pre++c)[k]?).map Prod.snd) (z pre) c
 |[],_=>trivial
 |(x,d)::c,pre=>by
   refine⟨a8,?_⟩;have:=BH c (pre++[(x,d)]);exact Um
def BI{body:List Stm}(h:rSs w ps f word 1 body):
  let G:=λk=>((codeOf word body)[k]?).map Prod.snd
  G 0=S 0/\Good ps word G 0 (codeOf word body):=by
 intro G;have b:Seg G 0 (codeOf word body):=BH (codeOf word body) [];unfold codeOf at b|-;rw[iT]at b;obtain⟨hl,a⟩:=wz (ps:=ps) b.2;obtain⟨c,d⟩:=pC body h b.1 hl;exact⟨c,fX.2 ⟨d,a⟩⟩
end
section
variable{w:Int}{ps:Sig}{f:Nat}{word:Bool}{G:Nat->Option Int}
def jv:∀{c:Code}{at' i:Nat}{x:Ins}{d:Int},Good ps word G at' c->c[i]?=S (x,d)->OkI ps word G (at'+i) x d
 |(y,e)::c,at',0,x,d,h,hi=>by cases hi;exact h.1
 |(y,e)::c,at',i+1,x,d,h,hi=>by
   have:=jv (i:=i) h.2 Xv
   rwa [show at'+(i+1)=at'+1+i by omega]
def NT{body:List Stm}(h:rSs w ps f word 1 body){i:Nat}{x:Ins}{d:Int}(j:(codeOf word body)[i]?=S (x,d))(e:x.op=8\/x.op=9):0<=x.a/\x.a<(z (codeOf word body):Int):=by
 obtain⟨t,p,_,_,_,_,l⟩:=jv (BI h).2 j;obtain⟨k,m,g⟩:=l x.a (by unfold next;rcases e with e|e<;>simp[e])
 have b1:k<z (codeOf word body):=by
  rcases Sv k (z (codeOf word body))with h|h
  .exact h
  .simp only[E0 h,Hk]at g;cases g
 omega
def Inv(G:Nat->Option Int)(n:Nat)(out:List Int)(c:List Nat):Prop:=
 (z out)=n/\(∀k v,out[k]?=S v->v = -1\/(G k=S v/\0<=v))/\∀a∈c,∃v,out[a]?=S v/\G a=S v/\0<=v
def left(out:List Int):Nat:=out.countP (· < 0)
def mj:∀{out:List Int}{k:Nat}{v x:Int},out[k]?=S v->v<0->0<=x->left (out.set k x)+1=left out
 |a::out,0,v,x,h,d,I=>by
   cases h;have:¬x<0:=a6;simp[left,d,this]
 |a::out,k+1,v,x,h,d,I=>by
   have:=mj (out:=out) (k:=k) Xm d I;simp only[left,Ot,Sl]at *;omega
variable{out:List Int}{c:List Nat}{b v:Int}
def Inv.seen{n k:Nat}(h:Inv G n out c)(hT:G k=S b)(a:out[k]?=S v):v<0\/v=b:=by
 rcases h.2.1 k v a with h|⟨h,_⟩
 .exact .inl a6
 .rw[h]at hT;cases hT;exact .inr rfl
def Inv.find{n k:Nat}(h:Inv G n out c)(hT:G k=S b)(i:0<=b)(g:out[k]?=S v)(p:v<0):
  Inv G n (out.set k b) (c++[k])/\left (out.set k b)+z (c++[k])=left out+z c:=by
 have l:=(l8.1 g).1;refine⟨⟨by simp[h.1],λj u d=>?_,λa e=>?_⟩,?_⟩
 .rw[D9]at d
  by_cases t:k=j
  .subst t;rw[l7 rfl,l7 l]at d;cases d;exact .inr ⟨hT,i⟩
  .rw[j8 t]at d;exact h.2.1 j u d
 .rcases D7.1 e with e|e
  .obtain⟨u,m,Y,q⟩:=h.2.2 a e
   by_cases o:k=a
   .subst o;rw[m]at g;cases g;omega
   .exact⟨u,by rw[D9,j8 o];exact m,Y,q⟩
  .obtain rfl:a=k:=by simpa using e
   exact⟨b,by rw[D9,l7 rfl,l7 l],hT,i⟩
 .have:=mj g p i
  simp only[j4,j6,j7];omega
end
end
end Go.Lower
namespace Go.Proofs.YtednjibjomfhfaaGreatDoor.Low
section
open Go Go.Am Go.Lower
mutual
def mK:Ex->Nat
 |.mk _ _ _ _ _ kids=>iX kids
def iX:List Ex->Nat
 |[]=>0
 |e::l=>1+mK e+iX l
end
def np:∀l:List Ex,iX l=z l+(l.map mK).sum
 |[]=>by simp[iX]
 |e::l=>by simp only[iX,np l,j6,l9,D6];omega
def qI(l:List Ex)(k:Nat):Nat:=z l+((l.take k).map mK).sum
def Gt(l:List Ex)(k:Nat):qI l k<=iX l:=by
 rw[np,qI]
 conv=>rhs;rw[<-F9 k l]
 simp only[A7,Lb,j4,C2,D4];omega
def AU{l:List Ex}{k:Nat}{e:Ex}(h:l[k]?=S e):qI l (k+1)=qI l k+mK e:=by
 simp only[qI,B4,h,I7,A7,Lb,l9,v8,D6,P8];omega
mutual
def nP:Stm->Nat
 |.mk _ _ _ e a el=>iX e+fp a+fp el
def fp:List Stm->Nat
 |[]=>0
 |e::l=>1+nP e+fp l
end
def qJ:∀l:List Stm,fp l=z l+(l.map nP).sum
 |[]=>by simp[fp]
 |e::l=>by simp only[fp,qJ l,j6,l9,D6];omega
def Dm(l:List Stm)(k:Nat):Nat:=z l+((l.take k).map nP).sum
def MP(l:List Stm)(k:Nat):Dm l k<=fp l:=by
 rw[qJ,Dm]
 conv=>rhs;rw[<-F9 k l]
 simp only[A7,Lb,j4,C2,D4];omega
def Gu{l:List Stm}{k:Nat}{e:Stm}(h:l[k]?=S e):Dm l (k+1)=Dm l k+nP e:=by
 simp only[Dm,B4,h,I7,A7,Lb,l9,v8,D6,P8];omega
def IS(l:List Stm):z (qG l)=z l:=by rw[pd,j5]
end
section
open Go Go.Am Go.Lower
attribute[local congr]ite_cc
section
def zg(x:Ins):List C:=[.d (.int .i64 x.op),.d (.int .i64 x.a),.d (.int .i64 x.b),.d (.int .u32 x.n)]
def fG(l:List Ins):List C:=l.flatMap zg
def Gy:fG []=[]:=rfl
def qL(x:Ins)(l:List Ins):fG (x::l)=zg x++fG l:=rfl
def Gz(a b:List Ins):fG (a++b)=fG a++fG b:=by simp[fG]
def jh:∀l:List Ins,z (fG l)=z l*4
 |[]=>rfl
 |x::l=>by rw[qL,j4,jh l];simp only[zg,j6,j7];omega
def xT:∀(pre:List Ins)(x:Ins)(post:List Ins)(n:Int),(fG (pre++x::post)).set (z pre*4+1) (.d (.int .i64 n))=fG (pre ++ {x with a:=n}::post)
 |[],x,post,n=>rfl
 |y::pre,x,post,n=>by
   rw[u7,qL,u7,qL,<-xT pre x post n];rw[J3 _ _ (by simp only[zg,j6,j7];omega)];congr 2;simp only[zg,j6,j7];omega
variable{word:Bool}{code:List Ins}{g0 g:Nat->Nat}{b ob:Obs}{s:St}{K K2 G B:Nat}{k:List Nat}{R:AV->(Nat->Nat)->Obs->Prop}{f:Nat->AV}{args:Array Operand}{tys:Array TypeId}{K':St->Prop}
def oK(p:Nat->Bool):ae s ⟨s.f,s.gen,λi=>if p i=T then N else s.obj i⟩:=by
 exact u6
def bS(p:Nat->Bool)(h:R (lM s.f k) s.gen (λi=>if p i=T then N else s.obj i)):zY k R .normal s:=⟨_,oK p,h⟩
def jb(p:Nat->Bool)(h:R (lM s.f k) s.gen (λi=>if p i=T then N else s.obj i)):zY k R .ret s:=⟨_,oK p,h⟩
structure Tape (G B:Nat) (word:Bool) (code:List Ins) (g:Nat->Nat) (ob:Obs):Prop where
 t:ob G=some [.d (.bool word),.osl B (g B) 4 0 code.length]
 b:ob B=some (fG code)
 ne:G≠B
def Tape.same{G B:Nat}{g g':Nat->Nat}{ob Z:Obs}(h:Tape G B word code g ob)(hg:g' B=g B)(U:Z G=ob G)(Y:Z B=ob B):Tape G B word code g' Z:=
 ⟨by rw[U,hg];exact h.t,by rw[Y];exact h.b,h.ne⟩
structure Bl (K G B:Nat) (word:Bool) (code:List Ins) (g:Nat->Nat) (ob:Obs) (g':Nat->Nat) (Z:Obs):Prop where
 tape:Tape G B word code g' Z
 gen:∀i,i<K->i≠B->g' i=g i
 obj:∀i,i≠G->i≠B->Z i=ob i
def fq(f:FuncId)(rest:List AV)(a:Bool->Nat->List Ins):Prop:=
 ∀(K G B:Nat)(word:Bool)(code:List Ins)(g:Nat->Nat)(ob:Obs)(P:Nat),Tape G B word code g ob->g G=P->G<K->B<K->(∀i,K<=i->ob i=N)->z code+(a word (z code)).length<=1000000000->
  jl Tryz.prog f (.one (.ptr G P 0)::rest) g ob (λr c Z=>r=uv/\Bl K G B word (code++a word (z code)) g ob c Z)
def Vb{G B V P gV n:Nat}{code xs:List Ins}{g:Nat->Nat}{ob:Obs}(j:Tape G B word code g ob)(E:g G=P)(l:ob V=S (fG xs))(a:g V=gV)(hn:z xs=n)(hT:V≠G)(hB:V≠B)(hl:z code+z xs<=1000000000):
  jl Tryz.prog 168 [.one (.ptr G P 0),.one (.osl V gV 4 0 n)] g ob (λr g' Z=>r=uv/\Tape G B word (code++xs) g' Z/\(∀i,i≠B->g' i=g i)/\∀i,i≠G->i≠B->Z i=ob i):=by
 refine hdF 0 Tryz.func168 rfl [] ?_;obtain⟨U,Y,d⟩:=j;subst E a hn;simp only[go_sem,U,Y,l,d,jh];refine⟨l0 _,l0 _,⟨a7,a6⟩,⟨_,ae.refl _,rfl,⟨?_,?_,d⟩,λi e=>?_,λi e m=>?_⟩⟩
 .simp only[upd,B5,j4]
 .simp only[upd,B5,j8 (A9 d)]
  rw[s6 (by rw[jh];omega),s6 (by rw[jh];omega),Gz]
 .simp only[upd,j8 e]
 .simp only[upd,j8 e,j8 m]
structure Prog (K K2 G B:Nat) (word:Bool) (code:List Ins) (g0:Nat->Nat) (b:Obs) (g:Nat->Nat) (ob:Obs):Prop where
 tape:Tape G B word code g ob
 gen:∀i,i<K->i≠B->g i=g0 i
 obj:∀i,i<K->i≠G->i≠B->ob i=b i
 top:∀i,K2<=i->ob i=none
 tk:G<K
 bk:B<K
 kk:K<=K2
def Prog.start{g:Nat->Nat}{ob:Obs}(h:Tape G B word code g ob)(hT:G<K)(hB:B<K)(J:∀i,K<=i->ob i=N)(a:K<=K2):Prog K K2 G B word code g ob g ob:=
 ⟨h,λ_ _ _=>rfl,λ_ _ _ _=>rfl,λi c=>J i a6,hT,hB,a⟩
def Prog.fin(h:Prog K K2 G B word code g0 b g ob)(J:∀i,K<=i->b i=N):Bl K G B word code g0 b g (λi=>if decide (K<=i)=T then N else ob i):=by
 refine⟨h.tape.same rfl ?_ ?_,h.gen,λi U Y=>?_⟩
 .have:=h.tk;simp[show ¬K<=G by omega]
 .have:=h.bk;simp[show ¬K<=B by omega]
 .by_cases a:K<=i
  .simp[a,J i a]
  .simp only[a,K7,A3,B8]
   exact h.obj i a6 U Y
def Prog.new{K K2 G B V x:Nat}{y:Option (List C)}(h:Prog K K2 G B word code g0 b g ob)(U:K<=V)(Y:V<K2):Prog K K2 G B word code g0 b (upd g V x) (upd ob V y):=by
 have d:¬G=V:=by have:=h.tk;omega
 have hB:¬B=V:=by have:=h.bk;omega
 refine⟨h.tape.same (by simp[upd,hB]) (by simp[upd,d]) (by simp[upd,hB]),λi a c=>?_,λi a e c=>?_,λi a=>?_,h.tk,h.bk,h.kk⟩
 .simp only[upd,j8 (show ¬i=V by omega)];exact h.gen i a c
 .simp only[upd,j8 (show ¬i=V by omega)];exact h.obj i a e c
 .simp only[upd,j8 (show ¬i=V by omega)];exact h.top i a
def Prog.genT(h:Prog K K2 G B word code g0 b g ob):g G=g0 G:=h.gen G h.tk h.tape.ne
def cU{K K2 G B V P gV n:Nat}(xs:List Ins)(h:Prog K K2 G B word code g0 b g ob){o:Oper}{k:Box K'}{Bs:Nat}
 (ho:o.op=.call ⟨.value (.func 168),args,tys⟩)(E:g0 G=P)(U:K<=V)(Y:V<K2)(p:z xs=n)(q:args.toList.map (St.ev ⟨f,upd g V gV,upd ob V (S (fG xs))⟩)=[.one (.ptr G P 0),.one (.osl V gV 4 0 n)])(hl:z code+z xs<=1000000000)
 (u:∀g' Z,Prog K K2 G B word (code++xs) g0 b g' Z->(∀i,i≠B->i≠V->g' i=g i)->(∀i,i≠G->i≠B->i≠V->Z i=ob i)->K' (St.put ⟨f,g',Z⟩ o.dst uv)):bu (spB Tryz.prog Bs) o ⟨f,upd g V gV,upd ob V (S (fG xs))⟩ k:=by
 have c:=h.new (x:=gV) (y:=S (fG xs)) U Y;have v:V≠G:=by have:=h.tk;omega
 have hB:V≠B:=by have:=h.bk;omega
 refine ct ho (R:=λr g' Z=>r=uv/\Tape G B word (code++xs) g' Z/\(∀i,i≠B->g' i=upd g V gV i)/\∀i,i≠G->i≠B->Z i=upd ob V (S (fG xs)) i) ?_ ?_
 .rw[q]
  exact Vb c.tape (c.genT.trans E) Wq Wq p v hB hl
 .rintro _ g' Z ⟨rfl,t,m,j⟩
  refine u g' Z ⟨t,λi d a=>?_,λi d e a=>?_,λi d=>?_,h.tk,h.bk,h.kk⟩ (λi a l=>?_) (λi e a l=>?_)
  .rw[m i a];exact c.gen i d a
  .rw[j i e a];exact c.obj i d e a
  .have:=h.tk;have:=h.bk;have:=h.kk
   rw[j i a6 a6];exact c.top i d
  .rw[m i a];simp only[upd,j8 l]
  .rw[j i e a];simp only[upd,j8 l]
def bV{K K2 G B P:Nat}{j:FuncId}{rest:List AV}{a:Bool->Nat->List Ins}(n:fq j rest a)(h:Prog K K2 G B word code g0 b g ob){o:Oper}{k:Box K'}{Bs:Nat}
 (ho:o.op=.call ⟨.value (.func j),args,tys⟩)(E:g0 G=P)(p:args.toList.map (St.ev ⟨f,g,ob⟩)=.one (.ptr G P 0)::rest)(hl:z code+(a word (z code)).length<=1000000000)
 (q:∀g' Z,Prog K K2 G B word (code++a word (z code)) g0 b g' Z->(∀i,i<K2->i≠B->g' i=g i)->(∀i,i≠G->i≠B->Z i=ob i)->K' (St.put ⟨f,g',Z⟩ o.dst uv)):bu (spB Tryz.prog Bs) o ⟨f,g,ob⟩ k:=by
 have U:=h.tk;have Y:=h.bk;have u:=h.kk;refine ct ho (R:=λr g' Z=>r=uv/\Bl K2 G B word (code++a word (z code)) g ob g' Z) ?_ ?_
 .rw[p]
  exact n K2 G B word code g ob P h.tape (h.genT.trans E) a6 a6 h.top hl
 .rintro _ g' Z ⟨rfl,t,l,e⟩
  refine q g' Z ⟨t,λi c d=>?_,λi c m d=>?_,λi c=>?_,U,Y,u⟩ l e
  .rw[l i a6 d];exact h.gen i c d
  .rw[e i m d];exact h.obj i c m d
  .rw[e i a6 a6];exact h.top i c
def Fa:fq 95 [] (λword _=>(leave word).map Prod.fst):=by
 intro K G B word code g ob P e E v H J hl;have j:=Prog.start (K2:=K+14) e v H J a6;refine hdF K Tryz.func95 rfl [] ?_;have U:=e.t;cases word with
 |false=>
   have a:z code+1<=1000000000:=hl;simp only[go_sem,U,E];refine cU [⟨11,0,0,0⟩] j rfl E a6 a6 rfl rfl (by exact a) ?_;intro m n d _ _;simp only[go_sem];refine bS (λi=>decide (K<=i)) ?_;exact⟨rfl,d.fin J⟩
 |true=>
   have a:z code+2<=1000000000:=hl;simp only[go_sem,U,E];refine cU [⟨1,0,0,0⟩] j rfl E a6 a6 rfl rfl (by show z code+1<=1000000000;omega) ?_;intro m n d _ _;simp only[go_sem,d.tape.t,d.genT,E];refine cU [⟨11,0,0,0⟩] d rfl E a6 a6 rfl rfl (by simp only[j4,j6,j7];omega) ?_;intro o q l _ _;rw[l6]at l;simp only[go_sem];refine bS (λi=>decide (K<=i)) ?_;exact⟨rfl,l.fin J⟩
def Nj{G B I J P l W:Nat}{pre post:List Ins}{x:Ins}{g:Nat->Nat}{ob:Obs}(m:Tape G B word (pre++x::post) g ob)(E:g G=P)(n:ob I=S [.ptr G P 0])(j:g I=l)
 (o:ob J=S [.d (.int .i64 (z pre))])(b:g J=W)(hl:z (pre++x::post)<=1000000000):
  jl Tryz.prog 227 [.one (.ptr I l 0),.one (.ptr J W 0)] g ob (λr g' Z=>r=uv/\g'=g/\Tape G B word (pre ++ {x with a:=(z (pre++x::post):Int)}::post) g Z/\∀i,i≠B->Z i=ob i):=by
 refine hdF 0 Tryz.func227 rfl [] ?_;obtain⟨U,Y,e⟩:=m;subst E j b;simp only[go_sem];refine cA b9 ?_;have q:z pre<z (pre++x::post):=by simp only[j4,j6];omega
 simp only[go_sem,U,Y,n,o,e,jh,q];refine⟨a6,_,ae.refl _,rfl,rfl,⟨?_,?_,e⟩,λi t=>by simp[upd,t]⟩
 .simp only[upd,j8 e,U,j4,j6]
 .simp only[upd,B5]
  exact congrArg S (xT pre x post _)
structure Bm (I J:Nat) (G P at':Nat) (g:Nat->Nat) (ob:Obs) (v:AV):Prop where
 v:v=.one (.clo 227 [.ptr I (g I) 0,.ptr J (g J) 0])
 i:ob I=some [.ptr G P 0]
 j:ob J=some [.d (.int .i64 at')]
def Bm.same{I J G P at':Nat}{g g':Nat->Nat}{ob Z:Obs}{v:AV}(h:Bm I J G P at' g ob v)(U:g' I=g I)(Y:g' J=g J)(a:Z I=ob I)(c:Z J=ob J):Bm I J G P at' g' Z v:=
 ⟨by rw[U,Y];exact h.v,by rw[a];exact h.i,by rw[c];exact h.j⟩
def QV{K G B P:Nat}{op:Int}{g:Nat->Nat}{ob:Obs}(a:Tape G B word code g ob)(E:g G=P)(v:G<K)(H:B<K)(J:∀i,K<=i->ob i=N)(hl:z code+1<=1000000000):
  jl Tryz.prog 212 [.one (.ptr G P 0),iv .i64 op] g ob (λr g' Z=>Bm (K+2) (K+5) G P (z code) g' Z r/\Tape G B word (code++[⟨op,0,0,0⟩]) g' Z/\(∀i,i<K->i≠B->g' i=g i)/\(∀i,i<K->i≠G->i≠B->Z i=ob i)/\∀i,K+6<=i->Z i=N):=by
 refine hdF K Tryz.func212 rfl [4] ?_;have W:=Prog.start (K2:=K+17) a v H J a6;have U:=a.t;have Y:=a.b;have X:¬G=K+2:=a6;have t2:¬G=K+5:=a6;have b1:¬B=K+2:=a6;have b2:¬B=K+5:=a6;have ca:=W.new (V:=K+2) (x:=nxC 263 (g (K+2))) (y:=S [.ptr G P 0]) a6 a6;have cb:=ca.new (V:=K+5) (x:=nxC 4 (g (K+5))) (y:=S [.d (.int .i64 0)]) a6 a6
 have bf:Prog K (K+17) G B word code g ob (upd (upd g (K+2) (nxC 263 (g (K+2)))) (K+5) (nxC 4 (g (K+5)))) (upd (upd (upd ob (K+2) (S [.ptr G P 0])) (K+5) (S [.d (.int .i64 0)])) (K+5) (S [.d (.int .i64 (z code))])):=by
  have:=cb.new (V:=K+5) (x:=(upd (upd g (K+2) (nxC 263 (g (K+2)))) (K+5) (nxC 4 (g (K+5)))) (K+5)) (y:=S [.d (.int .i64 (z code))]) a6 a6;have e:∀(f:Nat->Nat)(i:Nat),upd f i (f i)=f:=λf i=>by funext j;simp only[upd];split<;>simp_all
  rw[e]at this;exact this
 simp only[go_sem,U,Y,E,X,t2,b1,b2];refine cU [⟨op,0,0,0⟩] bf rfl E a6 a6 rfl rfl (by exact hl) ?_;intro n o l u A;have I:n (K+2)=nxC 263 (g (K+2)):=by rw[u _ a6 a6];simp[upd]
 have Q:n (K+5)=nxC 4 (g (K+5)):=by rw[u _ a6 a6];simp[upd]
 have e3:o (K+2)=S [.ptr G P 0]:=by rw[A _ a6 a6 a6];simp[upd]
 have e4:o (K+5)=S [.d (.int .i64 (z code))]:=by rw[A _ a6 a6 a6];simp[upd]
 simp only[go_sem,I,Q];refine jb (λi=>decide (K+6<=i)) ?_;refine⟨⟨?_,?_,?_⟩,l.tape.same rfl ?_ ?_,l.gen,λi m hT hB=>?_,λi m=>?_⟩
 .simp only[go_sem,lM,I,Q]
 .simp[e3]
 .simp[e4]
 .simp[show ¬K+6<=G by omega]
 .simp[show ¬K+6<=B by omega]
 .simp only[show ¬K+6<=i by omega,K7,A3,B8];exact l.obj i m hT hB
 .simp[m]
end
section
variable{word:Bool}{g0 g:Nat->Nat}{b ob:Obs}{code:List Ins}{f:Nat->AV}{args:Array Operand}{tys:Array TypeId}{K':St->Prop}{op num slot size:Int}
def Prog.more{K K2 v G B:Nat}(h:Prog K K2 G B word code g0 b g ob)(a:K2<=v):Prog K v G B word code g0 b g ob:=
 ⟨h.tape,h.gen,h.obj,λi c=>h.top i a6,h.tk,h.bk,by have:=h.kk;omega⟩
structure Open (I J G P at' l W:Nat) (g:Nat->Nat) (ob:Obs):Prop where
 gi:g I=l
 gj:g J=W
 i:ob I=some [.ptr G P 0]
 j:ob J=some [.d (.int .i64 at')]
def Open.same{I J G P at' l W:Nat}{g g':Nat->Nat}{ob Z:Obs}(h:Open I J G P at' l W g ob)(U:g' I=g I)(Y:g' J=g J)(a:Z I=ob I)(c:Z J=ob J):Open I J G P at' l W g' Z:=
 ⟨U.trans h.gi,Y.trans h.gj,a.trans h.i,c.trans h.j⟩
def ji{K K2 G B P:Nat}{op:Int}(h:Prog K K2 G B word code g0 b g ob){o:Oper}{k:Box K'}{Bs:Nat}
 (ho:o.op=.call ⟨.value (.func 212),args,tys⟩)(E:g0 G=P)(n:args.toList.map (St.ev ⟨f,g,ob⟩)=[.one (.ptr G P 0),iv .i64 op])(hl:z code+1<=1000000000)
 (p:∀g' Z l W,Prog K (K2+6) G B word (code++[⟨op,0,0,0⟩]) g0 b g' Z->Open (K2+2) (K2+5) G P (z code) l W g' Z->(∀i,i<K2->i≠B->g' i=g i)->(∀i,i<K2->i≠G->i≠B->Z i=ob i)->K' (St.put ⟨f,g',Z⟩ o.dst (.one (.clo 227 [.ptr (K2+2) l 0,.ptr (K2+5) W 0])))):bu (spB Tryz.prog Bs) o ⟨f,g,ob⟩ k:=by
 have U:=h.tk;have Y:=h.bk;have s:=h.kk;refine ct ho (R:=λr g' Z=>Bm (K2+2) (K2+5) G P (z code) g' Z r/\Tape G B word (code++[⟨op,0,0,0⟩]) g' Z/\(∀i,i<K2->i≠B->g' i=g i)/\(∀i,i<K2->i≠G->i≠B->Z i=ob i)/\∀i,K2+6<=i->Z i=N) ?_ ?_
 .rw[n]
  exact QV h.tape (h.genT.trans E) a6 a6 h.top hl
 .rintro _ g' Z ⟨⟨rfl,J,m⟩,t,d,e,q⟩
  refine p g' Z _ _ ⟨t,λi c a=>?_,λi c j a=>?_,q,U,Y,a6⟩ ⟨rfl,rfl,J,m⟩ d e
  .rw[d i a6 a];exact h.gen i c a
  .rw[e i a6 j a];exact h.obj i c j a
def gQ{K K2 G B P I J l W t:Nat}{pre post:List Ins}{x:Ins}(h:Prog K K2 G B word (pre++x::post) g0 b g ob)(u:Open I J G P (z pre) l W g ob){o:Oper}{k:Box K'}{Bs:Nat}
 (ho:o.op=.call ⟨.value (.tmp t),args,tys⟩)(E:g0 G=P)(hf:f t=.one (.clo 227 [.ptr I l 0,.ptr J W 0]))(n:args.toList.map (St.ev ⟨f,g,ob⟩)=[])(hl:z (pre++x::post)<=1000000000)
 (hk:∀Z,Prog K K2 G B word (pre ++ {x with a:=(z (pre++x::post):Int)}::post) g0 b g Z->(∀i,i≠B->Z i=ob i)->K' (St.put ⟨f,g,Z⟩ o.dst uv)):bu (spB Tryz.prog Bs) o ⟨f,g,ob⟩ k:=by
 have U:=h.tk;have Y:=h.bk;have h3:=h.kk;refine Ht ho hf (R:=λr g' Z=>r=uv/\g'=g/\Tape G B word (pre ++ {x with a:=(z (pre++x::post):Int)}::post) g Z/\∀i,i≠B->Z i=ob i) ?_ ?_
 .rw[n]
  exact Nj h.tape (h.genT.trans E) u.i u.gi u.j u.gj hl
 .rintro _ g' Z ⟨rfl,rfl,t,q⟩
  refine hk Z ⟨t,h.gen,λi hi p d=>?_,λi hi=>?_,U,Y,h3⟩ q
  .rw[q i d];exact h.obj i hi p d
  .rw[q i a6];exact h.top i hi
def dD(e:Ex):z (cxD e)=6:=by cases e;simp[cxD]
abbrev ipE(e:Ex):AV:=.one (.d (.iptr (cxD e)))
abbrev bJ(d:Int)(e:Ex):Bool->Nat->List Ins:=λ_ at'=>(cE at' d e).map Prod.fst
def Bn{a:Type}(f:Nat->a)(i:Nat):upd f i (f i)=f:=by funext j;simp only[upd];split<;>simp_all
def GA{a b:Ex}{d:Int}(ha:fq 211 [ipE a] (bJ d a))(hb:fq 211 [ipE b] (bJ d b)):
  fq 226 [ipE (.mk 8 op num slot size [a,b])] (bJ d (.mk 8 op num slot size [a,b])):=by
 intro K G B word code g ob P Q E v H J hl
 have bf:z code+((cE (z code) d a).length+4+(cE (z code+(cE (z code) d a).length+1+3) d b).length+2)<=1000000000:=by
  have:(bJ d (.mk 8 op num slot size [a,b]) word (z code)).length=_:=rfl;simp only[bJ,cE,cAO,pA,kH,qh,j5,B5,S7,j4,j6,j7]at hl;simp only[C7,Nat.reduceAdd]at hl|-;omega
 have hp:=Prog.start (K2:=K+50) Q v H J a6;refine hdF K Tryz.func226 rfl [] ?_;have ca:=hp.new (V:=K+4) (x:=nxC 253 (g (K+4))) (y:=S [.d (.int .i64 0),.d (.int .i64 0),.d (.int .i64 0),.d (.int .u32 0)]) a6 a6;have cb:=ca.new (V:=K+4) (x:=(upd g (K+4) (nxC 253 (g (K+4)))) (K+4)) (y:=S (zg ⟨7,0,0,0⟩)) a6 a6;rw[Bn]at cb;have U:=Q.t;have Y:=Q.b;have hE:cxD (.mk 8 op num slot size [a,b])=[.int .i64 8,.int .i64 op,.int .u32 num,.int .i64 slot,.int .i64 size,.sl [cxD a,cxD b]]:=by simp only[cxD,za]
 unfold ipE;rw[hE];simp only[go_sem,U,Y,E,dD];refine bV ha cb rfl E rfl (by simp only[bJ,j5];omega) ?_;intro g1 ad p1 q1 r1;have A:ad (K+4)=S [.d (.int .i64 7),.d (.int .i64 0),.d (.int .i64 0),.d (.int .u32 0)]:=by rw[r1 _ a6 a6];simp[upd,zg]
 have g4:g1 (K+4)=nxC 253 (g (K+4)):=by rw[q1 _ a6 a6];simp[upd]
 simp only[go_sem,A,g4];refine cU [⟨7,0,0,0⟩] p1 rfl E a6 a6 rfl rfl WY ?_;intro g2 b3 p2 q2 r2;have A:b3 (K+4)=S [.d (.int .i64 7),.d (.int .i64 0),.d (.int .i64 0),.d (.int .u32 0)]:=by rw[r2 _ a6 a6 a6];exact A
 have g4:g2 (K+4)=nxC 253 (g (K+4)):=by rw[q2 _ a6 a6];exact g4
 simp only[go_sem,A,g4];refine ji p2 rfl E rfl WY ?_;intro g3 cf q r p3 o1 q3 r3;have A:cf (K+4)=S [.d (.int .i64 7),.d (.int .i64 0),.d (.int .i64 0),.d (.int .u32 0)]:=by rw[r3 _ a6 a6 a6];exact A
 have g4:g3 (K+4)=nxC 253 (g (K+4)):=by rw[q3 _ a6 a6];exact g4
 simp only[go_sem,A,g4];refine cU [⟨1,0,0,0⟩] p3 rfl E a6 a6 rfl rfl WY ?_;intro h c0 p4 q4 r4;have A:c0 (K+4)=S [.d (.int .i64 7),.d (.int .i64 0),.d (.int .i64 0),.d (.int .u32 0)]:=by rw[r4 _ a6 a6 a6];exact A
 have g4:h (K+4)=nxC 253 (g (K+4)):=by rw[q4 _ a6 a6];exact g4
 have o1:=o1.same (g':=h) (Z:=c0) (q4 _ a6 a6) (q4 _ a6 a6) (r4 _ a6 a6 a6) (r4 _ a6 a6 a6);simp only[go_sem,A,g4];refine ji p4 rfl E rfl WY ?_;intro g5 c' b4 b5 p5 I q5 r5;have A:c' (K+4)=S [.d (.int .i64 7),.d (.int .i64 0),.d (.int .i64 0),.d (.int .u32 0)]:=by rw[r5 _ a6 a6 a6];exact A
 have g4:g5 (K+4)=nxC 253 (g (K+4)):=by rw[q5 _ a6 a6];exact g4
 have o1:=o1.same (g':=g5) (Z:=c') (q5 _ a6 a6) (q5 _ a6 a6) (r5 _ a6 a6 a6) (r5 _ a6 a6 a6);simp only[go_sem,A,g4];rw[l6,l6]at p5;have j:(code++bJ d a word (z code)++[(⟨7,0,0,0⟩:Ins)]).length=z code+(cE (z code) d a).length+1:=by simp only[bJ,j4,j5,j6,j7]
 have o:(code++bJ d a word (z code)++[(⟨7,0,0,0⟩:Ins)]++(⟨9,0,0,0⟩:Ins)::[⟨1,0,0,0⟩,⟨8,0,0,0⟩]).length=z code+(cE (z code) d a).length+1+3:=by rw[j4,j];rfl
 have fx:(code++bJ d a word (z code)++[(⟨7,0,0,0⟩:Ins)]++(⟨9,0,0,0⟩:Ins)::[⟨1,0,0,0⟩]).length=z code+(cE (z code) d a).length+1+2:=by rw[j4,j];rfl
 refine gQ (pre:=code++bJ d a word (z code)++[⟨7,0,0,0⟩]) (x:=⟨9,0,0,0⟩) (post:=[⟨1,0,0,0⟩,⟨8,0,0,0⟩]) p5 o1 rfl E rfl rfl (by rw[o];omega) ?_;intro bk p6 r6;have A:bk (K+4)=S [.d (.int .i64 7),.d (.int .i64 0),.d (.int .i64 0),.d (.int .u32 0)]:=by rw[r6 _ a6];exact A
 have I:=I.same (g':=g5) (Z:=bk) rfl rfl (r6 _ a6) (r6 _ a6);rw[o]at p6;generalize hX:code++bJ d a word (z code)++[(⟨7,0,0,0⟩:Ins)]=X at *;have O:(X++(⟨9,((z code+(cE (z code) d a).length+1+3:Nat):Int),0,0⟩:Ins)::[⟨1,0,0,0⟩,⟨8,0,0,0⟩]).length=z code+(cE (z code) d a).length+1+3:=by rw[j4,j];rfl
 simp only[go_sem,A,g4,dD];refine bV hb p6 rfl E rfl (by simp only[O,bJ,j5];omega) ?_;intro m b2 p7 q7 r7;rw[O]at p7;have A:b2 (K+4)=S [.d (.int .i64 7),.d (.int .i64 0),.d (.int .i64 0),.d (.int .u32 0)]:=by rw[r7 _ a6 a6];exact A
 have g4:m (K+4)=nxC 253 (g (K+4)):=by rw[q7 _ a6 a6];exact g4
 have I:=I.same (g':=m) (Z:=b2) (q7 _ a6 a6) (q7 _ a6 a6) (r7 _ a6 a6) (r7 _ a6 a6);simp only[go_sem,A,g4];refine cU [⟨7,0,0,0⟩,⟨7,0,0,0⟩] p7 rfl E a6 a6 rfl rfl (by simp only[j4,j,bJ,j5,j6,j7];omega) ?_;intro u k l c n;have I:=I.same (g':=u) (Z:=k) (c _ a6 a6) (c _ a6 a6) (n _ a6 a6 a6) (n _ a6 a6 a6)
 have l:Prog K (K+50+6+6) G B word ((X++[⟨9,((z code+(cE (z code) d a).length+1+3:Nat):Int),0,0⟩,⟨1,0,0,0⟩])++⟨8,0,0,0⟩::(bJ d b word (z code+(cE (z code) d a).length+1+3)++[⟨7,0,0,0⟩,⟨7,0,0,0⟩])) g ob u k:=by
  have:=l;exact K0
 have an:(X++[(⟨9,((z code+(cE (z code) d a).length+1+3:Nat):Int),0,0⟩:Ins),(⟨1,0,0,0⟩:Ins)]).length=z (X++[(⟨9,0,0,0⟩:Ins)]++[(⟨1,0,0,0⟩:Ins)]):=a8
 have f:((X++[(⟨9,((z code+(cE (z code) d a).length+1+3:Nat):Int),0,0⟩:Ins),⟨1,0,0,0⟩])++(⟨8,0,0,0⟩:Ins)::(bJ d b word (z code+(cE (z code) d a).length+1+3)++[⟨7,0,0,0⟩,⟨7,0,0,0⟩])).length=z code+(cE (z code) d a).length+1+3+(cE (z code+(cE (z code) d a).length+1+3) d b).length+2:=by
  simp only[j4,j6,j7,j,bJ,j5];omega
 rw[<-an]at I;simp only[go_sem];refine gQ l I rfl E rfl rfl (by rw[f];omega) ?_;intro s p r9;rw[f]at p;simp only[go_sem];refine bS (λi=>decide (K<=i)) ?_;refine⟨rfl,?_⟩
 have e:code++bJ d (.mk 8 op num slot size [a,b]) word (z code)=(X++[(⟨9,((z code+(cE (z code) d a).length+1+3:Nat):Int),0,0⟩:Ins),⟨1,0,0,0⟩])++⟨8,((z code+(cE (z code) d a).length+1+3+(cE (z code+(cE (z code) d a).length+1+3) d b).length+2:Nat):Int),0,0⟩::(bJ d b word (z code+(cE (z code) d a).length+1+3)++[⟨7,0,0,0⟩,⟨7,0,0,0⟩]):=by
  rw[<-hX];simp only[bJ,cE,cAO,pA,kH,qh,B5,S7,A7,l9,v8,l6,u7,x9,j6,j7,B9]
 rw[e];exact p.fin J
def GB{a b:Ex}{d:Int}(ha:fq 211 [ipE a] (bJ d a))(hb:fq 211 [ipE b] (bJ d b)):
  fq 226 [ipE (.mk 9 op num slot size [a,b])] (bJ d (.mk 9 op num slot size [a,b])):=by
 intro K G B word code g ob P Q E v H J hl
 have bf:z code+((cE (z code) d a).length+3+(cE (z code+(cE (z code) d a).length+3) d b).length+2)<=1000000000:=by
  have:(bJ d (.mk 9 op num slot size [a,b]) word (z code)).length=_:=rfl;simp only[bJ,cE,cAO,pA,kH,qh,j5,show ¬(9:Int)=8 by decide,B8,B5,R4,j4,j6,j7]at hl;simp only[C7,I3,Nat.reduceAdd]at hl|-;omega
 have hp:=Prog.start (K2:=K+50) Q v H J a6;refine hdF K Tryz.func226 rfl [] ?_;have ca:=hp.new (V:=K+4) (x:=nxC 253 (g (K+4))) (y:=S [.d (.int .i64 0),.d (.int .i64 0),.d (.int .i64 0),.d (.int .u32 0)]) a6 a6;have cb:=ca.new (V:=K+4) (x:=(upd g (K+4) (nxC 253 (g (K+4)))) (K+4)) (y:=S (zg ⟨7,0,0,0⟩)) a6 a6;rw[Bn]at cb;have U:=Q.t;have Y:=Q.b;have hE:cxD (.mk 9 op num slot size [a,b])=[.int .i64 9,.int .i64 op,.int .u32 num,.int .i64 slot,.int .i64 size,.sl [cxD a,cxD b]]:=by simp only[cxD,za]
 unfold ipE;rw[hE];simp only[go_sem,U,Y,E,dD];refine bV ha cb rfl E rfl (by simp only[bJ,j5];omega) ?_;intro g1 ad p1 q1 r1;have A:ad (K+4)=S [.d (.int .i64 7),.d (.int .i64 0),.d (.int .i64 0),.d (.int .u32 0)]:=by rw[r1 _ a6 a6];simp[upd,zg]
 have g4:g1 (K+4)=nxC 253 (g (K+4)):=by rw[q1 _ a6 a6];simp[upd]
 simp only[go_sem,A,g4];refine ji p1 rfl E rfl WY ?_;intro g3 cf q r p3 o1 q3 r3;have A:cf (K+4)=S [.d (.int .i64 7),.d (.int .i64 0),.d (.int .i64 0),.d (.int .u32 0)]:=by rw[r3 _ a6 a6 a6];exact A
 have g4:g3 (K+4)=nxC 253 (g (K+4)):=by rw[q3 _ a6 a6];exact g4
 simp only[go_sem,A,g4];refine cU [⟨1,0,0,1⟩] p3 rfl E a6 a6 rfl rfl WY ?_;intro h c0 p4 q4 r4;have A:c0 (K+4)=S [.d (.int .i64 7),.d (.int .i64 0),.d (.int .i64 0),.d (.int .u32 0)]:=by rw[r4 _ a6 a6 a6];exact A
 have g4:h (K+4)=nxC 253 (g (K+4)):=by rw[q4 _ a6 a6];exact g4
 have o1:=o1.same (g':=h) (Z:=c0) (q4 _ a6 a6) (q4 _ a6 a6) (r4 _ a6 a6 a6) (r4 _ a6 a6 a6);simp only[go_sem,A,g4];refine ji p4 rfl E rfl WY ?_;intro g5 c' b4 b5 p5 I q5 r5;have A:c' (K+4)=S [.d (.int .i64 7),.d (.int .i64 0),.d (.int .i64 0),.d (.int .u32 0)]:=by rw[r5 _ a6 a6 a6];exact A
 have g4:g5 (K+4)=nxC 253 (g (K+4)):=by rw[q5 _ a6 a6];exact g4
 have o1:=o1.same (g':=g5) (Z:=c') (q5 _ a6 a6) (q5 _ a6 a6) (r5 _ a6 a6 a6) (r5 _ a6 a6 a6);simp only[go_sem,A,g4];rw[l6,l6]at p5;have j:(code++bJ d a word (z code)).length=z code+(cE (z code) d a).length:=by simp only[bJ,j4,j5,j6,j7]
 have o:(code++bJ d a word (z code)++(⟨9,0,0,0⟩:Ins)::[⟨1,0,0,1⟩,⟨8,0,0,0⟩]).length=z code+(cE (z code) d a).length+3:=by rw[j4,j];rfl
 have fx:(code++bJ d a word (z code)++(⟨9,0,0,0⟩:Ins)::[⟨1,0,0,1⟩]).length=z code+(cE (z code) d a).length+2:=by rw[j4,j];rfl
 refine gQ (pre:=code++bJ d a word (z code)) (x:=⟨9,0,0,0⟩) (post:=[⟨1,0,0,1⟩,⟨8,0,0,0⟩]) p5 o1 rfl E rfl rfl (by rw[o];omega) ?_;intro bk p6 r6;have A:bk (K+4)=S [.d (.int .i64 7),.d (.int .i64 0),.d (.int .i64 0),.d (.int .u32 0)]:=by rw[r6 _ a6];exact A
 have I:=I.same (g':=g5) (Z:=bk) rfl rfl (r6 _ a6) (r6 _ a6);rw[o]at p6;generalize hX:code++bJ d a word (z code)=X at *;have O:(X++(⟨9,((z code+(cE (z code) d a).length+3:Nat):Int),0,0⟩:Ins)::[⟨1,0,0,1⟩,⟨8,0,0,0⟩]).length=z code+(cE (z code) d a).length+3:=by rw[j4,j];rfl
 simp only[go_sem,A,g4,dD];refine bV hb p6 rfl E rfl (by simp only[O,bJ,j5];omega) ?_;intro m b2 p7 q7 r7;rw[O]at p7;have A:b2 (K+4)=S [.d (.int .i64 7),.d (.int .i64 0),.d (.int .i64 0),.d (.int .u32 0)]:=by rw[r7 _ a6 a6];exact A
 have g4:m (K+4)=nxC 253 (g (K+4)):=by rw[q7 _ a6 a6];exact g4
 have I:=I.same (g':=m) (Z:=b2) (q7 _ a6 a6) (q7 _ a6 a6) (r7 _ a6 a6) (r7 _ a6 a6);simp only[go_sem,A,g4];refine cU [⟨7,0,0,0⟩,⟨7,0,0,0⟩] p7 rfl E a6 a6 rfl rfl (by simp only[j4,j,bJ,j5,j6,j7];omega) ?_;intro u k l c n;have I:=I.same (g':=u) (Z:=k) (c _ a6 a6) (c _ a6 a6) (n _ a6 a6 a6) (n _ a6 a6 a6)
 have l:Prog K (K+50+6+6) G B word ((X++[⟨9,((z code+(cE (z code) d a).length+3:Nat):Int),0,0⟩,⟨1,0,0,1⟩])++⟨8,0,0,0⟩::(bJ d b word (z code+(cE (z code) d a).length+3)++[⟨7,0,0,0⟩,⟨7,0,0,0⟩])) g ob u k:=by
  have:=l;exact K0
 have an:(X++[(⟨9,((z code+(cE (z code) d a).length+3:Nat):Int),0,0⟩:Ins),(⟨1,0,0,1⟩:Ins)]).length=z (X++[(⟨9,0,0,0⟩:Ins)]++[(⟨1,0,0,1⟩:Ins)]):=a8
 have f:((X++[(⟨9,((z code+(cE (z code) d a).length+3:Nat):Int),0,0⟩:Ins),⟨1,0,0,1⟩])++(⟨8,0,0,0⟩:Ins)::(bJ d b word (z code+(cE (z code) d a).length+3)++[⟨7,0,0,0⟩,⟨7,0,0,0⟩])).length=z code+(cE (z code) d a).length+3+(cE (z code+(cE (z code) d a).length+3) d b).length+2:=by
  simp only[j4,j6,j7,j,bJ,j5];omega
 rw[<-an]at I;simp only[go_sem];refine gQ l I rfl E rfl rfl (by rw[f];omega) ?_;intro s p r9;rw[f]at p;simp only[go_sem];refine bS (λi=>decide (K<=i)) ?_;refine⟨rfl,?_⟩
 have e:code++bJ d (.mk 9 op num slot size [a,b]) word (z code)=(X++[(⟨9,((z code+(cE (z code) d a).length+3:Nat):Int),0,0⟩:Ins),⟨1,0,0,1⟩])++⟨8,((z code+(cE (z code) d a).length+3+(cE (z code+(cE (z code) d a).length+3) d b).length+2:Nat):Int),0,0⟩::(bJ d b word (z code+(cE (z code) d a).length+3)++[⟨7,0,0,0⟩,⟨7,0,0,0⟩]):=by
  rw[<-hX];simp only[bJ,cE,cAO,pA,kH,qh,show ¬(9:Int)=8 by decide,B8,B5,R4,A7,l9,v8,l6,u7,x9,j6,j7,I3]
 rw[e];exact p.fin J
end
def wa:∀(l:List Ex)(k:Nat)(e:Ex)(at':Nat)(d:Int),l[k]?=S e->cEs at' d (l.take (k+1))=cEs at' d (l.take k)++cE (at'+z (cEs at' d (l.take k))) (d+k) e
 |[],k,e,at',d,h=>by simp at h
 |x::l,0,e,at',d,h=>by
   simp at h;subst h;simp[cEs]
 |x::l,k+1,e,at',d,h=>by
   have a:l[k]?=S e:=by simpa using h
   have b:=wa l k e (at'+z (cE at' d x)) (d+1) a;rw[C5,C5,cEs,cEs,b,l6,j4,C7];rw[show d+1+(k:Int)=d+((k+1:Nat):Int) by omega]
def sZ(l:List Ex)(k:Nat)(at':Nat)(d:Int):z (cEs at' d (l.take k))<=z (cEs at' d l):=by
 have:∀(l:List Ex)(k at':Nat)(d:Int),z (cEs at' d (l.take k))<=z (cEs at' d l):=by
  intro l
  induction l with
  |nil=>intro k at' d;simp[cEs]
  |cons x l a=>
    intro k at' d;cases k with
    |zero=>simp[cEs]
    |succ k=>
      rw[C5,cEs,cEs,j4,j4];have:=a k (at'+z (cE at' d x)) (d+1);omega
 exact this l k at' d
def rM{w:Int}{ps:Sig}{f:Nat}{q:Int}:∀{l:List Ex}{k:Nat}{e:Ex},rEs w ps f q l->l[k]?=S e->rE w ps f q e
 |[],k,e,_,h=>by simp at h
 |x::l,0,e,V,h=>by simp at h;subst h;rw[rEs]at V;exact V.1
 |x::l,k+1,e,V,h=>by rw[rEs]at V;exact rM V.2 Xm
def mN{l:List Ex}{k:Nat}{e:Ex}(h:l[k]?=S e):mK e<iX l:=by
 have Y:=AU h;have a:=Gt l (k+1);have b:=(l8.1 h).1;have c:z l<=qI l k:=by unfold qI;omega
 omega
def QW{w:Int}{ps:Sig}{fi:Nat}:∀(av:Nat)(e:Ex)(q d:Int),mK e<=av->av<=1000000000000->rE w ps fi q e->fq 211 [ipE e] (bJ d e):=by
 intro av
 induction av using Nat.strongRecOn with
 |ind av Y=>
 intro e q d hN cb V;obtain⟨kind,op,num,slot,size,A⟩:=e;have bc:mK (.mk kind op num slot size A)=iX A:=rfl;rw[rE]at V;obtain⟨bd,u⟩:=V;have hE:cxD (.mk kind op num slot size A)=[.int .i64 kind,.int .i64 op,.int .u32 num,.int .i64 slot,.int .i64 size,.sl (A.map cxD)]:=by simp only[cxD,pb]
 intro K G B word code g ob P ht E v H J hl;have hp:=Prog.start (K2:=K+107) ht v H J a6;refine hdF K Tryz.func211 rfl [] ?_;unfold ipE;rw[hE];by_cases r:kind=8\/kind=9
 .have Q:z A=2:=by
   rcases r with rfl|rfl
   .exact UE
   .exact UE
  obtain⟨a,b,rfl⟩:∃a b,A=[a,b]:=by
   match A,Q with
   |[a,b],_=>exact⟨a,b,rfl⟩
  have ha:fq 211 [ipE a] (bJ d a):=Y (mK a) (by have:=mN (l:=[a,b]) (k:=0) rfl;omega) a (q+1) d (l0 _) (by have:=mN (l:=[a,b]) (k:=0) rfl;omega) (rM (k:=0) u rfl);have hb:fq 211 [ipE b] (bJ d b):=Y (mK b) (by have:=mN (l:=[a,b]) (k:=1) rfl;omega) b (q+1) d (l0 _) (by have:=mN (l:=[a,b]) (k:=1) rfl;omega) (rM (k:=1) u rfl);rcases r with rfl|rfl
  .simp only[go_sem]
   refine bV (GA (op:=op) (num:=num) (slot:=slot) (size:=size) ha hb) hp rfl E (by unfold ipE;rw[hE];rfl) hl ?_;exact B2
  .simp only[go_sem]
   refine bV (GB (op:=op) (num:=num) (slot:=slot) (size:=size) ha hb) hp rfl E (by unfold ipE;rw[hE];rfl) hl ?_;exact B2
 .have h8:¬kind=8:=λh=>r (.inl h)
  have c:¬kind=9:=λh=>r (.inr h);have y:cE (z code) d (.mk kind op num slot size A)=cEs (z code) d A++one kind op num slot size (d+z A):=by rw[cE,j8 r]
  have c7:z code+(cEs (z code) d A).length+(one kind op num slot size (d+z A)).length<=1000000000:=by
   have:(bJ d (.mk kind op num slot size A) word (z code)).length=_:=rfl;simp only[bJ,y,j5,j4]at hl;omega
  simp only[go_sem,h8,c,j5]
  refine eO (λn s=>∃k:Nat,n+k=z A/\s.f 0=.one (.ptr G P 0)/\s.f 1=.one (.d (.iptr [.int .i64 kind,.int .i64 op,.int .u32 num,.int .i64 slot,.int .i64 size,.sl (A.map cxD)]))/\s.f 24=iv .i64 (z A)/\s.f 25=iv .i64 k/\
   Prog K (K+107) G B word (code++(cEs (z code) d (A.take k)).map Prod.fst) g ob s.gen s.obj) (z A) ?_ ?_
  .refine⟨0,rfl,?_⟩
   rw[F6,cEs,v8,s5];simp only[go_sem];exact hp
  .rintro n f g1 ad ⟨k,hk,f0,f1,j,o,p1⟩
   simp only at f0 f1 j o p1;have b1:z A<=iX A:=by rw[np];omega
   have hw:=ab (k:=k) a6;by_cases U:k<z A
   .obtain⟨e,W⟩:=getq U
    have O:=mN W;have t:=wa A k e (z code) d W;have a1:=sZ A (k+1) (z code) d
    have b6:(cEs (z code) d (A.take k)).length+(cE (z code+(cEs (z code) d (A.take k)).length) (d+k) e).length<=(cEs (z code) d A).length:=by
     rw[t,j4]at a1;exact a1
    have m:(code++(cEs (z code) d (A.take k)).map Prod.fst).length=z code+(cEs (z code) d (A.take k)).length:=by rw[j4,j5]
    simp only[go_sem,f0,f1,j,o,U,W,j5,dD];refine bV (Y (mK e) a6 e (q+1) (d+k) (l0 _) a6 (rM u W)) p1 rfl E rfl (by rw[m];simp only[bJ,j5];omega) ?_;intro g2 b3 p2 q2 r2;rw[m]at p2;simp only[go_sem,f0,f1,j,o,hw];refine eA (n-1) a6 ⟨k+1,a6,?_⟩;simp only[go_sem,f0,f1,j,o,hw];rw[t,A7,<-l6];exact p2
   .have bs:k=z A:=a6
    subst bs;rw[F0]at p1;have m:(code++(cEs (z code) d A).map Prod.fst).length=z code+(cEs (z code) d A).length:=by rw[j4,j5]
    have X:∀(x:Ins),one kind op num slot size (d+z A)=[(x,d+z A)]->∀g' Z,Prog K (K+107) G B word (code++(cEs (z code) d A).map Prod.fst++[x]) g ob g' Z->Bl K G B word (code++bJ d (.mk kind op num slot size A) word (z code)) g ob g' (λi=>if decide (K<=i)=T then N else Z i):=by
     intro x I g' Z L
     have:code++bJ d (.mk kind op num slot size A) word (z code)=code++(cEs (z code) d A).map Prod.fst++[x]:=by
      simp only[bJ,y,I,A7,l9,v8,l6]
     rw[this];exact L.fin J
    obtain⟨_,_,_,_,_,h⟩:=bd
    have p:kind=1\/kind=2\/kind=3\/kind=4\/kind=5\/kind=6\/kind=7:=by
     rcases h with⟨h|h,_⟩|⟨h,_⟩|⟨h,_⟩|⟨h,_⟩|⟨h,_⟩|⟨h,_⟩|⟨h|h,_⟩<;>omega
    have b7:(one kind op num slot size (d+z A)).length=1:=by
     rcases p with rfl|rfl|rfl|rfl|rfl|rfl|rfl<;>rfl
    rcases p with rfl|rfl|rfl|rfl|rfl|rfl|rfl
    .simp only[go_sem,f0,f1,j,o,U,j5]
     refine cU [⟨1,0,0,num⟩] p1 rfl E a6 a6 rfl rfl W2 ?_;exact j2
    .simp only[go_sem,f0,f1,j,o,U,j5]
     refine cU [⟨2,slot,0,0⟩] p1 rfl E a6 a6 rfl rfl W2 ?_;exact j2
    .simp only[go_sem,f0,f1,j,o,U,j5]
     refine fV aR mixed [K+73] [([0],[0],[],F),([1],[],[],F),([64],[],[],F),([65],[],[],F),([66],[],[],F),([1],[],[],F),([68],[],[],F),([69],[],[],F),([70],[],[],F),([67,71],[],[],F),([72],[],[0],F),([63,73],[],[],T)] 1 b9 rfl a8 ?_;simp only[go_sem]
     iterate 10 (apply aM;· (intro fa ga oa K' J;simp only[go_sem,f0,f1]at J|-;exact J))
     (apply cX;· (intro fa ga oa K' J;simp only[go_sem,f0,f1]at J|-;exact J))
     apply db;intro K' b0;simp only[go_sem];refine cU [⟨4,slot,size,0⟩] p1 rfl E a6 a6 rfl rfl W2 ?_;intro g2 b3 p2 q2 r2;refine b0 _ ?_;simp only[go_sem];refine bS (λi=>decide (K<=i)) ?_;exact⟨rfl,X _ rfl _ _ p2⟩
    .simp only[go_sem,f0,f1,j,o,U,j5]
     refine cU [⟨10,slot,0,0⟩] p1 rfl E a6 a6 rfl rfl W2 ?_;exact j2
    .simp only[go_sem,f0,f1,j,o,U,j5]
     refine cU [⟨12,0,0,0⟩] p1 rfl E a6 a6 rfl rfl W2 ?_;exact j2
    .simp only[go_sem,f0,f1,j,o,U,j5]
     refine cU [⟨6,op,0,0⟩] p1 rfl E a6 a6 rfl rfl W2 ?_;exact j2
    .simp only[go_sem,f0,f1,j,o,U,j5]
     refine cU [⟨7,0,0,0⟩] p1 rfl E a6 a6 rfl rfl W2 ?_;exact j2
section
abbrev ipS(s:Stm):AV:=.one (.d (.iptr (csD s)))
abbrev slS(l:List Stm):AV:=.one (.d (.sl (qG l)))
abbrev pe(s:Stm):Bool->Nat->List Ins:=λword at'=>(cS word at' s).map Prod.fst
abbrev bU(l:List Stm):Bool->Nat->List Ins:=λword at'=>(cSs word at' l).map Prod.fst
def AW{word:Bool}:∀(l:List Stm)(k:Nat)(e:Stm)(at':Nat),l[k]?=S e->cSs word at' (l.take (k+1))=cSs word at' (l.take k)++cS word (at'+z (cSs word at' (l.take k))) e
 |[],k,e,at',h=>by simp at h
 |x::l,0,e,at',h=>by
   simp at h;subst h;simp[cSs]
 |x::l,k+1,e,at',h=>by
   have a:l[k]?=S e:=by simpa using h
   have b:=AW (word:=word) l k e (at'+z (cS word at' x)) a;rw[C5,C5,cSs,cSs,b,l6,j4,C7]
def pg{word:Bool}:∀(l:List Stm)(k at':Nat),z (cSs word at' (l.take k))<=z (cSs word at' l):=by
 intro l
 induction l with
 |nil=>intro k at';simp[cSs]
 |cons x l a=>
   intro k at';cases k with
   |zero=>simp[cSs]
   |succ k=>
     rw[C5,cSs,cSs,j4,j4];have:=a k (at'+z (cS word at' x));omega
def uR{w:Int}{ps:Sig}{f:Nat}{word:Bool}{q:Int}:∀{l:List Stm}{k:Nat}{e:Stm},rSs w ps f word q l->l[k]?=S e->rS w ps f word q e
 |[],k,e,_,h=>by simp at h
 |x::l,0,e,V,h=>by simp at h;subst h;rw[rSs]at V;exact V.1
 |x::l,k+1,e,V,h=>by rw[rSs]at V;exact uR V.2 Xm
variable{l:List Stm}
def ph{k:Nat}{e:Stm}(h:l[k]?=S e):nP e<fp l:=by
 have Y:=Gu h;have a:=MP l (k+1);have b:=(l8.1 h).1;have c:z l<=Dm l k:=by unfold Dm;omega
 omega
def lU(e:Stm):z (csD e)=6:=by cases e;simp[csD]
def vW(O:fp l<=1000000000000)(x:∀(k:Nat)(e:Stm),l[k]?=S e->fq 167 [ipS e] (pe e)):fq 94 [slS l] (bU l):=by
 intro K G B word code g ob P y E v H J hl;have A:=Prog.start (K2:=K+16) y v H J a6;have a:z code+(cSs word (z code) l).length<=1000000000:=by simpa only[bU,j5]using hl
 refine hdF K Tryz.func94 rfl [] ?_;unfold slS;rw[pd];simp only[go_sem,j5]
 refine eO (λn s=>∃k:Nat,n+k=z l/\s.f 0=.one (.ptr G P 0)/\s.f 1=.one (.d (.sl (l.map csD)))/\s.f 6=iv .i64 (z l)/\s.f 7=iv .i64 k/\
  Prog K (K+16) G B word (code++(cSs word (z code) (l.take k)).map Prod.fst) g ob s.gen s.obj) (z l) ?_ ?_
 .refine⟨0,rfl,?_⟩
  rw[F6,cSs,v8,s5];simp only[go_sem];exact A
 .rintro n f Q U ⟨k,V,f0,f1,f6,b,j⟩
  simp only at f0 f1 f6 b j;have b1:z l<=fp l:=by rw[qJ];omega
  have r:=ab (k:=k) a6;by_cases o:k<z l
  .obtain⟨e,q⟩:=getq o
   have t:=AW (word:=word) l k e (z code) q;have u:=pg (word:=word) l (k+1) (z code)
   have W:(cSs word (z code) (l.take k)).length+(cS word (z code+(cSs word (z code) (l.take k)).length) e).length<=(cSs word (z code) l).length:=by
    rw[t,j4]at u;exact u
   have m:(code++(cSs word (z code) (l.take k)).map Prod.fst).length=z code+(cSs word (z code) (l.take k)).length:=by rw[j4,j5]
   simp only[go_sem,f0,f1,f6,b,o,q,j5,lU];refine bV (x k e q) j rfl E rfl (by rw[m];simp only[pe,j5];omega) ?_;intro X Y w Z r2;rw[m]at w;simp only[go_sem,f0,f1,f6,b,r];refine eA (n-1) a6 ⟨k+1,a6,?_⟩;simp only[go_sem,f0,f1,f6,b,r];rw[t,A7,<-l6];exact w
  .have I:k=z l:=a6
   subst I;rw[F0]at j;simp only[go_sem,f0,f1,f6,b,o,j5];refine bS (λi=>decide (K<=i)) ?_;exact⟨rfl,j.fin J⟩
def MQ{slot size:Int}{c:Ex}{a el:List Stm}(V:fq 211 [ipE c] (bJ 0 c))(p:fq 94 [slS a] (bU a)):
  fq 210 [ipS (.mk 5 slot size [c] a el)] (pe (.mk 5 slot size [c] a el)):=by
 intro K G B word code g ob P d E v H J hl;have X:=Prog.start (K2:=K+33) d v H J a6;have m:(pe (.mk 5 slot size [c] a el) word (z code))=(mh (z code) (cE (z code) 0 c) (λr=>cSs word r a)).map Prod.fst:=by simp only[pe,cS,B5,qh]
 have bf:z code+((cE (z code) 0 c).length+1+(cSs word (z code+(cE (z code) 0 c).length+1) a).length+1)<=1000000000:=by
  simp only[m,mh,j5,j4,j6,j7]at hl;omega
 refine hdF K Tryz.func210 rfl [] ?_;have U:=d.t;have Y:=d.b;have hE:csD (.mk 5 slot size [c] a el)=[.int .i64 5,.int .i64 slot,.int .i64 size,.sl [cxD c],.sl (qG a),.sl (qG el)]:=by simp only[csD,za]
 unfold ipS;rw[hE];simp only[go_sem,U,Y,E,dD];refine bV V X rfl E rfl (by simp only[bJ,j5];omega) ?_;intro g1 ad p1 q1 r1;have j:(code++bJ 0 c word (z code)).length=z code+(cE (z code) 0 c).length:=by simp only[bJ,j4,j5]
 generalize hA:code++bJ 0 c word (z code)=A at *;simp only[go_sem];refine ji p1 rfl E rfl a6 ?_;intro g2 b3 l W p2 o1 q2 r2;have o:z (A++[(⟨9,0,0,0⟩:Ins)])=z code+(cE (z code) 0 c).length+1:=by rw[j4,j];rfl
 simp only[go_sem];refine bV p p2 rfl E rfl Yu ?_;intro g3 cf n u x;rw[o]at n;have o1:=o1.same (g':=g3) (Z:=cf) (u _ a6 a6) (u _ a6 a6) (x _ a6 a6) (x _ a6 a6);simp only[go_sem];refine cU [⟨8,z code,0,0⟩] n rfl E a6 a6 rfl rfl (by rw[j4,o];simp only[bU,j5,j6,j7];omega) ?_;intro g4 c0 k y I;have o1:=o1.same (g':=g4) (Z:=c0) (y _ a6 a6) (y _ a6 a6) (I _ a6 a6 a6) (I _ a6 a6 a6)
 have k:Prog K (K+33+6) G B word (A++(⟨9,0,0,0⟩:Ins)::(bU a word (z code+(cE (z code) 0 c).length+1)++[(⟨8,z code,0,0⟩:Ins)])) g ob g4 c0:=by
  have:=k;exact K0
 have f:(A++(⟨9,0,0,0⟩:Ins)::(bU a word (z code+(cE (z code) 0 c).length+1)++[(⟨8,z code,0,0⟩:Ins)])).length=z code+(cE (z code) 0 c).length+1+(cSs word (z code+(cE (z code) 0 c).length+1) a).length+1:=by
  simp only[j4,j6,j7,j,bU,j5];omega
 simp only[go_sem];refine gQ k o1 rfl E rfl rfl (by rw[f];omega) ?_;intro c' Q r5;rw[f]at Q;simp only[go_sem];refine bS (λi=>decide (K<=i)) ?_;refine⟨rfl,?_⟩
 have e:code++pe (.mk 5 slot size [c] a el) word (z code)=A++(⟨9,((z code+(cE (z code) 0 c).length+1+(cSs word (z code+(cE (z code) 0 c).length+1) a).length+1:Nat):Int),0,0⟩:Ins)::(bU a word (z code+(cE (z code) 0 c).length+1)++[(⟨8,z code,0,0⟩:Ins)]):=by
  rw[m,<-hA];simp only[bJ,bU,mh,A7,l9,v8,l6,u7,x9]
 rw[e];exact Q.fin J
end
def QD{w:Int}{ps:Sig}{fi:Nat}{fw:Bool}:∀(av:Nat)(s:Stm)(q:Int),nP s<=av->av<=100000000000->rS w ps fi fw q s->fq 167 [ipS s] (pe s):=by
 intro av
 induction av using Nat.strongRecOn with
 |ind av ih=>
 intro s q hN cb V;obtain⟨kind,slot,size,e,th,el⟩:=s;have bc:nP (.mk kind slot size e th el)=iX e+fp th+fp el:=rfl;rw[rS]at V;obtain⟨bd,b7,b',Y⟩:=V;have p:fq 94 [slS th] (bU th):=vW a6 λk s hs=>ih (nP s) Ya s (q+1) (l0 _) Ya (uR b' hs);have a':fq 94 [slS el] (bU el):=vW a6 λk s hs=>ih (nP s) Ya s (q+1) (l0 _) Ya (uR Y hs);have b8:∀(k:Nat)(x:Ex)(d:Int),e[k]?=S x->fq 211 [ipE x] (bJ d x):=λk x d I=>QW (mK x) x (q+1) d (l0 _) (by have:=mN I;omega) (rM b7 I);have hE:csD (.mk kind slot size e th el)=[.int .i64 kind,.int .i64 slot,.int .i64 size,.sl (e.map cxD),.sl (qG th),.sl (qG el)]:=by simp only[csD,pb]
 intro K G B word code g ob P ht E v H J hl;have hp:=Prog.start (K2:=K+120) ht v H J a6;refine hdF K Tryz.func167 rfl [] ?_;unfold ipS;rw[hE];by_cases h5:kind=5
 .subst h5
  have hn:z e=1:=by
   obtain⟨_,_,_,_,_,h⟩:=bd;rcases h with⟨h,_⟩|⟨h,_⟩|⟨_,h⟩|⟨h,_⟩|⟨h,_⟩<;>omega
  obtain⟨c,rfl⟩:∃c,e=[c]:=by
   match e,hn with
   |[c],_=>exact⟨c,rfl⟩
  simp only[go_sem];refine bV (MQ (slot:=slot) (size:=size) (el:=el) (b8 0 c 0 rfl) p) hp rfl E (by unfold ipS;rw[hE];rfl) hl ?_;exact B2
 .generalize a:(if kind=4 then ifC (z code+(cEs (z code) 0 e).length) (λr=>cSs word r th) (!el.isEmpty) (λr=>cSs word r el)else uJ word kind slot size (z e))=rest
  have bo:pe (.mk kind slot size e th el) word (z code)=(cEs (z code) 0 e).map Prod.fst++rest.map Prod.fst:=by
   simp only[pe,cS,j8 h5,A7,a]
  have bf:z code+(cEs (z code) 0 e).length+z rest<=1000000000:=by
   simp only[bo,j5,j4]at hl;omega
  simp only[go_sem,h5,j5]
  refine eO (λn s=>∃k:Nat,n+k=z e/\s.f 0=.one (.ptr G P 0)/\s.f 1=.one (.d (.iptr [.int .i64 kind,.int .i64 slot,.int .i64 size,.sl (e.map cxD),.sl (qG th),.sl (qG el)]))/\s.f 19=iv .i64 (z e)/\s.f 20=iv .i64 k/\
   Prog K (K+120) G B word (code++(cEs (z code) 0 (e.take k)).map Prod.fst) g ob s.gen s.obj) (z e) ?_ ?_
  .refine⟨0,rfl,?_⟩
   rw[F6,cEs,v8,s5];simp only[go_sem];exact hp
  .rintro n f g1 ad ⟨k,hk,f0,f1,b,u,p1⟩
   simp only at f0 f1 b u p1;have b1:z e<=iX e:=by rw[np];omega
   have hw:=ab (k:=k) a6;by_cases af:k<z e
   .obtain⟨x,I⟩:=getq af
    have t:=wa e k x (z code) 0 I;have a1:=sZ e (k+1) (z code) 0
    have b6:(cEs (z code) 0 (e.take k)).length+(cE (z code+(cEs (z code) 0 (e.take k)).length) (0+k) x).length<=(cEs (z code) 0 e).length:=by
     rw[t,j4]at a1;exact a1
    have m:(code++(cEs (z code) 0 (e.take k)).map Prod.fst).length=z code+(cEs (z code) 0 (e.take k)).length:=by rw[j4,j5]
    simp only[go_sem,f0,f1,b,u,af,I,j5,dD];refine bV (b8 k x (0+k) I) p1 rfl E rfl (by rw[m];simp only[bJ,j5];omega) ?_;intro g2 b3 p2 q2 r2;rw[m]at p2;simp only[go_sem,f0,f1,b,u,hw];refine eA (n-1) a6 ⟨k+1,a6,?_⟩;simp only[go_sem,f0,f1,b,u,hw];rw[t,A7,<-l6];exact p2
   .have bs:k=z e:=a6
    subst bs;rw[F0]at p1;have j:(code++(cEs (z code) 0 e).map Prod.fst).length=z code+(cEs (z code) 0 e).length:=by rw[j4,j5]
    have X:∀g' Z K2,Prog K K2 G B word (code++(cEs (z code) 0 e).map Prod.fst++rest.map Prod.fst) g ob g' Z->Bl K G B word (code++pe (.mk kind slot size e th el) word (z code)) g ob g' (λi=>if decide (K<=i)=T then N else Z i):=by
     intro g' Z K2 L;have:code++pe (.mk kind slot size e th el) word (z code)=code++(cEs (z code) 0 e).map Prod.fst++rest.map Prod.fst:=by rw[bo,l6]
     rw[this];exact L.fin J
    generalize code++(cEs (z code) 0 e).map Prod.fst=A at *
    have hk:kind=1\/kind=2\/kind=3\/kind=6\/kind=7\/kind=4:=by
     obtain⟨_,_,_,_,_,h⟩:=bd;rcases h with⟨h,_⟩|⟨h,_⟩|⟨h|h|h,_⟩|⟨h,_⟩|⟨h,_⟩<;>omega
    rcases hk with rfl|rfl|rfl|rfl|rfl|rfl
    .obtain rfl:[(⟨3,slot,0,0⟩,(z e:Int))]=rest:=a
     have bf:z A+1<=1000000000:=by rw[j];exact bf
     simp only[go_sem,f0,f1,b,u,af,j5];refine cU [⟨3,slot,0,0⟩] p1 rfl E a6 a6 rfl rfl bf ?_;exact l2
    .obtain rfl:[(⟨5,slot,size,0⟩,(z e:Int))]=rest:=a
     have bf:z A+1<=1000000000:=by rw[j];exact bf
     simp only[go_sem,f0,f1,b,u,af,j5];refine fV aR mixed [K+58] [([0],[0],[],F),([1],[],[],F),([49],[],[],F),([50],[],[],F),([51],[],[],F),([1],[],[],F),([53],[],[],F),([54],[],[],F),([55],[],[],F),([52,56],[],[],F),([57],[],[0],F),([48,58],[],[],T)] 1 b9 rfl a8 ?_;simp only[go_sem]
     iterate 10 (apply aM;· (intro fa ga oa K' J;simp only[go_sem,f0,f1]at J|-;exact J))
     (apply cX;· (intro fa ga oa K' J;simp only[go_sem,f0,f1]at J|-;exact J))
     apply db;intro K' b0;simp only[go_sem];refine cU [⟨5,slot,size,0⟩] p1 rfl E a6 a6 rfl rfl bf ?_;intro g2 b3 p2 q2 r2;refine b0 _ ?_;simp only[go_sem];refine bS (λi=>decide (K<=i)) ?_;exact⟨rfl,X _ _ _ p2⟩
    .obtain rfl:[(⟨13,0,0,0⟩,(z e:Int))]=rest:=a
     have bf:z A+1<=1000000000:=by rw[j];exact bf
     simp only[go_sem,f0,f1,b,u,af,j5];refine cU [⟨13,0,0,0⟩] p1 rfl E a6 a6 rfl rfl bf ?_;exact l2
    .obtain rfl:[(⟨10,slot,0,0⟩,(z e:Int))]=rest:=a
     have bf:z A+1<=1000000000:=by rw[j];exact bf
     simp only[go_sem,f0,f1,b,u,af,j5];refine cU [⟨10,slot,0,0⟩] p1 rfl E a6 a6 rfl rfl bf ?_;exact l2
    .by_cases hz:0<z e
     .obtain rfl:[(⟨11,0,0,0⟩,(z e:Int))]=rest:=by
       rw[<-a];unfold uJ;simp only[show ¬((7:Int)=4) by decide,show ¬((7:Int)=1) by decide,show ¬((7:Int)=2) by decide,show ¬((7:Int)=3) by decide,show ¬((7:Int)=6) by decide,B8,B5];rw[j8 a6]
      have bf:z A+1<=1000000000:=by rw[j];exact bf
      simp only[go_sem,f0,f1,b,u,af,j5,Int.natCast_pos,hz];refine cU [⟨11,0,0,0⟩] p1 rfl E a6 a6 rfl rfl bf ?_;exact l2
     .obtain rfl:leave word=rest:=by
       rw[<-a];unfold uJ;simp only[show ¬((7:Int)=4) by decide,show ¬((7:Int)=1) by decide,show ¬((7:Int)=2) by decide,show ¬((7:Int)=3) by decide,show ¬((7:Int)=6) by decide,B8,B5];rw[l7 a6]
      have bf:z A+z (leave word)<=1000000000:=by rw[j];exact bf
      simp only[go_sem,f0,f1,b,u,af,j5,Int.natCast_pos,hz];refine bV Fa p1 rfl E rfl (by simpa using bf) ?_;exact l2
    .simp only[B5]at a
     cases U:el with
     |nil=>
       subst U
       obtain rfl:(⟨9,(z A+1+(cSs word (z A+1) th).length:Nat),0,0⟩,1)::cSs word (z A+1) th=rest:=by
        rw[<-a,<-j];rfl
       have bf:z A+(1+(cSs word (z A+1) th).length)<=1000000000:=by
        rw[j6,<-j]at bf;omega
       have o:z (A++[(⟨9,0,0,0⟩:Ins)])=z A+1:=by rw[j4];rfl
       simp only[go_sem,f0,f1,b,u,af,j5];refine ji p1 rfl E rfl a6 ?_;intro g2 b3 l W p2 o1 q2 r2;simp only[go_sem,f0,f1];refine bV p p2 rfl E rfl Yu ?_;intro g3 cf p3 q3 r3;rw[o]at p3
       have p3:Prog K (K+120+6) G B word (A++(⟨9,0,0,0⟩:Ins)::bU th word (z A+1)) g ob g3 cf:=by
        have:=p3;exact K0
       have o1:=o1.same (g':=g3) (Z:=cf) (q3 _ a6 a6) (q3 _ a6 a6) (r3 _ a6 a6) (r3 _ a6 a6);simp only[go_sem,f1,qG,j7];refine gQ p3 o1 rfl E rfl rfl (by simp only[j4,j6,bU,j5,j7];omega) ?_;intro c0 p4 r4;simp only[go_sem];refine jb (λi=>decide (K<=i)) ?_;refine⟨rfl,X _ _ (K+120+6) ?_⟩
       have e1:(A++(⟨9,0,0,0⟩:Ins)::bU th word (z A+1)).length=z A+1+(cSs word (z A+1) th).length:=by
        simp only[j4,j6,bU,j5,j7];omega
       rw[e1]at p4;exact p4
     |cons y Q=>
       rw[<-U];have bl:el.isEmpty=F:=by rw[U];rfl
       have cv:0<z el:=by rw[U];simp
       have bz:¬(z el:Int)=0:=a6
       obtain rfl:(⟨9,(z A+1+(cSs word (z A+1) th).length+1:Nat),0,0⟩,1)::(cSs word (z A+1) th++(⟨8,(z A+1+(cSs word (z A+1) th).length+1+(cSs word (z A+1+(cSs word (z A+1) th).length+1) el).length:Nat),0,0⟩,0)::cSs word (z A+1+(cSs word (z A+1) th).length+1) el)=rest:=by
        rw[<-a,<-j,bl];rfl
       have bf:z A+(1+(cSs word (z A+1) th).length+1+(cSs word (z A+1+(cSs word (z A+1) th).length+1) el).length)<=1000000000:=by
        simp only[j6,j4,<-j]at bf;omega
       have o:z (A++[(⟨9,0,0,0⟩:Ins)])=z A+1:=by rw[j4];rfl
       simp only[go_sem,f0,f1,b,u,af,j5];refine ji p1 rfl E rfl a6 ?_;intro g2 b3 l W p2 o1 q2 r2;simp only[go_sem,f0,f1];refine bV p p2 rfl E rfl Yu ?_;intro g3 cf p3 q3 r3;rw[o]at p3;have o1:=o1.same (g':=g3) (Z:=cf) (q3 _ a6 a6) (q3 _ a6 a6) (r3 _ a6 a6) (r3 _ a6 a6);have fx:(A++[(⟨9,0,0,0⟩:Ins)]++bU th word (z A+1)).length=z A+1+(cSs word (z A+1) th).length:=by rw[j4,o];simp only[bU,j5]
       simp only[go_sem,f0,f1,IS,bz];refine ji p3 rfl E rfl a6 ?_;intro g4 c0 b4 b5 p4 o2 q4 r4;have o1:=o1.same (g':=g4) (Z:=c0) (q4 _ a6 a6) (q4 _ a6 a6) (r4 _ a6 a6 a6) (r4 _ a6 a6 a6)
       have p4:Prog K (K+120+6+6) G B word (A++(⟨9,0,0,0⟩:Ins)::(bU th word (z A+1)++[(⟨8,0,0,0⟩:Ins)])) g ob g4 c0:=by
        have:=p4;exact K0
       have O:(A++(⟨9,0,0,0⟩:Ins)::(bU th word (z A+1)++[(⟨8,0,0,0⟩:Ins)])).length=z A+1+(cSs word (z A+1) th).length+1:=by
        simp only[j4,j6,j7,bU,j5];omega
       simp only[go_sem];refine gQ p4 o1 rfl E rfl rfl (by rw[O];omega) ?_;intro c' p5 r5;rw[O]at p5;have o2:=o2.same (g':=g4) (Z:=c') rfl rfl (r5 _ a6) (r5 _ a6)
       have an:(A++(⟨9,((z A+1+(cSs word (z A+1) th).length+1:Nat):Int),0,0⟩:Ins)::(bU th word (z A+1)++[(⟨8,0,0,0⟩:Ins)])).length=z A+1+(cSs word (z A+1) th).length+1:=by
        simp only[j4,j6,j7,bU,j5];omega
       simp only[go_sem,f0,f1];refine bV a' p5 rfl E rfl (by rw[an];simp only[bU,j5];omega) ?_;intro g6 bk p6 q6 r6;rw[an]at p6;have o2:=o2.same (g':=g6) (Z:=bk) (q6 _ a6 a6) (q6 _ a6 a6) (r6 _ a6 a6) (r6 _ a6 a6)
       have p6:Prog K (K+120+6+6) G B word ((A++(⟨9,((z A+1+(cSs word (z A+1) th).length+1:Nat):Int),0,0⟩:Ins)::bU th word (z A+1))++(⟨8,0,0,0⟩:Ins)::bU el word (z A+1+(cSs word (z A+1) th).length+1)) g ob g6 bk:=by
        have:=p6;exact K0
       have cc:(A++(⟨9,((z A+1+(cSs word (z A+1) th).length+1:Nat):Int),0,0⟩:Ins)::bU th word (z A+1)).length=(A++[(⟨9,0,0,0⟩:Ins)]++bU th word (z A+1)).length:=a8
       have ca:((A++(⟨9,((z A+1+(cSs word (z A+1) th).length+1:Nat):Int),0,0⟩:Ins)::bU th word (z A+1))++(⟨8,0,0,0⟩:Ins)::bU el word (z A+1+(cSs word (z A+1) th).length+1)).length=z A+1+(cSs word (z A+1) th).length+1+(cSs word (z A+1+(cSs word (z A+1) th).length+1) el).length:=by
        simp only[j4,j6,j7,bU,j5];omega
       rw[<-cc]at o2;simp only[go_sem];refine gQ p6 o2 rfl E rfl rfl (by rw[ca];omega) ?_;intro b2 p7 r7;rw[ca]at p7;simp only[go_sem];refine bS (λi=>decide (K<=i)) ?_;refine⟨rfl,X _ _ (K+120+6+6) ?_⟩
       have e1:A++List.map Prod.fst (((⟨9,((z A+1+(cSs word (z A+1) th).length+1:Nat):Int),0,0⟩:Ins),(1:Int))::(cSs word (z A+1) th++(⟨8,((z A+1+(cSs word (z A+1) th).length+1+(cSs word (z A+1+(cSs word (z A+1) th).length+1) el).length:Nat):Int),0,0⟩,0)::cSs word (z A+1+(cSs word (z A+1) th).length+1) el)) =
         (A++(⟨9,((z A+1+(cSs word (z A+1) th).length+1:Nat):Int),0,0⟩:Ins)::bU th word (z A+1))++(⟨8,((z A+1+(cSs word (z A+1) th).length+1+(cSs word (z A+1+(cSs word (z A+1) th).length+1) el).length:Nat):Int),0,0⟩:Ins)::bU el word (z A+1+(cSs word (z A+1) th).length+1):=by
        simp only[bU,A7,l9,l6,u7]
       rw[e1];exact p7
section
def xO(fs:List Src.CFn):Nat:=(fs.map λx=>fp x.body).sum
def rL(fs:List Src.CFn)(k:Nat):Nat:=xO (fs.take k)
def Dn(fs:List Src.CFn)(k:Nat):rL fs k<=xO fs:=by
 conv=>rhs;rw[<-F9 k fs]
 simp only[rL,xO,A7,Lb];omega
variable{w:Int}{ps:Sig}{fs:List Src.CFn}{x:Src.CFn}
def zd{k:Nat}(h:fs[k]?=S x):rL fs (k+1)=rL fs k+fp x.body:=by
 simp only[rL,xO,B4,h,I7,A7,Lb,l9,v8,D6,P8];omega
def bQ(x:Ins):List D:=[.int .i64 x.op,.int .i64 x.a,.int .i64 x.b,.int .u32 x.n]
abbrev uI(l:Lower.Code):D:=.sl ((l.map Prod.fst).map bQ)
def MR{fi:Nat}{b:Bool}{l:List Stm}{q:Int}(c:fp l<=100000000000)(V:rSs w ps fi b q l):fq 94 [slS l] (bU l):=
 vW a6 λk s hs=>QD (nP s) s q (l0 _) Ya (uR V hs)
def QE{fi:Nat}{n:Bool}(V:rSs w ps fi n 1 x.body)(q:fp x.body<=100000000000)(hl:z (codeOf x.word x.body)<=1000000000):
  aF Tryz.prog 56 [.agg ((cfD x).map .d)] (·=.one (.d (uI (codeOf x.word x.body)))):=by
 refine hdP Tryz.func56 rfl [2] λg=>?_;have r:z (cSs x.word 0 x.body)+z (leave x.word)<=1000000000:=by rw[codeOf,j4]at hl;exact hl
 simp only[go_sem,cfD,j5];refine Eh _ (dR (t:=3) (o:=3) (b:=20) (j:=1) (sz:=4) (off:=0) rfl rfl rfl a7) ?_;simp only[St.claimAt]
 have u:Prog 21 21 3 20 x.word [] (upd (upd (upd g 1 (nxC 124 (g 1))) 3 (nxC 185 (g 3))) 20 (g 20+1)) _ _ _:=Prog.start (ob:=upd (upd (upd (upd (upd (λ_=>N) 1 (S [.d (.int .i64 x.params),.d (.int .i64 x.slots),.d (.int .i64 x.first),.d (.bool x.word),.d (.sl (x.body.map csD))])) 3 (S [.d (.bool F),.d .nsl])) 3 (S [.d (.bool x.word),.d .nsl])) 3 (S [.d (.bool x.word),.osl 20 (g 20+1) 4 0 0])) 20 (S []))
  ⟨by simp[upd],by simp[upd,Gy],a7⟩ a7 a7 (λi hi=>by simp only[upd];rw[j8 a6,j8 a6,j8 a6,j8 a6,j8 a6]) (l0 _)
 refine bV (MR q V) u rfl (P:=nxC 185 (g 3)) Wq (by simp only[slS,pd];rfl) (by simp only[bU,j5,j7,B9];omega) ?_;intro H ad v A I;have m:([]++bU x.body x.word (z ([]:List Ins))).length=z (cSs x.word 0 x.body):=by simp only[bU,x9,j5,j7]
 simp only[go_sem];refine bV Fa v rfl Wq rfl (by rw[m,j5];exact r) ?_;intro E b3 k G J;have e:[]++bU x.body x.word (z ([]:List Ins))++(leave x.word).map Prod.fst=(codeOf x.word x.body).map Prod.fst:=by simp only[bU,codeOf,x9,A7,j7]
 rw[e]at k;have g3:E 3=nxC 185 (g 3):=by rw[G 3 a7 a7,A 3 a7 a7];simp[upd]
 simp only[go_sem,k.tape.t,g3];refine⟨_,⟨_,eG (s:=⟨_,_,_⟩) rfl ((codeOf x.word x.body).map Prod.fst) bQ k.tape.b c9 (λa _ y l=>?_) (λ_ _=>rfl) (j5 _),rfl⟩,rfl⟩;simp only[bQ,y9,A4,E7]at l;rcases l with rfl|rfl|rfl|rfl<;>rfl
def sfD(x:Src.CFn):List D:=[.int .i64 x.params,.int .i64 x.slots,.int .i64 x.first,.bool x.word,uI (codeOf x.word x.body)]
def jt(w:Int)(fs:List Src.CFn):AV:=.agg [.d (.int .i64 w),.d (.sl (fs.map sfD))]
def MS(x:Src.CFn):z (sfD x)=5:=rfl
def Pm(fs:List Src.CFn):Prop:=∀x∈fs,z (codeOf x.word x.body)<=1000000000
def QF(hN:xO fs<=100000000000)(hF:z fs<=1000000)(m:Pm fs)(V:∀(k:Nat)(x:Src.CFn),fs[k]?=S x->rSs w ps k x.word 1 x.body):aF Tryz.prog 31 [qq ⟨w,fs⟩] (·=jt w fs):=by
 refine hdR Tryz.func31 rfl [.cell 2 84] λg=>?_;unfold qq;simp only[go_sem,j5]
 refine zZ _ (dR (t:=3) (o:=3) (b:=30) (j:=1) (sz:=5) (off:=0) rfl rfl rfl a7) (λn s=>∃k:Nat,n+k=z fs/\s.f 2=.one (.ptr 2 (s.gen 2) 0)/\s.f 3=.one (.ptr 3 (s.gen 3) 0)/\s.f 10=.one (.d (.sl (fs.map cfD)))/\s.f 11=iv .i64 (z fs)/\s.f 12=iv .i64 k/\s.obj 2=S [.d (.int .i64 0),.d .nsl]/\s.obj 3=S [.d (.int .i64 w),.osl 30 (s.gen 30) 5 0 k]/\
  s.obj 30=S ((fs.take k).flatMap λx=>(sfD x).map .d)) (z fs) ?_ ?_
 .refine⟨0,rfl,?_⟩
  simp only[St.claimAt];simp only[go_sem,H5]
  try rfl
 .clear g
  rintro n f g ob ⟨k,hk,r,f3,e,bd,h,v,o3,p⟩;simp only at r f3 e bd h v o3 p;have K:=ab (k:=k) a6
  have O:∀l:List Src.CFn,z (l.flatMap λx=>(sfD x).map C.d)=z l*5:=by
   intro l
   induction l with
   |nil=>rfl
   |cons a l U=>simp only[A1,j4,U,j5,MS,j6];omega
  by_cases H:k<z fs
  .obtain⟨x,I⟩:=getq H
   have u:fp x.body<=100000000000:=by
    have Y:=zd I;have h3:=Dn fs (k+1);omega
   have Z:z (fs.take k)=k:=by rw[C2];omega
   simp only[go_sem,r,f3,e,bd,h,v,o3,p,H,I,j5,cfD];refine fV aR mixed [29,30,3] [([3],[0],[],F),([16],[0],[],F),([5],[],[],F),([18],[],[],F),([5],[],[],F),([20],[],[],F),([5],[],[],F),([22],[],[],F),([5],[],[],F),([24],[],[],F),([5],[],[],F),([26],[],[],F),([19,21,23,25,27],[],[],F),([28],[],[0],F),([17,29],[],[1],F),([3],[],[],F),([31,30],[],[],T)] 3 b9 rfl a7 ?_;simp only[go_sem]
   iterate 11 (apply aM;· (intro A B E q J;simp only[go_sem,f3,o3,setAt]at J|-;exact J))
   apply aM
   .intro A B E q J
    simp only[go_sem]at J|-;refine xq rfl (QE (V k x I) u (m x (l5 I))) c9 ?_;exact oC
   (apply aM;· (intro A B E q J;simp only[go_sem,f3,o3]at J|-;exact J))
   (apply cX;· (intro A B E q J;simp only[go_sem,f3,o3]at J|-;exact J))
   apply cX
   .intro A B E q J
    simp only[go_sem,p,O,Z]at J|-;refine⟨?_,?_,J⟩
    .omega
    .exact⟨a7,a6⟩
   (apply aM;· (intro A B E q J;simp only[go_sem,f3,o3]at J|-;exact J))
   apply db;intro q W;simp only[go_sem,f3,o3];refine W _ ?_;simp only[go_sem,r,f3,e,bd,h,v,K];refine eA (n-1) a6 ⟨k+1,a6,?_⟩;simp only[go_sem,r,f3,e,bd,h,v,K];rw[B4,I,J9,s6 (by rw[O,Z];exact l0 _)];rfl
  .have X:k=z fs:=a6
   subst X;simp only[go_sem,r,f3,e,bd,h,v,o3,H,j5];rw[F0]at p;refine⟨_,⟨[.int .i64 w,.sl (fs.map sfD)],rfl,λi c G=>?_,rfl⟩,rfl⟩
   match i,G with
   |0,G=>cases G;exact⟨_,rfl,.d _⟩
   |1,G=>
     cases G;refine⟨_,rfl,eG (s:=⟨_,_,_⟩) rfl fs sfD ?_ rfl (λa _ y Q=>?_) (λ_ _=>rfl) rfl⟩
     .simp only[upd];exact p
     .simp only[sfD,y9,A4,E7]at Q
      rcases Q with rfl|rfl|rfl|rfl|rfl<;>rfl
end
end
end Go.Proofs.YtednjibjomfhfaaGreatDoor.Low
namespace Go.Src
section
open Go.Asm (Str)
open Go.Lower (Sig within callee rE rEs rS rSs)
section
def sigs(fs:List Fn):Sig:=fs.map λf=>((z f.params:Int),f.word)
structure qa (fs:List Fn) (W:Int) (k:Nat) (m:Str->Option (Nat×Nat)) (pl:Str->Int×Int):Prop where
 no:pl []=(0,0)
 var:∀s kd n,m s=some (kd,n)->kd=1\/kd=2->within W (pl s).1 1/\(pl s).2=0
 arr:∀s n,m s=some (3,n)->1<=(pl s).2/\(pl s).2<=4096/\within W (pl s).1 (pl s).2
 fn:∀s n,m s=some (4,n)->n<k->(pl s).1=n/\(pl s).2=0/\∃f,fs[n]?=some f/\cH fs s=some f
section
variable{fs:List Fn}{W:Int}{k:Nat}{o i:Pl}{m:Str->Option (Nat×Nat)}
def wP:∀l:List Ex,z (eM o i l)=z l:=λl=>by rw[lJ,j5]
def wQ:∀l:List Stm,z (ej o i l)=z l:=λl=>by rw[lK,j5]
def yj(H:qa fs W k m (ei o i)){name:Str}{args:Nat}{w:Bool}(U:cl m k 4 name=T)(Y:gZ m fs k 4 name args=T)(a:iO fs name=w):callee (sigs fs) k (ei o i name).1 args w/\(ei o i name).2=0:=by
 unfold cl at U;cases b:m name with
 |none=>rw[b]at U;cases U
 |some t=>
   obtain⟨g,n⟩:=t;rw[b]at U;simp only[show ¬(4:Nat)=2 by decide,show ¬(4:Nat)=3 by decide,B8,l4,I5,s7]at U;obtain⟨rfl,c⟩:=U;obtain⟨d,e,f,A,v⟩:=H.fn name n b c;unfold gZ at Y;rw[b]at Y;simp[c,A]at Y;unfold iO at a;rw[v]at a;simp only at a;refine⟨⟨n,d,c,?_⟩,e⟩;unfold sigs;rw[y7,A,z8,Y,a]
mutual
theorem Ce(H:qa fs W k m (ei o i)):∀(e:Ex)(q:Nat),cR q e=T->okE (λa b _=>cl m k a b) e=T->okE (λa b c=>gZ m fs k a b c) e=T->iy fs e≠0->rE W (sigs fs) k q (iP o i e)
 |.mk kind op num name kids,q,U,Y,B,p=>by
   rw[cR]at U;rw[okE]at Y B;rw[iy]at p;simp only[l4,s7]at U Y B;obtain⟨j,d,x⟩:=U;rw[iP,rE];have v:(q:Int)<=24:=a6;have bf:=wP (o:=o) (i:=i) kids;unfold Lower.okE;rw[bf];have l:kids=[]->rEs W (sigs fs) k (q+1) (eM o i kids):=λe=>by rw[e,eM,rEs];trivial
   have f:∀t,dj fs t kids=T->t≠0->rEs W (sigs fs) k (q+1) (eM o i kids):=λt J Z=>by
    have:=nF H kids (q+1) t x Y.2 B.2 J Z;exact Um
   have u:name=[]->ei o i name=(0,0):=λe=>by rw[e];exact H.no
   unfold bI ah at d;by_cases K:kind=1
   .subst K
    simp at d;obtain⟨⟨ho,s⟩,hl⟩:=d;have w:kids=[]:=by first|exact hl|exact J8.1 hl
    rw[u s];exact⟨⟨v,.inl rfl,.inr ho,.inr rfl,.inr (.inr (.inr rfl)),.inl ⟨.inl rfl,by rw[w];rfl⟩⟩,l w⟩
   by_cases L:kind=2
   .subst L
    simp at d;obtain⟨⟨⟨ho,an⟩,s⟩,hl⟩:=d;have w:kids=[]:=by first|exact hl|exact J8.1 hl
    have g:=Y.1;simp only[B5]at g;unfold cl at g;cases y:m name with
    |none=>rw[y]at g;cases g
    |some t=>
      obtain⟨X,n⟩:=t;rw[y]at g;simp at g;obtain⟨P,w2⟩:=H.var name X n y g;exact⟨⟨v,.inr an,.inr ho,.inr w2,.inl rfl,.inr (.inl ⟨rfl,P,by rw[w];rfl⟩)⟩,l w⟩
   by_cases O:kind=5
   .subst O
    simp at d;obtain⟨⟨⟨ho,an⟩,s⟩,hl⟩:=d;have w:kids=[]:=by first|exact hl|exact J8.1 hl
    rw[u s];exact⟨⟨v,.inr an,.inr ho,.inr rfl,.inr (.inr (.inr rfl)),.inl ⟨.inr rfl,by rw[w];rfl⟩⟩,l w⟩
   by_cases E:kind=3
   .subst E
    simp at d;obtain⟨⟨⟨ho,an⟩,s⟩,hl⟩:=d;have g:=Y.1;simp at g;unfold cl at g;simp at p;cases y:m name with
    |none=>rw[y]at g;cases g
    |some t=>
      obtain⟨X,n⟩:=t;rw[y]at g;simp at g;subst g;obtain⟨a1,a2,G⟩:=H.arr name n y;exact⟨⟨v,.inr an,.inr ho,.inl rfl,.inr (.inl rfl),.inr (.inr (.inl ⟨rfl,a1,a2,G,hl⟩))⟩,f 1 p a7⟩
   by_cases I:kind=4
   .subst I
    simp at d;obtain⟨⟨⟨ho,an⟩,s⟩,hl⟩:=d;have g:=Y.1;have A:=B.1;simp at g A p;obtain⟨c1,c2⟩:=yj H g A p.1;exact⟨⟨v,.inr an,.inr ho,.inr c2,.inr (.inr (.inl rfl)),.inr (.inr (.inr (.inl ⟨rfl,c1⟩)))⟩,f 1 p.2 a7⟩
   by_cases r:kind=6
   .subst r
    simp at d;obtain⟨⟨⟨ho,an⟩,s⟩,hl⟩:=d;simp at p;rw[u s];exact⟨⟨v,.inr an,.inl rfl,.inr rfl,.inr (.inr (.inr rfl)),.inr (.inr (.inr (.inr (.inl ⟨rfl,ho.1,ho.2,hl⟩))))⟩,f 1 p.1 a7⟩
   by_cases Q:kind=7
   .subst Q
    simp at d;obtain⟨⟨⟨ho,an⟩,s⟩,hl⟩:=d;simp at p;rw[u s];exact⟨⟨v,.inr an,.inr ho,.inr rfl,.inr (.inr (.inr rfl)),.inr (.inr (.inr (.inr (.inr (.inl ⟨rfl,hl⟩)))))⟩,f 2 p a7⟩
   by_cases V:kind=8\/kind=9
   .simp[K,L,E,I,O,r,Q,V]at d
    obtain⟨⟨⟨ho,an⟩,s⟩,hl⟩:=d
    have J:dj fs 2 kids=T:=by
     rw[j8 a6,j8 a6,j8 E,j8 I,j8 r]at p;simpa using p
    rw[u s];exact⟨⟨v,.inr an,.inr ho,.inr rfl,.inr (.inr (.inr rfl)),.inr (.inr (.inr (.inr (.inr (.inr ⟨V,hl⟩)))))⟩,f 2 J a7⟩
   .simp[K,L,E,I,O,r,Q,V]at d
theorem nF(H:qa fs W k m (ei o i)):∀(l:List Ex)(q:Nat)(t:Int),aU q l=T->ep (λa b _=>cl m k a b) l=T->ep (λa b c=>gZ m fs k a b c) l=T->dj fs t l=T->t≠0->rEs W (sigs fs) k q (eM o i l)
 |[],q,t,_,_,_,_,_=>by rw[eM,rEs];trivial
 |e::l,q,t,U,Y,d,f,g=>by
   rw[aU,l4]at U;rw[ep,l4]at Y d;rw[dj,l4,s7]at f;rw[eM,rEs];exact⟨Ce H e q U.1 Y.1 d.1 (by rw[f.1];exact g),nF H l q t U.2 Y.2 d.2 f.2 g⟩
end
mutual
theorem Cf{w:Bool}(H:qa fs W k m (ei o i)):∀(s:Stm)(q:Nat),di q s=T->okS (λa b _=>cl m k a b) s=T->okS (λa b c=>gZ m fs k a b c) s=T->lI fs w s=T->rS W (sigs fs) k w q (coreS o i s)
 |.mk kind name e J el,q,U,Y,B,E=>by
   rw[di]at U;rw[okS]at Y B;rw[lI]at E;simp only[l4,s7]at U Y B E;obtain⟨⟨j,d,x⟩,p,a'⟩:=U;obtain⟨⟨⟨K,I⟩,bs⟩,l,b3⟩:=E;rw[coreS,rS];have v:(q:Int)<=24:=a6;unfold Lower.okS;rw[wP,wQ,wQ]
   have r1:rEs W (sigs fs) k (q+1) (eM o i e):=by
    have:=nF H e (q+1) _ x Y.1.1.2 B.1.1.2 bs (by split<;>decide);exact Um
   have r2:rSs W (sigs fs) k w (q+1) (ej o i J):=by
    have:=kP H J (q+1) p Y.1.2 B.1.2 l;exact Um
   have r3:rSs W (sigs fs) k w (q+1) (ej o i el):=by
    have:=kP H el (q+1) a' Y.2 B.2 b3;exact Um
   refine⟨?_,r1,r2,r3⟩;have u:name=[]->ei o i name=(0,0):=λe=>by rw[e];exact H.no
   have f:cl m k 2 name=T->within W (ei o i name).1 1/\(ei o i name).2=0:=λh=>by
    unfold cl at h;cases y:m name with
    |none=>rw[y]at h;cases h
    |some t=>
      obtain⟨L,n⟩:=t;rw[y]at h;simp at h;exact H.var name L n y h
   unfold cp ah at d;by_cases O:kind=1
   .subst O
    simp at d;have g:=Y.1.1.1;simp at g;obtain⟨P,w2⟩:=f g;exact⟨v,.inr w2,.inl rfl,.inr W9,.inr (.inr Xa),.inl ⟨rfl,P,d.2.1⟩⟩
   by_cases Q:kind=2
   .subst Q
    simp at d;have g:=Y.1.1.1;simp at g;unfold cl at g;cases y:m name with
    |none=>rw[y]at g;cases g
    |some t=>
      obtain⟨L,n⟩:=t;rw[y]at g;simp at g;subst g;obtain⟨a1,a2,G⟩:=H.arr name n y;exact⟨v,.inl rfl,.inr (.inl rfl),.inr W9,.inr (.inr Xa),.inr (.inl ⟨rfl,a1,a2,G,d.2.1⟩)⟩
   by_cases V:kind=3
   .subst V
    simp at d;rw[u d.1];exact⟨v,.inr rfl,.inr (.inr (.inr rfl)),.inr W9,.inr (.inr Xa),.inr (.inr (.inl ⟨.inl rfl,d.2.1⟩))⟩
   by_cases X:kind=4
   .subst X
    simp at d;rw[u d.1];exact⟨v,.inr rfl,.inr (.inr (.inr rfl)),.inl rfl,.inl rfl,.inr (.inr (.inl ⟨.inr (.inl rfl),d.2⟩))⟩
   by_cases Z:kind=5
   .subst Z
    simp at d;rw[u d.1];exact⟨v,.inr rfl,.inr (.inr (.inr rfl)),.inr (by first|exact d.2.2|(simp[d.2.2])),.inr (.inl rfl),.inr (.inr (.inl ⟨.inr (.inr rfl),d.2.1⟩))⟩
   by_cases r:kind=6
   .subst r
    simp at d;have g:=Y.1.1.1;have A:=B.1.1.1;simp at g A K;obtain⟨d1,d2⟩:=yj H g A K;exact⟨v,.inr d2,.inr (.inr (.inl rfl)),.inr W9,.inr (.inr Xa),.inr (.inr (.inr (.inl ⟨rfl,d1⟩)))⟩
   by_cases k7:kind=7
   .subst k7
    simp at d I;rw[u d.1];refine⟨v,.inr rfl,.inr (.inr (.inr rfl)),.inr W9,.inr (.inr Xa),.inr (.inr (.inr (.inr ⟨rfl,?_⟩)))⟩;by_cases h0:z e=0
    .exact .inl h0
    .have hp:0<z e:=a6
     exact .inr ⟨by first|exact I hp|exact I (H7.1 hp)|(simp_all),by omega⟩
   .simp[O,Q,V,X,Z,r,k7]at d
theorem kP{w:Bool}(H:qa fs W k m (ei o i)):∀(l:List Stm)(q:Nat),bg q l=T->eP (λa b _=>cl m k a b) l=T->eP (λa b c=>gZ m fs k a b c) l=T->bF fs w l=T->rSs W (sigs fs) k w q (ej o i l)
 |[],q,_,_,_,_=>by rw[ej,rSs];trivial
 |s::l,q,U,Y,d,e=>by
   rw[bg,l4]at U;rw[eP,l4]at Y d;rw[bF,l4]at e;rw[ej,rSs];exact⟨Cf H s q U.1 Y.1 d.1 e.1,kP H l q U.2 Y.2 d.2 e.2⟩
end
end
end
section
def lV{c β b:Type}(f:Nat->c->β)(g:β->b)(l:List c):(l.mapIdx f).map g=l.mapIdx λi a=>g (f i a):=by
 apply M5;intro i;rw[y7,N2,N2];cases l[i]?<;>rfl
def Ke:∀(l:List Str)(m:Pl)(w:Int),gV l m w=((l.mapIdx λi n=>((n,w+(i:Int),0):Str×Int×Int)).reverse++m,w+z l)
 |[],m,w=>by simp[gV]
 |n::l,m,w=>by
   rw[gV,Ke l,L4];simp only[M6,l6,H9,j6,I2];refine⟨?_,by push_cast;omega⟩;congr 1
   .congr 1
    congr 1;funext i n;simp only[I2,LB,R8]
    push_cast;omega
   .simp
def Kf:∀(l:List (Str×Int))(m:Pl)(w:Int),gA l m w=((l.mapIdx λi a=>((a.1,w+((l.take i).map (·.2)).sum,a.2):Str×Int×Int)).reverse++m,w+(l.map (·.2)).sum)
 |[],m,w=>by simp[gA]
 |n::l,m,w=>by
   rw[gA,Kf l,L4];simp only[M6,l6,H9,l9,D6,I2];refine⟨?_,a6⟩;congr 1
   .congr 1
    congr 1;funext i n;simp only[C5,l9,D6,I2,LB,R8];omega
   .simp
def Pr:∀(l:List Fn)(j:Nat)(m:Pl),gF j l m=(l.mapIdx λi f=>((f.name,((j+i:Nat):Int),0):Str×Int×Int)).reverse++m
 |[],j,m=>by simp[gF]
 |n::l,j,m=>by
   rw[gF,Pr l,L4];simp only[M6,l6,H9];congr 1
   .congr 1
    congr 1;funext i n;simp only[I2,LB,R8]
    push_cast;omega
def Kg(w:Int):∀(l:List Str)(j:Nat)(m:Pl),lP w j l m=(l.mapIdx λi n=>((n,w+((j+i:Nat):Int),0):Str×Int×Int)).reverse++m
 |[],j,m=>by simp[lP]
 |n::l,j,m=>by
   rw[lP,Kg w l,L4];simp only[M6,l6,H9];congr 1
   .congr 1
    congr 1;funext i n;simp only[I2,LB,R8]
    push_cast;omega
def wE(enc:Nat×Nat->Int×Int)(s:Str):∀(n:Nat)(G:List Th),z G=n->bW [] G=T->jZ ((G.map λt=>(t.1,enc t.2)).reverse) s=(aP G s).map enc:=by
 intro n
 induction n with
 |zero=>intro G a _;rw[J8.1 a];rfl
 |succ n f=>
   intro G a d;obtain⟨l,t,rfl⟩:∃l t,G=l++[t]:=⟨G.dropLast,G.getLast (by intro h;rw[h]at a;cases a),(M1 _).symm⟩
   rw[sf,l4]at d;have hl:z l=n:=by rw[j4]at a;simpa using a
   have e:aP l t.1=N:=by simpa using d.2
   rw[A7,P5,lX];simp only[l9,v8,M6,List.reverse_nil,x9,H9,jZ];by_cases c:t.1=s
   .rw[l7 c]
    rw[c]at e;rw[e];simp[aP,c]
   .rw[j8 c,f l hl d.1]
    cases aP l s with
    |some x=>rfl
    |none=>simp[aP,c]
def wF(p:Prog)(n:Nat):Int:=z p.vars+((p.arrays.take n).map (·.2)).sum
def zA(p:Prog)(n:Nat):Int:=((p.arrays[n]?).map (·.2)).getD 0
def wG(p:Prog)(w:Int)(t:Nat×Nat):Int×Int:=if t.1=3 then(wF p t.2,zA p t.2)else if t.1=1 then(w+t.2,0)else((t.2:Int),0)
def wH(p:Prog)(w:Int):(bB p).1=((bA p).map λt=>(t.1,wG p w t.2)).reverse:=by
 unfold bB bA;simp only;rw[Pr,Kf,Ke];simp only[A7,P5,s5];congr 1
 .congr 1
  unfold thF;rw[lV];congr 1;funext i f;simp[wG]
 .congr 1
  .congr 1
   apply M5;intro i;unfold thA;rw[y7,N2,N2];cases c:p.arrays[i]? with
   |none=>rfl
   |some a=>simp[wG,wF,zA,c]
  .congr 1
   unfold thV;rw[lV];congr 1;funext i f;simp[wG]
def xl(p:Prog)(f:Fn)(w:Int):lP (w+z f.params) 0 f.locals (lP w 0 f.params [])=((bC f).map λt=>(t.1,wG p w t.2)).reverse:=by
 unfold bC;rw[Kg,Kg];simp only[A7,P5,s5];congr 1
 .congr 1
  unfold thL;rw[lV];congr 1;funext i f;simp[wG];omega
 .congr 1
  unfold thL;rw[lV];congr 1
def rY(p:Prog)(f:Fn)(w:Int)(U:bW [] (bA p)=T)(Y:bW [] (bC f)=T)(s:Str):
  ei (bB p).1 (lP (w+z f.params) 0 f.locals (lP w 0 f.params [])) s=((bw (bA p) (bC f) s).map (wG p w)).getD (0,0):=by
 unfold ei bw;rw[wH p w,xl p f w,wE _ s _ _ rfl U,wE _ s _ _ rfl Y];cases aP (bC f) s<;>rfl
def yd(s:Str):∀(fs:List Fn)(j n:Nat),aP (fs.mapIdx λi f=>((f.name,4,j+i):Th)) s=S (4,n)->∃m f,n=j+m/\fs[m]?=S f/\cH fs s=S f
 |[],j,n,h=>by simp[aP]at h
 |f::fs,j,n,h=>by
   rw[L4]at h;simp only[aP,cH]at h|-;by_cases a:f.name=s
   .rw[l7 a]at h
    cases h;exact⟨0,f,rfl,rfl,by rw[l7 a]⟩
   .rw[j8 a]at h
    have e:(fs.mapIdx λi f=>((f.name,4,j+(i+1)):Th))=fs.mapIdx λi f=>((f.name,4,(j+1)+i):Th):=by
     congr 1;funext i f;simp only[I2,R8];omega
    rw[e]at h;obtain⟨m,g,U,Y,c⟩:=yd s fs (j+1) n h;exact⟨m+1,g,a6,Y,by rw[j8 a];exact c⟩
variable{t:Th}{vs:List Str}{b:List (Str×Int)}
def Kh{s:Str}{k n:Nat}(h:(s,k,n)∈thA b):∃a,b[n]?=S a/\k=3:=by
 simp only[thA,I4]at h;obtain⟨i,c,e⟩:=h;cases e;exact⟨_,y8 c,rfl⟩
def Ki{s:Str}{k n:Nat}(h:(s,k,n)∈thV vs):n<z vs/\k=2:=by
 simp only[thV,I4]at h;obtain⟨i,a,e⟩:=h;cases e;exact⟨a,rfl⟩
def RE(h:t∈thV vs):t.1∈vs:=by
 simp only[thV,I4]at h;obtain⟨i,a,rfl⟩:=h;exact L3 a
def RF(h:t∈thA b):∃a∈b,t.1=a.1:=by
 simp only[thA,I4]at h;obtain⟨i,c,rfl⟩:=h;exact⟨_,L3 c,rfl⟩
def RG{fs:List Fn}(h:t∈thF fs):∃f∈fs,t.1=f.name:=by
 simp only[thF,I4]at h;obtain⟨i,a,rfl⟩:=h;exact⟨_,L3 a,rfl⟩
def Kj{j:Nat}(h:t∈thL j vs):t.1∈vs:=by
 simp only[thL,I4]at h;obtain⟨i,a,rfl⟩:=h;exact L3 a
def eD:aN []=F:=by simp[aN]
def Kk{p:Prog}{f:Fn}(V:cD p=T)(hf:f∈p.funcs):bw (bA p) (bC f) []=N:=by
 unfold cD at V;simp only[l4,x7]at V;obtain⟨⟨_,d⟩,e,bk⟩:=V;have v:=bk f hf;unfold cI at v;simp only[l4,x7]at v;unfold bw
 have Q:aP (bC f) []=N:=by
  cases h:aP (bC f) []with
  |none=>rfl
  |some x=>
    exfalso;have c:=fI h;unfold bC at c;rcases D7.1 c with c|c
    .have:=v.2.1.1 _ (Kj c);simp only[eD]at this;cases this
    .have:=v.2.1.2 _ (Kj c);simp only[eD]at this;cases this
 have g:aP (bA p) []=N:=by
  cases h:aP (bA p) []with
  |none=>rfl
  |some x=>
    exfalso;have c:=fI h;unfold bA at c;rcases D7.1 c with c|c
    .rcases D7.1 c with c|c
     .have:=d _ (RE c);simp only[eD]at this;cases this
     .obtain⟨a,bz,ch⟩:=RF c
      have:=e a bz;unfold fb at this;exact Uz
    .obtain⟨a,bz,ch⟩:=RG c
     have:=bk a bz;unfold cI at this;exact Uz
 rw[Q,g]
def nE(o:Pl):∀(l:List Fn)(w:Int)(k:Nat)(f:Fn),l[k]?=S f->∃w',w<=w'/\(eF o l w).1[k]?=S (pE o f w')/\w'+(z f.params+z f.locals)<=(eF o l w).2
 |[],w,k,f,h=>by simp at h
 |g::l,w,0,f,h=>by
   simp at h;subst h;refine⟨w,G9 _,rfl,?_⟩;simp only[eF]
   have:∀(l:List Fn)(w:Int),w<=(eF o l w).2:=by
    intro l
    induction l with
    |nil=>intro w;exact G9 _
    |cons a l c=>intro w;simp only[eF];have:=c (w+(z a.params+z a.locals));omega
   exact this _ _
 |g::l,w,k+1,f,h=>by
   obtain⟨w',U,Y,d⟩:=nE o l (w+(z g.params+z g.locals)) k f Xm;refine⟨w',a6,?_,?_⟩
   .simp only[eF,v7];exact Y
   .simp only[eF];exact d
def yf(o:Pl):∀(l:List Fn)(w:Int),w<=(eF o l w).2
 |[],w=>G9 _
 |a::l,w=>by simp only[eF];have:=yf o l (w+(z a.params+z a.locals));omega
def lG(o:Pl):∀(l:List Fn)(w:Int),z (eF o l w).1=z l
 |[],w=>rfl
 |a::l,w=>by simp only[eF,j6,lG o l]
def uq:∀(l:List (Str×Int))(n:Nat)(a:Str×Int),(∀x∈l,1<=x.2)->l[n]?=S a->((l.take n).map (·.2)).sum+a.2<=(l.map (·.2)).sum/\0<=((l.take n).map (·.2)).sum
 |[],n,a,_,h=>by simp at h
 |x::l,0,a,d,h=>by
   simp at h;subst h
   have:∀m:List (Str×Int),(∀x∈m,1<=x.2)->0<=(m.map (·.2)).sum:=by
    intro m e
    induction m with
    |nil=>simp
    |cons y m f=>have U:=f (λX c=>e X (by simp[c]));have Y:=e y a8;simp only[l9,D6];omega
   have g:=this l (λX c=>d X (by simp[c]));simp only[F6,v8,P8,l9,D6];omega
 |x::l,n+1,a,d,h=>by
   have f:=uq l n a (λX c=>d X (by simp[c])) Xm;have:=d x a8;simp only[C5,l9,D6];omega
def Kl{p:Prog}{f:Fn}{k:Nat}{w W:Int}(V:cD p=T)(U:bW [] (bA p)=T)(Y:bW [] (bC f)=T)(hf:f∈p.funcs)(bk:(bB p).2<=w)(K:w+(z f.params+z f.locals)<=W):
  qa p.funcs W k (bw (bA p) (bC f)) (ei (bB p).1 (lP (w+z f.params) 0 f.locals (lP w 0 f.params []))):=by
 have L:(bB p).2=z p.vars+(p.arrays.map (·.2)).sum:=by
  unfold bB;simp only;rw[Kf,Ke];simp
 have q:∀a∈p.arrays,1<=a.2/\a.2<=4096:=by
  unfold cD at V;simp only[l4,x7]at V;intro a l;have:=V.2.1 a l;unfold fb at this;simp at this;omega
 have b:∀a∈p.arrays,1<=a.2:=λa l=>(q a l).1
 have d:0<=(p.arrays.map (·.2)).sum:=by
  have:∀m:List (Str×Int),(∀x∈m,1<=x.2)->0<=(m.map (·.2)).sum:=by
   intro m j
   induction m with
   |nil=>simp
   |cons y m B=>have U:=B (λX G=>j X (by simp[G]));have Y:=j y a8;simp only[l9,D6];omega
  exact this _ b
 have I:∀{s:Str}{t:Nat×Nat},aP (bC f) s=S t->t.1=1/\t.2<z f.params+z f.locals:=λ{s t}h=>by
  have j:=fI h;unfold bC at j;rcases D7.1 j with j|j
  .have:=Fu j;exact⟨this.1,a6⟩
  .have:=Fu j;exact⟨this.1,a6⟩
 have E:∀{s:Str}{t:Nat×Nat},aP (bA p) s=S t->(t.1=2/\t.2<z p.vars)\/(t.1=3/\∃a,p.arrays[t.2]?=S a)\/t.1=4:=λ{s t}h=>by
  have j:=fI h;unfold bA at j;rcases D7.1 j with j|j
  .rcases D7.1 j with j|j
   .have:=Ki j;exact .inl ⟨this.2,this.1⟩
   .obtain⟨a,l,r⟩:=Kh j;exact .inr (.inl ⟨r,a,l⟩)
  .exact .inr (.inr (Kz j).1)
 refine⟨?_,λs O n hs r=>?_,λs n hs=>?_,λs n hs Q=>?_⟩
 .rw[rY p f w U Y,Kk V hf];rfl
 .rw[rY p f w U Y,hs]
  simp only[z8,A2];unfold bw at hs;cases hq:aP (bC f) s with
  |some t=>
    rw[hq]at hs;cases hs;have:=I hq;simp only at this;obtain⟨rfl,Z⟩:=this;simp only[wG,show ¬(1:Nat)=3 by decide,B8,B5];exact⟨⟨a6,a6,a6,a6⟩,trivial⟩
  |none=>
    rw[hq]at hs;simp only at hs;rcases E hs with⟨o,u⟩|⟨o,_⟩|o
    .simp only at o u
     subst o;simp only[wG,show ¬(2:Nat)=3 by decide,show ¬(2:Nat)=1 by decide,B8];exact⟨⟨a6,a6,a6,a6⟩,trivial⟩
    .simp only at o;omega
    .simp only at o;omega
 .rw[rY p f w U Y,hs]
  simp only[z8,A2];unfold bw at hs;cases hq:aP (bC f) s with
  |some t=>
    exact Wb
  |none=>
    rw[hq]at hs;simp only at hs;rcases E hs with⟨o,u⟩|⟨_,a,l⟩|o
    .simp only at o;omega
    .simp only at l
     simp only[wG,B5,wF,zA,l,z8,A2];have v:=q a (l5 l);have A:=uq p.arrays n a b l;exact⟨v.1,v.2,a6,a6,a6,a6⟩
    .simp only at o;omega
 .rw[rY p f w U Y,hs]
  simp only[z8,A2,wG,show ¬(4:Nat)=3 by decide,show ¬(4:Nat)=1 by decide,B8,R8];unfold bw at hs;cases hq:aP (bC f) s with
  |some t=>
    exact Wb
  |none=>
    rw[hq]at hs;simp only at hs;unfold bA at hs;rw[lX]at hs;cases c:aP (thV p.vars++thA p.arrays) s with
    |some t=>
      rw[c]at hs;cases hs;have j:=fI c;rcases D7.1 j with j|j
      .have:=(Ki j).2;omega
      .obtain⟨_,_,h⟩:=Kh j;omega
    |none=>
      rw[c]at hs;simp only at hs;unfold thF at hs
      have e:(p.funcs.mapIdx λi f=>((f.name,4,i):Th))=p.funcs.mapIdx λi f=>((f.name,4,0+i):Th):=by
       congr 1;funext i f;simp
      rw[e]at hs;obtain⟨m,g,e1,H,J⟩:=yd s p.funcs 0 n hs;obtain rfl:n=m:=a6;exact⟨g,H,J⟩
end
section
def qU{b:Type}{c:Nat->b->Bool}:∀{l:List b}{j k:Nat}{x:b},bE c j l=T->l[k]?=S x->c (j+k) x=T
 |[],j,k,x,_,h=>by simp at h
 |a::l,j,0,x,U,Y=>by
   simp at Y;subst Y;rw[bE,l4]at U;exact U.1
 |a::l,j,k+1,x,U,Y=>by
   rw[bE,l4]at U;have:=qU U.2 (k:=k) (x:=x) (by simpa using Y);rw[show j+(k+1)=j+1+k by omega];exact this
variable{p:Prog}
def BK(h:cW p=0):cD p=T/\jx p=0/\qX p=0:=by
 unfold cW at h;split at h
 .cases h
 .rename_i V
  split at h
  .rename_i a;exact absurd h a
  .rename_i a
   exact⟨by simpa using V,by simpa using a,h⟩
def BL(h:jx p=0)(hl:1<=z p.funcs):bW [] (bA p)=T/\bE (jY p) 0 p.funcs=T/\bE (zB p) 0 p.funcs=T:=by
 unfold jx at h;split at h
 .cases h
 .rename_i c
  have a:(bW [] (bA p)&&bE (jY p) 0 p.funcs)=T:=by simpa using c
  rw[l4]at a;split at h
  .rename_i b
   rw[List.getLast?_eq_none_iff]at b;rw[b]at hl;simp at hl
  .split at h
   .rename_i d;exact⟨a.1,a.2,d.1⟩
   .cases h
def RH(h:cW p=0){k:Nat}{x:CFn}(I:(au p).funcs[k]?=S x):rSs (au p).words (sigs p.funcs) k x.word 1 x.body:=by
 obtain⟨V,j,a⟩:=BK h;have hl:1<=z p.funcs:=by unfold cD at V;simp at V;exact V.1.1.1
 obtain⟨l,P,i⟩:=BL j hl;unfold au at I|-;simp only at I|-
 have m:k<z p.funcs:=by
  have:=(l8.1 I).1;rw[lG]at this;exact this
 obtain⟨f,c⟩:∃f,p.funcs[k]?=S f:=⟨_,y8 m⟩
 obtain⟨n,U,Y,r⟩:=nE (bB p).1 p.funcs (bB p).2 k f c;rw[I]at Y;cases Y;have d:=l5 c;have b:=qU P c;have e:=qU i c;rw[B9]at b e;unfold jY at b;rw[l4]at b;unfold zB at e
 have A:cI f=T:=by
  unfold cD at V;simp only[l4,x7]at V;exact V.2.2 f d
 have g:bg 1 f.body=T:=by
  unfold cI at A;simp only[l4]at A;exact A.2.2
 have bk:bF p.funcs f.word f.body=T:=by
  unfold qX at a;split at a
  .cases a
  .split at a
   .cases a
   .rename_i o
    have:(p.funcs.all λf=>bF p.funcs f.word f.body)=T:=by simpa using o
    rw[x7]at this;exact this f d
 have q:=Kl (p:=p) (f:=f) (k:=k) (w:=n) (W:=(eF (bB p).1 p.funcs (bB p).2).2) V l b.1 d U a6;unfold pE;simp only;have:=kP (w:=f.word) q f.body 1 g b.2 e bk;exact Um
end
end
section
open Go.Lower (cE cEs cAO qh cS cSs one pA kH leave mh ifC uJ codeOf)
mutual
def cnE:Lower.Ex->Nat
 |.mk _ _ _ _ _ kids=>qi kids+1
def qi:List Lower.Ex->Nat
 |[]=>0
 |e::l=>cnE e+qi l
end
mutual
def cnS:Lower.Stm->Nat
 |.mk _ _ _ e a el=>qi e+nZ a+nZ el+1
def nZ:List Lower.Stm->Nat
 |[]=>0
 |s::l=>cnS s+nZ l
end
mutual
theorem Km(o i:Pl):∀e:Ex,cnE (iP o i e)=szE e
 |.mk kind op num name kids=>by rw[iP,cnE,szE,tq o i kids]
theorem tq(o i:Pl):∀l:List Ex,qi (eM o i l)=aH l
 |[]=>by rw[eM,qi,aH]
 |e::l=>by rw[eM,qi,aH,Km o i e,tq o i l]
end
mutual
theorem Kn(o i:Pl):∀e:Stm,cnS (coreS o i e)=szS e
 |.mk kind name e a el=>by rw[coreS,cnS,szS,tq,pY o i a,pY o i el]
theorem pY(o i:Pl):∀l:List Stm,nZ (ej o i l)=aE l
 |[]=>by rw[ej,nZ,aE]
 |e::l=>by rw[ej,nZ,aE,Kn o i e,pY o i l]
end
def one_le{kind op num slot size d:Int}:z (Lower.one kind op num slot size d)<=1:=by
 unfold Lower.one
 repeat' split
 all_goals simp
def Ko{kind d:Int}:z (kH kind d)<=1:=by unfold kH;split<;>simp
mutual
theorem Kp:∀(e:Lower.Ex)(at':Nat)(d:Int),z (cE at' d e)<=6*cnE e
 |.mk kind op num slot size kids,at',d=>by
   rw[cE,cnE];split
   .exact RI kids at' d kind
   .rw[j4]
    have:=sZ kids at' d;have:=one_le (kind:=kind) (op:=op) (num:=num) (slot:=slot) (size:=size) (d:=d+z kids);omega
theorem sZ:∀(l:List Lower.Ex)(at':Nat)(d:Int),z (cEs at' d l)<=6*qi l
 |[],at',d=>by rw[cEs];simp
 |e::l,at',d=>by
   rw[cEs,qi,j4];have:=Kp e at' d;have:=sZ l (at'+z (cE at' d e)) (d+1);omega
theorem RI:∀(l:List Lower.Ex)(at':Nat)(d kind:Int),z (cAO at' d kind l)<=6*(qi l+1)
 |[],at',d,kind=>by rw[cAO];simp
 |e::l,at',d,kind=>by
   rw[cAO,qi];unfold pA;simp only[j4,j6,j7];have U:=Kp e at' d;have Y:=Fq l (at'+z (cE at' d e)+z (kH kind d)+3) d;have a:=Ko (kind:=kind) (d:=d);omega
theorem Fq:∀(l:List Lower.Ex)(at':Nat)(d:Int),z (qh at' d l)<=6*qi l
 |[],at',d=>by rw[qh];simp
 |e::l,at',d=>by
   rw[qh,qi];have:=Kp e at' d;omega
end
def BM{w:Bool}:z (leave w)<=2:=by unfold leave;split<;>simp
def Oa{w:Bool}{kind slot size:Int}{n:Nat}:z (uJ w kind slot size n)<=2:=by
 unfold uJ;have:=BM (w:=w)
 repeat' split
 all_goals first|assumption|simp
mutual
theorem Vv(w:Bool):∀(s:Lower.Stm)(at':Nat),z (cS w at' s)<=6*cnS s
 |.mk kind slot size e a el,at'=>by
   rw[cS,cnS];split
   .unfold mh
    simp only[j4,j6,j7];have U:=Fq e at' 0;have Y:=pg w a (at'+z (qh at' 0 e)+1);omega
   .rw[j4]
    have U:=sZ e at' 0;split
    .unfold ifC
     split
     .simp only[j4,j6,j7]
      have Y:=pg w a (at'+z (cEs at' 0 e)+1);have b:=pg w el (at'+z (cEs at' 0 e)+1+(cSs w (at'+z (cEs at' 0 e)+1) a).length+1);omega
     .simp only[j6]
      have Y:=pg w a (at'+z (cEs at' 0 e)+1);omega
    .have:=Oa (w:=w) (kind:=kind) (slot:=slot) (size:=size) (n:=z e)
     omega
theorem pg(w:Bool):∀(l:List Lower.Stm)(at':Nat),z (cSs w at' l)<=6*nZ l
 |[],at'=>by rw[cSs];simp
 |e::l,at'=>by
   rw[cSs,nZ,j4];have:=Vv w e at';have:=pg w l (at'+z (cS w at' e));omega
end
def SW(w:Bool)(l:List Lower.Stm):z (codeOf w l)<=6*nZ l+2:=by
 unfold codeOf;rw[j4];have:=pg w l 0;have:=BM (w:=w);omega
def Ob{b:Type}(f:b->Nat):∀{l:List b}{x:b},x∈l->f x<=(l.map f).sum
 |a::l,x,h=>by
   simp only[l9,D6];rcases y9.1 h with rfl|h
   .omega
   .have:=Ob f h;omega
def BN(o:Pl):∀(l:List Fn)(w:Int),((eF o l w).1.map λx=>nZ x.body).sum=(l.map λf=>aE f.body).sum
 |[],w=>rfl
 |f::l,w=>by
   simp only[eF,l9,D6,BN o l];unfold pE;simp only[pY]
end
end Go.Src
namespace Go.Proofs.YtednjibjomfhfaaGreatDoor.Low
section
open Go Go.Am Go.Lower
open Go.Src (cnE qi cnS nZ au cW)
mutual
theorem IT:∀e:Ex,mK e+1=cnE e
 |.mk _ _ _ _ _ kids=>by rw[mK,cnE,sU kids]
theorem sU:∀l:List Ex,iX l=qi l
 |[]=>by rw[iX,qi]
 |e::l=>by rw[iX,qi,<-IT e,sU l];omega
end
mutual
theorem IU:∀e:Stm,nP e+1=cnS e
 |.mk _ _ _ e a el=>by rw[nP,cnS,sU e,pS a,pS el]
theorem pS:∀l:List Stm,fp l=nZ l
 |[]=>by rw[fp,nZ]
 |e::l=>by rw[fp,nZ,<-IU e,pS l];omega
end
def ua(l:List Src.Fn):(l.map λf=>Src.aE f.body).sum<=(l.map λf=>z f.params+z f.locals+Src.aE f.body).sum:=by
 induction l with
 |nil=>exact l0 _
 |cons a l b=>simp only[l9,D6];omega
def MT{p:Src.Prog}(h:cW p=0)(bc:szP p<=1000000):aF Tryz.prog 31 [qq (au p)] (·=jt (au p).words (au p).funcs):=by
 unfold szP at bc;have bz:=Src.BN (Src.bB p).1 p.funcs (Src.bB p).2;have A:=ua p.funcs;have e:((au p).funcs.map λx=>nZ x.body).sum<=1000000:=by unfold au;simp only;omega
 refine QF (ps:=Src.sigs p.funcs) ?_ ?_ ?_ (λk x I=>Src.RH h I)
 .unfold xO
  rw[show (λx:Src.CFn=>fp x.body)=λx=>nZ x.body from funext λx=>pS x.body];omega
 .rw[Src.lG]
  omega
 .intro x I
  have U:=Src.SW x.word x.body;have Y:=Src.Ob (λx:Src.CFn=>nZ x.body) I;omega
end
section
open Go Go.Am Go.Lower
attribute[local congr]ite_cc
section
variable{x:Ins}
def AX{ps:Sig}{word:Bool}{r:Int×Int}(h:takes ps word x=S r):x.op=1\/x.op=2\/x.op=3\/x.op=4\/x.op=5\/x.op=6\/x.op=7\/x.op=8\/x.op=9\/x.op=10\/x.op=11\/x.op=12\/x.op=13:=by
 unfold takes at h;by_cases U:x.op=1\/x.op=2\/x.op=12
 .omega
 exact qo
def ksD(l:List Int):D:=.sl (l.map λk=>[.int .i64 k])
def QG{at':Nat}(A:at'<=1000000000):aF Tryz.prog 143 [.agg ((bQ x).map .d),iv .i64 at'] (·=.one (.d (ksD (next x at')))):=by
 refine hdP Tryz.func143 rfl [4] λg=>?_;obtain⟨op,a,b,n⟩:=x;have l:=ab (k:=at') a6;by_cases j:op=8
 .subst j
  simp only[go_sem,bQ];exact⟨_,⟨_,eG (s:=⟨_,_,_⟩) rfl [a] (λk=>[.int .i64 k]) (by simp only[upd];rfl) rfl (λ_ _ y i=>by simp at i;subst i;rfl) (λ_ _=>rfl) rfl,rfl⟩,rfl⟩
 by_cases c:op=9
 .subst c
  simp only[go_sem,bQ,l];exact⟨_,⟨_,eG (s:=⟨_,_,_⟩) rfl [((at'+1:Nat):Int),a] (λk=>[.int .i64 k]) (by simp only[upd];rfl) rfl (λ_ _ y i=>by simp at i;subst i;rfl) (λ_ _=>rfl) rfl,rfl⟩,rfl⟩
 by_cases W:op=11
 .subst W
  simp only[go_sem,bQ];rfl
 .simp only[go_sem,bQ,j,c,W,l]
  have e:next ⟨op,a,b,n⟩ at'=[((at'+1:Nat):Int)]:=by simp[next,j,c,W]
  rw[e];exact⟨_,⟨_,eG (s:=⟨_,_,_⟩) rfl [((at'+1:Nat):Int)] (λk=>[.int .i64 k]) (by simp only[upd];rfl) rfl (λ_ _ y i=>by simp at i;subst i;rfl) (λ_ _=>rfl) rfl,rfl⟩,rfl⟩
def MU(fs:List Src.CFn):Sig:=fs.map λx=>(x.params,x.word)
def uS(b:Bool):aF Tryz.prog 209 [bv b] (·=iv .i64 (if b then 1 else 0)):=by
 refine hdP Tryz.func209 rfl [2] λg=>?_;cases b<;>(simp only[go_sem])
def IV{w:Int}{fs:List Src.CFn}{f:Nat}{r:Src.CFn}(hf:fs[f]?=S r){t p d:Int}(h:takes (MU fs) r.word x=S (t,p))(B:0<=t)(c:t<=d)(hd:d<=1000000000)(W:x.op=11->d=t):
  aF Tryz.prog 142 [jt w fs,iv .i64 f,.agg ((bQ x).map .d),iv .i64 d] (·=.tup [iv .i64 (if x.op=11 then 0 else d-t+p),bv T]):=by
 refine hdP Tryz.func142 rfl [8,9] λg=>?_;have u:=AX h;obtain⟨op,a,b,n⟩:=x;have s:f<z fs:=(l8.1 hf).1;unfold jt;simp only at u W;have j:IntKind.i64.wrap (d-t)=d-t:=by rw[wrap_i64]<;>omega
 have e:IntKind.i64.wrap (d-t+0)=d-t+0:=by rw[wrap_i64]<;>omega
 have i:IntKind.i64.wrap (d-t+1)=d-t+1:=by rw[wrap_i64]<;>omega
 rcases u with rfl|rfl|rfl|rfl|rfl|rfl|rfl|rfl|rfl|rfl|rfl|rfl|rfl
 all_goals try (obtain⟨rfl,rfl⟩:_=t/\_=p:=by simpa[takes]using h)
 .simp only[go_sem,bQ,j,e,i,c]
 .simp only[go_sem,bQ,j,e,i,c]
 .simp only[go_sem,bQ,j,e,i,c]
 .simp only[go_sem,bQ,j,e,i,c]
 .simp only[go_sem,bQ,j,e,i,c]
 .simp only[go_sem,bQ,j,e,i,c]
 .simp only[go_sem,bQ,j,e,i,c]
 .simp only[go_sem,bQ,j,e,i,c]
 .simp only[go_sem,bQ,j,e,i,c]
 .by_cases m:a<0
  .simp[takes,m]at h
  .obtain⟨k,rfl⟩:∃k:Nat,a=(k:Int):=⟨a.toNat,a6⟩
   simp only[takes,MU,m,B8,B6,y7,Option.map_map]at h;cases l:fs[k]? with
   |none=>simp[l]at h
   |some y=>
     have b1:k<z fs:=(l8.1 l).1;have P:¬z fs<=k:=a6;have o:(k:Int)<(z fs:Int):=a6;have q:¬(z fs:Int)<=(k:Int):=a6;have an:(0:Int)<=(k:Int):=a6;cases hw:y.word with
     |false=>
       obtain⟨rfl,rfl⟩:y.params=t/\(0:Int)=p:=by simpa[l,hw]using h
       have bl:¬y.params<0:=a6;simp only[go_sem,bQ,l,b1,P,o,q,an,m,hw,sfD,j5,bl];refine dC aR mixed b9 ?_;simp only[go_sem,bQ,l,b1,P,o,q,an,m,hw,sfD,j5,bl];refine bm rfl (uS F) (cC rfl) rfl ?_;simp only[go_sem,bQ,l,b1,P,o,q,an,m,hw,sfD,j5,bl,j,e,c,A3]
     |true=>
       obtain⟨rfl,rfl⟩:y.params=t/\(1:Int)=p:=by simpa[l,hw]using h
       have bl:¬y.params<0:=a6;simp only[go_sem,bQ,l,b1,P,o,q,an,m,hw,sfD,j5,bl];refine dC aR mixed b9 ?_;simp only[go_sem,bQ,l,b1,P,o,q,an,m,hw,sfD,j5,bl];refine bm rfl (uS T) (cC rfl) rfl ?_;simp only[go_sem,bQ,l,b1,P,o,q,an,m,hw,sfD,j5,bl,j,i,c]
 .have v:=W rfl
  have A:(0:Int)<=(f:Int):=a6;have bc:(f:Int)<(z fs:Int):=a6;cases hw:r.word with
  |false=>
    obtain⟨rfl,rfl⟩:(0:Int)=t/\(0:Int)=p:=by simpa[takes,hw]using h
    simp only[go_sem,bQ,hf,A,bc,s,sfD,j5,hw];refine fY rfl (uS F) c9 ?_;rintro _ rfl;simp only[go_sem,s9 v,A3]
  |true=>
    obtain⟨rfl,rfl⟩:(1:Int)=t/\(0:Int)=p:=by simpa[takes,hw]using h
    simp only[go_sem,bQ,hf,A,bc,s,sfD,j5,hw];refine fY rfl (uS T) c9 ?_;rintro _ rfl;simp only[go_sem,s9 v]
 .simp only[go_sem,bQ,j,e,i,c]
 .simp only[go_sem,bQ,j,e,i,c]
end
section
def icells(l:List Int):List C:=l.map λk=>.d (.int .i64 k)
def cO(l:List Int):z (icells l)=z l:=by simp[icells]
def iY(l:List Int)(k:Nat):(icells l)[k]?=(l[k]?).map λk=>.d (.int .i64 k):=by simp[icells]
def iZ(l:List Int)(k:Nat)(v:Int):(icells l).set k (.d (.int .i64 v))=icells (l.set k v):=by simp[icells,P9]
def lB(a b:List Int):icells (a++b)=icells a++icells b:=by simp[icells]
structure ub (G D:Nat) (l:List Int) (g:Nat->Nat) (ob:Obs):Prop where
 t:ob G=some [.osl D (g D) 1 0 l.length]
 d:∃r:List Int,ob D=some (icells (l++r))
variable{l:List Int}{B G D:Nat}{g:Nat->Nat}{ob:Obs}{P:Nat}
def QH(hB:∀i,B<=i->ob i=N)(hT:G<B)(h:ub G D l g ob)(E:g G=P):
  fv Tryz.prog 140 [.one (.ptr G P 0)] g ob (λr g' Z=>g'=g/\Z=ob/\r=iv .i64 (z l)) (λ_ _ _=>False):=by
 refine hdM B [] Tryz.func140 rfl [.tmp 2] a8 hB λO bo s0 w0=>?_;obtain⟨U,r,Y⟩:=h;simp only[go_sem,U,Y,E,cO,j4];refine⟨_,ae.refl _,?_⟩;simp only[go_sem];exact bD.nil (λi a=>⟨rfl,rfl⟩) (q:=[iv .i64 (z l)]) ⟨_,_,rfl,.one (.d _),rfl⟩ ⟨rfl,rfl,rfl⟩
def Dp{B:Nat}:∀c∈icells l,nX B c:=λc a=>by
 obtain⟨x,_,rfl⟩:=G3.1 a;trivial
def IW{x:Int}(hB:∀i,B<=i->ob i=N)(hT:G<B)(W:D<B)(a:G≠D)(h:ub G D l g ob)(E:g G=P)(hl:z l<=1000000000):
  fv Tryz.prog 139 [.one (.ptr G P 0),iv .i64 x] g ob (λ_ g' Z=>ub G D (l++[x]) g' Z/\(∀i,i≠D->g' i=g i)/\∀i,i≠G->i≠D->Z i=ob i) (λ_ _ _=>False):=by
 refine hdM B [G,D] Tryz.func139 rfl [] Wk hB λO bo s0 w0=>?_;obtain⟨U,r,Y⟩:=h;have Q:∀k,(G=B+k)=False:=λk=>by simp;omega
 have m:∀k,(D=B+k)=False:=λk=>by simp;omega
 have n:(G=D)=False:=by simp[a]
 have w:(D=G)=False:=by simp[A9 a]
 simp only[go_sem,Q,m,n,w,U,Y,E,cO,j4,aZ];refine⟨a6,⟨a7,a6⟩,?_⟩;refine⟨_,ae.refl _,?_⟩;simp only[go_sem];refine⟨⟨λi hi hn=>?_,λi hi d b=>?_⟩,[],rfl,⟨?_,?_⟩,λi hi=>?_,λi hi y=>?_⟩
 .exact VV
 .simp only[y9,A4,E7]at hi
  rcases hi with rfl|rfl
  .simp[upd]at b
   subst b;intro c b;rw[C6.1 b];exact W
  .simp[upd,w]at b
   subst b;intro c b;rcases D7.1 b with b|b
   .exact Dp c (N0 b)
   .rw[C6.1 b];trivial
 .simp[jT,fM,upd]
 .refine⟨[],?_⟩
  simp[fM,upd,w];rw[lB];simp[icells]
 .exact Ud
 .unfold fM
  rw[j8 (by simp[hi,y])]
def UT{x:Int}(hB:∀i,B<=i->ob i=N)(hT:G<B)(W:D<B)(a:G≠D)(h:ub G D (l++[x]) g ob)(E:g G=P)(hl:z l<=1000000000):
  fv Tryz.prog 141 [.one (.ptr G P 0)] g ob (λr g' Z=>r=iv .i64 x/\ub G D l g' Z/\g'=g/\∀i,i≠G->Z i=ob i) (λ_ _ _=>False):=by
 refine hdM B [G] Tryz.func141 rfl [.tmp 2] Wk hB λO bo s0 w0=>?_;obtain⟨U,r,Y⟩:=h;have Q:∀k,(G=B+k)=False:=λk=>by simp;omega
 have o:(G=D)=False:=by simp[a]
 have w:(D=G)=False:=by simp[A9 a]
 have q:z (l++[x])=z l+1:=a8;rw[q]at U;have s:IntKind.i64.wrap (((z l+1:Nat):Int)-1)=(z l:Int):=by rw[wrap_i64]<;>omega
 have t:(l++[x]++r)[z l]?=S x:=a8;have u:(0:Int)<=(z l:Int):=a6;simp only[go_sem,Q,o,w,U,Y,E,cO,j4,s,iY,t,u];refine⟨a6,a6,a6,?_⟩;refine⟨_,ae.refl _,?_⟩;simp only[go_sem];refine⟨⟨λi b hn=>?_,λi b n m=>?_⟩,[iv .i64 x],⟨_,_,rfl,.one (.d _),rfl⟩,rfl,⟨?_,x::r,?_⟩,yY (λi b=>rfl),λi b=>?_⟩
 .have U:i≠G:=λe=>hn Yj
  exact⟨nu,nu⟩
 .simp only[y9,A4,E7]at b
  subst b;simp[upd]at m;subst m;intro c m;rw[C6.1 m];exact W
 .rw[yY (λi b=>rfl)]
  simp[fM,upd]
 .simp only[fM,y9,A4,E7,w,B8]
  rw[Y];simp
 .simp[fM,b]
end
end
end Go.Proofs.YtednjibjomfhfaaGreatDoor.Low
namespace Go.Emit
section
open Go.Lower (Ins Code codeOf takes next Inv left)
section
def visit(A:Lower.Code):List Int->List Int×List Nat->List Int×List Nat
 |[],st=>st
 |y::l,st=>visit A l (if (st.1[y.toNat]?.getD 0)<0 then(st.1.set y.toNat (((A[y.toNat]?).map Prod.snd).getD 0),st.2++[y.toNat])else st)
def search(A:Lower.Code):Nat->List Int×List Nat->List Int
 |0,st=>st.1
 |n+1,st=>match st.2.getLast? with
   |none=>st.1
   |some a=>match A[a]? with
     |none=>st.1
     |some x=>search A n (visit A (next x.1 a) (st.1,st.2.dropLast))
def mJ(A:Lower.Code):List Int:=search A (z A) ((List.replicate (z A) (-1)).set 0 0,[0])
def CY(A:Lower.Code)(n:Nat)(out:List Int):search A n (out,[])=out:=by cases n<;>rfl
def Ax(A:Lower.Code)(n:Nat)(out:List Int)(c:List Nat)(a:Nat){x:Ins×Int}(h:A[a]?=S x):search A (n+1) (out,c++[a])=search A n (visit A (next x.1 a) (out,c)):=by
 simp only[search,List.getLast?_append,List.getLast?_singleton,Option.some_or,h,List.dropLast_concat]
variable{l:List Int}{out:List Int}{c:List Nat}
def vE{A:Lower.Code}{y:Int}{u d:Int}(h:out[y.toNat]?=S u)(a:u<0)(hd:(A[y.toNat]?).map Prod.snd=S d):visit A (y::l) (out,c)=visit A l (out.set y.toNat d,c++[y.toNat]):=by
 simp only[visit,h,hd,A2,a,B5]
def vF{A:Lower.Code}{y:Int}{u:Int}(h:out[y.toNat]?=S u)(a:¬u<0):visit A (y::l) (out,c)=visit A l (out,c):=by
 simp only[visit,h,A2,a,B8]
def deepest(l:List Int)(d:Int):Int:=l.foldl max d
def yL(a:Int)(l:List Int)(d:Int):deepest (a::l) d=deepest l (max d a):=rfl
def js(n:Nat):Nat->List (List Int)->Int->List Int×List Int×Int
 |_,[],w=>([],[],w)
 |k,o::l,w=>
   let b:=if k+1=n then w else w+1
   let r:=js n (k+1) l (b+deepest o 0)
   (w::r.1,b::r.2.1,r.2.2)
structure Plan where
 depths:List (List Int)
 back:List Int
 base:List Int
 data:Int
def yM(w:Int)(fs:List Src.CFn):Plan:=
 let ds:=fs.map λx=>mJ (codeOf x.word x.body)
 let r:=js (z fs) 0 ds w
 ⟨ds,r.1,r.2.1,r.2.2⟩
def Ay(n:Nat):∀(l:List (List Int))(k:Nat)(w:Int)(o:List Int),js n k (l++[o]) w =
  let r:=js n k l w
  let b:=if k+z l+1=n then r.2.2 else r.2.2+1
  (r.1++[r.2.2],r.2.1++[b],b+deepest o 0)
 |[],k,w,o=>by simp[js]
 |a::l,k,w,o=>by
   simp only[u7,js,Ay n l,j6];rw[show k+1+z l+1=k+(z l+1)+1 by omega]
def vG(n:Nat):∀(l:List (List Int))(k:Nat)(w:Int),z (js n k l w).1=z l/\z (js n k l w).2.1=z l
 |[],k,w=>by simp[js]
 |a::l,k,w=>by
   simp only[js,j6];exact⟨by rw[(vG n l _ _).1],by rw[(vG n l _ _).2]⟩
abbrev MI:=Int×Int×Int×Int
abbrev Ho:=Int×Int×Int
structure Wr where
 code:List MI
 holes:List Ho
def fQ:Nat->Wr:=λ_=>⟨[],[]⟩
def ao(op a b c:Int):Nat->Wr:=λ_=>⟨[(op,a,b,c)],[]⟩
def ax(op a f pl:Int):Nat->Wr:=λn=>⟨[(op,a,0,0)],[((n:Int),f,pl)]⟩
def aw(x y:Nat->Wr):Nat->Wr:=λn=>⟨(x n).code++(y (n+z (x n).code)).code,(x n).holes++(y (n+z (x n).code)).holes⟩
def sJ:List (Nat->Wr)->Nat->Wr
 |[]=>fQ
 |[x]=>x
 |x::y::l=>aw x (sJ (y::l))
def lR(P:Plan)(f:Nat)(V reg a:Int):Nat->Wr:=ao 16 reg 0 ((P.base[f]?).getD 0+V-a)
def nk(P:Plan)(f:Nat)(V reg a:Int):Nat->Wr:=ao 17 reg 0 ((P.base[f]?).getD 0+V-a)
def hi16(n:Int):Int:=(n/65536+9223372036854775808)%18446744073709551616-9223372036854775808
def yN(reg n:Int):Nat->Wr:=if 65535<n then aw (ao 1 reg 0 (n%65536)) (ao 2 reg 0 (hi16 n))else ao 1 reg 0 (n%65536)
def yO(fs:List Src.CFn)(P:Plan)(f:Nat)(V:Int):Nat->Wr:=
 if f+1=z fs then ao 26 0 0 0
 else
  let back:=aw (ao 16 14 0 ((P.back[f]?).getD 0)) (ao 22 14 0 0)
  if ((fs[f]?).map (·.word)).getD F then aw (lR P f V 1 1) back else back
def yP(a:Int):Nat->Nat->Wr
 |0=>fQ
 |k+1=>aw (yP a k) (ao 17 0 0 (a+k))
def yQ(a b:Int):Nat->Wr:=
 if b-a<=6 then yP a (b-a).toNat
 else λn=>⟨[(1,1,0,a),(1,2,0,b),(17,0,1,0),(4,1,1,15),(14,3,1,2),(20,3,0,(n:Int)+2)],[]⟩
def HR(P:Plan)(f:Nat)(V params first:Int):Nat->Nat->Wr
 |0=>fQ
 |k+1=>aw (HR P f V params first k) (aw (lR P f V 1 (params-k)) (ao 17 1 0 (first+k)))
def Es(fs:List Src.CFn)(P:Plan)(f:Nat)(V a:Int):Nat->Wr:=
 match fs[a.toNat]? with
 |none=>fQ
 |some y=>aw (HR P f V y.params y.first y.params.toNat) (aw (ax 21 14 a (-1)) (if y.word then nk P f V 1 y.params else fQ))
def xd(fs:List Src.CFn)(P:Plan)(f:Nat)(V:Int)(x:Ins):Nat->Wr:=
 if x.op=1 then aw (yN 1 x.n) (nk P f V 1 0)
 else if x.op=2 then aw (ao 16 1 0 x.a) (nk P f V 1 0)
 else if x.op=3 then aw (lR P f V 1 1) (ao 17 1 0 x.a)
 else if x.op=4 then aw (lR P f V 1 1) (aw (ao 25 1 0 x.b) (aw (ao 16 1 1 x.a) (nk P f V 1 1)))
 else if x.op=5 then aw (lR P f V 1 2) (aw (ao 25 1 0 x.b) (aw (lR P f V 2 1) (ao 17 2 1 x.a)))
 else if x.op=6 then aw (lR P f V 1 2) (aw (lR P f V 2 1) (aw (ao x.a 1 1 2) (nk P f V 1 2)))
 else if x.op=7 then aw (lR P f V 1 1) (aw (ao 15 1 1 0) (nk P f V 1 1))
 else if x.op=8 then ax 18 0 f x.a
 else if x.op=9 then aw (lR P f V 1 1) (ax 19 1 f x.a)
 else if x.op=10 then Es fs P f V x.a
 else if x.op=11 then yO fs P f V
 else if x.op=12 then aw (ao 23 1 0 0) (nk P f V 1 0)
 else if x.op=13 then aw (lR P f V 1 1) (ao 24 1 0 0)
 else fQ
def HS(fs:List Src.CFn)(P:Plan)(f:Nat):Nat->Wr:=
 if f+1=z fs then fQ
 else match fs[f]? with
  |none=>fQ
  |some y=>aw (ao 17 14 0 ((P.back[f]?).getD 0)) (yQ (y.first+y.params) (y.first+y.slots))
def tZ(fs:List Src.CFn)(P:Plan)(f:Nat)(A:Lower.Code)(ds:List Int):Nat->Nat->Wr
 |0=>HS fs P f
 | k+1=>aw (tZ fs P f A ds k) (match A[k]?,ds[k]? with
   |some x,S d=>if 0<=d then xd fs P f d x.1 else fQ
   | _,_=>fQ)
def placesOf(fs:List Src.CFn)(P:Plan)(f:Nat)(A:Lower.Code)(ds:List Int)(n:Nat):List Int:=
 (List.range (z A)).map λk=>((n+z (tZ fs P f A ds k n).code:Nat):Int)
structure jV where
 code:List MI
 holes:List Ho
 ent:List Int
 pls:List (List Int)
def gp(fs:List Src.CFn)(P:Plan)(d:jV)(f:Nat):jV:=
 match fs[f]?,P.depths[f]? with
 |some y,S ds=>
   let A:=codeOf y.word y.body
   let w:=tZ fs P f A ds (z A) (z d.code)
   ⟨d.code++w.code,d.holes++w.holes,d.ent.set f (z d.code),d.pls.set f (placesOf fs P f A ds (z d.code))⟩
 |_,_=>d
def start(fs:List Src.CFn)(P:Plan):jV:=gp fs P ⟨[(1,15,0,1)],[],List.replicate (z fs) 0,List.replicate (z fs) []⟩ (z fs-1)
def PY(fs:List Src.CFn)(P:Plan):Nat->jV
 |0=>start fs P
 |k+1=>gp fs P (PY fs P k) k
def whole(fs:List Src.CFn)(P:Plan):jV:=PY fs P (z fs-1)
def place(d:jV)(h:Ho):Int:=if 0<=h.2.2 then(((d.pls[h.2.1.toNat]?).getD [])[h.2.2.toNat]?).getD 0 else(d.ent[h.2.1.toNat]?).getD 0
def fill(d:jV)(code:List MI)(h:Ho):List MI:=
 match code[h.1.toNat]? with
 |some x=>code.set h.1.toNat (x.1,x.2.1,x.2.2.1,place d h)
 |none=>code
def filled(d:jV):List MI:=d.holes.foldl (fill d) d.code
end
end
end Go.Emit

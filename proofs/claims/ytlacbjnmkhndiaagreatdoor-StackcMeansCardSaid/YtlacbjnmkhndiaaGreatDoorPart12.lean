/- A part of the proof; no conditions. -/
import Derived.Test.YtlacbjnmkhndiaaGreatDoorPart11
set_option linter.unusedSimpArgs false
set_option linter.unusedVariables false
set_option linter.defProp false
open List renaming length -> z
open Option renaming some -> S, none -> N
open Bool renaming true -> T, false -> F
set_option maxHeartbeats 64000000
set_option maxRecDepth 100000
namespace Go.Proofs.YtlacbjnmkhndiaaGreatDoor
section
open Go Go.Am Go.Asm
open Go.Src (Ex Stm szE bc szS aD Pl jx bV di aU coreS bA kO kP)
attribute[local congr]ite_cc
section
mutual
def cxD:Lower.Ex->List D
 |.mk kind op num slot size kids=>[.int .i64 kind,.int .i64 op,.int .u32 num,.int .i64 slot,.int .i64 size,.sl (xt kids)]
def xt:List Lower.Ex->List (List D)
 |[]=>[]
 |e::l=>cxD e::xt l
end
def nH:∀l:List Lower.Ex,xt l=l.map cxD
 |[]=>by simp[xt]
 |e::l=>by simp[xt,nH l]
def CG(e:Lower.Ex):z (cxD e)=6:=by cases e;simp[cxD]
mutual
def csD:Lower.Stm->List D
 |.mk kind slot size e a el=>[.int .i64 kind,.int .i64 slot,.int .i64 size,.sl (xt e),.sl (pL a),.sl (pL el)]
def pL:List Lower.Stm->List (List D)
 |[]=>[]
 |e::l=>csD e::pL l
end
def nJ:∀l:List Lower.Stm,pL l=l.map csD
 |[]=>by simp[pL]
 |e::l=>by simp[pL,nJ l]
def CH(e:Lower.Stm):z (csD e)=6:=by cases e;simp[csD]
def vx(l:List Lower.Ex):AV:=.one (.d (.sl (l.map cxD)))
def rI(l:List Lower.Stm):AV:=.one (.d (.sl (l.map csD)))
def plD(t:Int×Int):List D:=[.int .i64 t.1,.int .i64 t.2]
def qC(M:List C)(m:Pl):Prop:=∀s:Str,mget M (.str s)=(jx m s).map λt=>.d (.iptr (plD t))
def qC.put{M:List C}{m:Pl}(h:qC M m)(a:Str)(t:Int×Int):qC (mset M (.str a) (.d (.iptr (plD t)))) ((a,t)::m):=λs=>by
 rw[og];simp only[jT,jx];by_cases b:a=s
 .subst b
  simp
 .simp only[b,L2,D7,A8]
  exact h s
structure GX (H li:Pl) (io ii go gi:Nat) (g:Nat->Nat) (ob:Obs):Prop where
 mo:∃M,ob io=some M/\qC M H
 mi:∃M,ob ii=some M/\qC M li
 go:g io=go
 gi:g ii=gi
def GX.mono{H li:Pl}{io ii go gi B:Nat}{g g':Nat->Nat}{ob Y:Obs}(h:GX H li io ii go gi g ob)(ho:io<B)(hi:ii<B)(a:∀i,i<B->g' i=g i/\Y i=ob i):GX H li io ii go gi g' Y where
 mo:=by rw[(a io ho).2];exact h.mo
 mi:=by rw[(a ii hi).2];exact h.mi
 go:=by rw[(a io ho).1];exact h.go
 gi:=by rw[(a ii hi).1];exact h.gi
def sO(io ii go gi:Nat):AV:=.agg [.mp io go 208,.mp ii gi 208]
def CI(H li:Pl)(io ii go gi:Nat)(f:FuncId)(xs:List AV)(r:AV):Prop:=∀(B:Nat)(g:Nat->Nat)(ob:Obs),io<B->ii<B->(∀i,B<=i->ob i=N)->GX H li io ii go gi g ob->
 cM Tryz.prog f (sO io ii go gi::xs) g ob (λq a Y=>a=g/\Y=ob/\q=r) (λ_ _ _=>False)
section
variable{O:Bs}{rd:Option Nat}{n:St->Am.Loc->List Deferred->World->Prop}
def pM{c:ff}{d:Nat}(a6:aY O n){o:Oper}{s:St}{K:St->Prop}{k:Box K}{f:FuncId}{args:Array Operand}{tys:Array TypeId}(ho:o.op=.call ⟨.value (.func f),args,tys⟩){xs:List AV}{r:AV}{H li:Pl}{io ii go gi:Nat}
 (V:CI H li io ii go gi f xs r)(I:args.toList.map s.ev=sO io ii go gi::xs)(b:Nat)(U:io<b)(e:ii<b)(bk:∀i,b<=i->s.obj i=N)(E:GX H li io ii go gi s.gen s.obj)(j:K (s.put o.dst r)):bm (spF Tryz.prog rd O n d c) o s k:=by
 refine cj (R:=λq a Y=>a=s.gen/\Y=s.obj/\q=r) (L:=λ_ _ _=>False) a6 ho (by rw[I];exact V b s.gen s.obj U e bk E) (λ_ _ _ h=>h.elim) ?_;rintro _ a Y ⟨rfl,rfl,rfl⟩;exact j
end
section
variable{H li:Pl}{io ii go gi:Nat}
def GY(e:Str):CI H li io ii go gi 70 [sv e] (.agg ((plD (bV H li e)).map .d)):=by
 intro B g ob U r hB E;obtain⟨⟨q,l,mo⟩,⟨u,oi,mi⟩,bk,an⟩:=E;unfold sO;refine hdM B [] Tryz.func70 rfl [.cell 4 103] a8 hB λO bn s0 w0=>?_;have n1:∀k,(io=B+k)=False:=λk=>by simp;omega
 have n2:∀k,(ii=B+k)=False:=λk=>by simp;omega
 have a:=mi e;have v:=mo e;unfold bV;cases j:jx li e with
 |some t=>
   rw[j]at a;simp only[z7,plD]at a;simp only[go_sem,n1,n2,an,oi,D8,C6,a];exact Mo
 |none=>
   rw[j]at a;simp only[H4]at a;cases b:jx H e with
   |some t=>
     rw[b]at v;simp only[z7,plD]at v;simp only[go_sem,n1,n2,an,bk,oi,D8,C6,a,l,v];exact Mo
   |none=>
     rw[b]at v;simp only[H4]at v;simp only[go_sem,n1,n2,an,bk,oi,D8,C6,a,l,v];refine⟨_,ae.refl _,?_⟩;simp only[go_sem,n1,n2];exact bi.nil (λi hi=>⟨nu,nu⟩) (o:=[.agg ((plD (0,0)).map .d)]) ⟨_,_,rfl,Ec (plD (0,0)),rfl⟩ ⟨rfl,rfl,rfl⟩
def cxC(l:List Lower.Ex):List C:=l.flatMap λa=>(cxD a).map .d
def Ko(l:List Lower.Ex):z (cxC l)=z l*6:=by
 induction l with
 |nil=>rfl
 |cons a l b=>simp only[cxC,G2,j7,j6,CG,j9]at b|-;omega
def Kq(l m:List Lower.Ex):cxC (l++m)=cxC l++cxC m:=by simp[cxC]
def Kr(e:Lower.Ex):cxC [e]=(cxD e).map .d:=by simp[cxC]
def csC(l:List Lower.Stm):List C:=l.flatMap λa=>(csD a).map .d
def Kt(l:List Lower.Stm):z (csC l)=z l*6:=by
 induction l with
 |nil=>rfl
 |cons a l b=>simp only[csC,G2,j7,j6,CH,j9]at b|-;omega
def Ku(l m:List Lower.Stm):csC (l++m)=csC l++csC m:=by simp[csC]
def Kv(e:Lower.Stm):csC [e]=(csD e).map .d:=by simp[csC]
def wi{A β:Type}{f:A->β}{l:List A}{k:Nat}{x:A}(h:l[k]?=S x):(l.take (k+1)).map f=(l.take k).map f++[f x]:=by
 rw[D0,h,J3,B5];rfl
def Kw:∀(al:Nat)(l:List Ex),bc l<=al->al<=1000000000->CI H li io ii go gi 71 [eb l] (vx (aU H li l)):=by
 intro al
 induction al using Nat.strongRecOn with
 |ind al ih=>
 intro l b3 hN B g ob U Z hB E;rw[kO];unfold sO;refine hdM B [] Tryz.func71 rfl [.tmp 4] a8 hB λO bn s0 w0=>?_;have bl:=Src.IF l;unfold eb;simp only[go_sem,j6]
 refine lK _ (oe (t:=5) (id:=B+36) (sz:=6) Vy) (λm K=>∃k:Nat,m+k=z l/\K.f 2=.one (.ptr (B+2) (K.gen (B+2)) 0)/\K.f 5=.one (.osl (B+36) (K.gen (B+36)) 6 0 k)/\K.f 9=.one (.d (.sl (l.map exD)))/\K.f 10=iv .i64 (z l)/\K.f 11=iv .i64 k/\
   K.obj (B+2)=S [.mp io go 208,.mp ii gi 208]/\K.obj (B+36)=S (cxC ((l.take k).map (di H li)))/\(∀j,j<B->K.gen j=g j/\K.obj j=ob j)/\(∀j,B+39<=j->K.obj j=N)) (z l) ?_ ?_
 .exact S9
 rintro m f g1 av ⟨k,hk,q2,I,W,A,q,o2,b,fr,ar⟩;simp only at q2 I W A q o2 b fr ar;have hw:=ac (k:=k) a7;by_cases af:k<z l
 case neg=>
  have Q:¬(k:Int)<(z l:Int):=a7;obtain rfl:k=z l:=a7;rw[s6 (l7 _)]at b;simp only[go_sem,I,A,q,Q];refine⟨_,ae.refl _,?_⟩;simp only[go_sem,I];exact bi.nil fr (o:=[vx (l.map (di H li))]) ⟨_,_,rfl,.one (js a7 rfl (l.map (di H li)) cxD b rfl (λa _=>CG a) (by rw[j6])),rfl⟩ ⟨rfl,rfl,rfl⟩
 have Q:(k:Int)<(z l:Int):=a7;have bf:(0:Int)<=(k:Int):=a7;obtain⟨e,he⟩:=getq af;have an:=Src.LU (l6 he);obtain⟨kind,op,num,name,u⟩:=e;rw[szE]at an;have hE:exD (.mk kind op num name u)=[.int .i64 kind,.int .i64 op,.int .u32 num,.str name,.sl (u.map exD)]:=by simp only[exD,aK]
 have c:=ih (bc u) a7 u (l7 _) a7;simp only[go_sem,q2,I,W,A,q,o2,Q,bf,he,hE];refine pM aa rfl (GY name) (by simp only[go_sem,sO]) (B+39) a7 a7 (λi hi=>nt (ar i a7)) ((E.mono U Z fr).mono U Z λi hi=>⟨nu,nu⟩) ?_;obtain⟨ps,bz⟩:∃x,bV H li name=x:=⟨_,rfl⟩
 rw[bz];have r:di H li (.mk kind op num name u)=.mk kind op num ps.1 ps.2 (aU H li u):=by rw[di,bz]
 unfold plD;simp only[go_sem];refine bY aA mixed aa [B+35,B+36] [([5],[0],[],F),([7],[],[],F),([20],[],[],F),([7],[],[],F),([22],[],[],F),([7],[],[],F),([24],[],[],F),([8],[],[],F),([26],[],[],F),([8],[],[],F),([28],[],[],F),([2],[],[],F),([7],[],[],F),([31],[],[],F),([30,32],[],[],F),([21,23,25,27,29,33],[],[],F),([34],[],[0],F),([19,35],[],[1],F),([36],[],[],T)] 2 rfl c8 rfl a8 ?_;simp only[go_sem]
 iterate 10 (apply aj;(case hg=>first|exact x9|exact⟨_,rfl,by decide,rfl⟩);(case U=>intro L ga V K' J;simp only[go_sem,q2,I,o2]at J|-;exact J))
 iterate 4 (apply aj;(case hg=>first|exact x9|exact⟨_,rfl,by decide,rfl⟩);(case U=>intro L ga V K' J;simp only[go_sem,q2,I,o2]at J|-;exact J))
 apply aj (v:=vx (aU H li u))
 case hg=>exact x9
 case U=>
  intro L ga V K' J;simp only[go_sem,vx]at J|-;refine pM aa rfl c WM (B+39) a7 a7 (λi hi=>nt (ar i a7)) ((E.mono U Z fr).mono U Z λi hi=>⟨nu,nu⟩) ?_;unfold vx;exact nn
 (apply aj;(case hg=>first|exact x9|exact⟨_,rfl,by decide,rfl⟩);(case U=>intro L ga V K' J;simp only[go_sem,vx]at J|-;exact J))
 (apply bF;(case hg=>first|exact x9|exact⟨_,rfl,by decide,rfl⟩);(case U=>intro L ga V K' J;simp only[go_sem,aW]at J|-;exact J))
 have b0:=Ko ((l.take k).map (di H li));have Y:z ((l.take k).map (di H li))=k:=by rw[j6,D1];omega
 rw[Y]at b0;refine bF (a:=1) (v:=.one (.osl (B+36) (nxC (apC 213 (g1 (B+36)) 0) (g1 (B+36))) 6 0 (k+1))) (x:=nxC (apC 213 (g1 (B+36)) 0) (g1 (B+36))) (y:=S (cxC ((l.take k).map (di H li)++[di H li (.mk kind op num name u)]))) x9 (λL ga V K' J=>?_) ?_
 .have e1:List.take (k*6) (cxC ((l.take k).map (di H li)))++(cxD (di H li (.mk kind op num name u))).map .d=cxC ((l.take k).map (di H li)++[di H li (.mk kind op num name u)]):=by
   rw[s6 a7,Kq,Kr]
  rw[r]at e1;simp only[cxD,nH,l9,w9]at e1;rw[r]at J;simp only[go_sem,aW,b,b0]at J|-;exact U2
 exact sT
end
end
section
section
variable{H li:Pl}{io ii go gi:Nat}
def Kx:∀(al:Nat)(l:List Stm),aD l<=al->al<=1000000000->CI H li io ii go gi 45 [eS l] (rI (bA H li l)):=by
 intro al
 induction al using Nat.strongRecOn with
 |ind al ih=>
 intro l b3 hN B g ob U V hB E;rw[kP];unfold sO;refine hdM B [] Tryz.func45 rfl [.tmp 4] a8 hB λO bn s0 w0=>?_;have bl:=Src.IG l;unfold eS;simp only[go_sem,j6]
 refine lK _ (oe (t:=5) (id:=B+40) (sz:=6) Vy) (λm K=>∃k:Nat,m+k=z l/\K.f 2=.one (.ptr (B+2) (K.gen (B+2)) 0)/\K.f 5=.one (.osl (B+40) (K.gen (B+40)) 6 0 k)/\K.f 9=.one (.d (.sl (l.map smD)))/\K.f 10=iv .i64 (z l)/\K.f 11=iv .i64 k/\
   K.obj (B+2)=S [.mp io go 208,.mp ii gi 208]/\K.obj (B+40)=S (csC ((l.take k).map (coreS H li)))/\(∀j,j<B->K.gen j=g j/\K.obj j=ob j)/\(∀j,B+43<=j->K.obj j=N)) (z l) ?_ ?_
 .exact S9
 rintro m f g1 av ⟨k,hk,q2,q5,W,A,q,o2,b,fr,ar⟩;simp only at q2 q5 W A q o2 b fr ar;have hw:=ac (k:=k) a7;by_cases af:k<z l
 case neg=>
  have Q:¬(k:Int)<(z l:Int):=a7;obtain rfl:k=z l:=a7;rw[s6 (l7 _)]at b;simp only[go_sem,q5,A,q,Q];refine⟨_,ae.refl _,?_⟩;simp only[go_sem,q5];exact bi.nil fr (o:=[rI (l.map (coreS H li))]) ⟨_,_,rfl,.one (js a7 rfl (l.map (coreS H li)) csD b rfl (λa _=>CH a) (by rw[j6])),rfl⟩ ⟨rfl,rfl,rfl⟩
 have Q:(k:Int)<(z l:Int):=a7;have bf:(0:Int)<=(k:Int):=a7;obtain⟨e,he⟩:=getq af;have an:=Src.LV (l6 he);obtain⟨kind,name,I,L,el⟩:=e;rw[szS]at an;have hE:smD (.mk kind name I L el)=[.int .i64 kind,.str name,.sl (I.map exD),.sl (L.map smD),.sl (el.map smD)]:=by simp only[smD,aK,dQ]
 have G:=ih (aD L) a7 L (l7 _) a7;have a6:=ih (aD el) a7 el (l7 _) a7;have u:=Kw (H:=H) (li:=li) (io:=io) (ii:=ii) (go:=go) (gi:=gi) (bc I) I (l7 _) a7;simp only[go_sem,q2,q5,W,A,q,o2,Q,bf,he,hE];refine pM aa rfl (GY name) (by simp only[go_sem,sO]) (B+43) a7 a7 (λi hi=>nt (ar i a7)) ((E.mono U V fr).mono U V λi hi=>⟨nu,nu⟩) ?_;obtain⟨ps,bz⟩:∃x,bV H li name=x:=⟨_,rfl⟩
 rw[bz];have r:coreS H li (.mk kind name I L el)=.mk kind ps.1 ps.2 (aU H li I) (bA H li L) (bA H li el):=by rw[coreS,bz]
 unfold plD;simp only[go_sem];refine bY aA mixed aa [B+39,B+40] [([5],[0],[],F),([7],[],[],F),([20],[],[],F),([8],[],[],F),([22],[],[],F),([8],[],[],F),([24],[],[],F),([2],[],[],F),([7],[],[],F),([27],[],[],F),([26,28],[],[],F),([2],[],[],F),([7],[],[],F),([31],[],[],F),([30,32],[],[],F),([2],[],[],F),([7],[],[],F),([35],[],[],F),([34,36],[],[],F),([21,23,25,29,33,37],[],[],F),([38],[],[0],F),([19,39],[],[1],F),([40],[],[],T)] 2 rfl c8 rfl a8 ?_;simp only[go_sem]
 iterate 10 (apply aj;(case hg=>first|exact x9|exact⟨_,rfl,by decide,rfl⟩);(case U=>intro Z ga oa K' J;simp only[go_sem,q2,q5,o2]at J|-;exact J))
 apply aj (v:=vx (aU H li I))
 case hg=>exact x9
 case U=>
  intro Z ga oa K' J;simp only[go_sem,vx]at J|-;refine pM aa rfl u WM (B+43) a7 a7 (λi hi=>nt (ar i a7)) ((E.mono U V fr).mono U V λi hi=>⟨nu,nu⟩) ?_;unfold vx;exact nn
 iterate 3 (apply aj;(case hg=>first|exact x9|exact⟨_,rfl,by decide,rfl⟩);(case U=>intro Z ga oa K' J;simp only[go_sem,q2,q5,o2]at J|-;exact J))
 apply aj (v:=rI (bA H li L))
 case hg=>exact x9
 case U=>
  intro Z ga oa K' J;simp only[go_sem,rI]at J|-;refine pM aa rfl G WM (B+43) a7 a7 (λi hi=>nt (ar i a7)) ((E.mono U V fr).mono U V λi hi=>⟨nu,nu⟩) ?_;unfold rI;exact nn
 iterate 3 (apply aj;(case hg=>first|exact x9|exact⟨_,rfl,by decide,rfl⟩);(case U=>intro Z ga oa K' J;simp only[go_sem,q2,q5,o2]at J|-;exact J))
 apply aj (v:=rI (bA H li el))
 case hg=>exact x9
 case U=>
  intro Z ga oa K' J;simp only[go_sem,rI]at J|-;refine pM aa rfl a6 WM (B+43) a7 a7 (λi hi=>nt (ar i a7)) ((E.mono U V fr).mono U V λi hi=>⟨nu,nu⟩) ?_;unfold rI;exact nn
 (apply aj;(case hg=>first|exact x9|exact⟨_,rfl,by decide,rfl⟩);(case U=>intro Z ga oa K' J;simp only[go_sem,vx,rI]at J|-;exact J))
 (apply bF;(case hg=>first|exact x9|exact⟨_,rfl,by decide,rfl⟩);(case U=>intro Z ga oa K' J;simp only[go_sem,aW]at J|-;exact J))
 have b0:=Kt ((l.take k).map (coreS H li));have Y:z ((l.take k).map (coreS H li))=k:=by rw[j6,D1];omega
 rw[Y]at b0;refine bF (a:=1) (v:=.one (.osl (B+40) (nxC (apC 152 (g1 (B+40)) 0) (g1 (B+40))) 6 0 (k+1))) (x:=nxC (apC 152 (g1 (B+40)) 0) (g1 (B+40))) (y:=S (csC ((l.take k).map (coreS H li)++[coreS H li (.mk kind name I L el)]))) x9 (λZ ga oa K' J=>?_) ?_
 .have e1:List.take (k*6) (csC ((l.take k).map (coreS H li)))++(csD (coreS H li (.mk kind name I L el))).map .d=csC ((l.take k).map (coreS H li)++[coreS H li (.mk kind name I L el)]):=by
   rw[s6 a7,Ku,Kv]
  rw[r]at e1;simp only[csD,nH,nJ,l9,w9]at e1;rw[r]at J;simp only[go_sem,aW,b,b0]at J|-;exact U2
 exact sT
end
end
end
section
open Go Go.Am Go.Asm
open Go.Src (Ex Stm szE bc szS aD Pl jx bV gV gA gF ai lP)
attribute[local congr]ite_cc
def dropq{A:Type}{l:List A}{k:Nat}{x:A}(h:l[k]?=S x):l.drop k=x::l.drop (k+1):=by
 have a:=(l5.1 h).1;rw[C1 a,(l5.1 h).2]
def Eg{g:Nat->Nat}{ob:Obs}{p:Src.Prog}(az:szP p<=1000000)(an:∀a∈p.arrays,0<=a.2/\a.2<=4096):
  cM Tryz.prog 44 [bS p] g ob (λr g' Y=>r=.tup [.one (.mp 1012 (g' 1012) 208),iv .i64 (ai p).2]/\(0<=(ai p).2/\(ai p).2<=1000000+4096*1000000)/\(∃M,Y 1012=S M/\qC M (ai p).1)/\∀i,i<1000\/1100<=i->g' i=g i/\Y i=ob i) (λ_ _ _=>False):=by
 refine hdX 1000 Tryz.func44 rfl [.tmp 2,.tmp 3] λO bn s0 w0=>?_;obtain⟨vs,b,fs⟩:=p;unfold szP at az;simp only at az an;obtain⟨h,j⟩:∃L,ai ⟨vs,b,fs⟩=L:=⟨_,rfl⟩
 obtain⟨L,y⟩:∃L,ai ⟨vs,b,fs⟩=L:=⟨_,rfl⟩
 rw[y];unfold ai at y;simp only at y;unfold bS iH;simp only[go_sem,j6]
 refine aw (λm K=>∃(k:Nat)(Z:Pl)(w:Int),m+k=z vs/\gV (vs.drop k) Z w=gV vs [] 0/\0<=w/\w<=k/\K.f 1=.one (.ptr 1001 (K.gen 1001) 0)/\K.f 4=.one (.mp 1012 (K.gen 1012) 208)/\K.f 5=iv .i64 w/\K.obj 1001=S (iW ⟨vs,b,fs⟩)/\(∃M,K.obj 1012=S M/\qC M Z)/\K.f 14=.one (.d (.sl (vs.map λs=>[.str s])))/\K.f 15=iv .i64 (z vs)/\K.f 16=iv .i64 k/\
   ∀i,i<1000\/1100<=i->K.gen i=g i/\K.obj i=ob i) (z vs) ?_ ?_
 .refine⟨0,[],0,rfl,by rw[D3],a7,a7,?_⟩
  simp only[go_sem];exact⟨rfl,⟨[],rfl,λs=>rfl⟩,λi G=>⟨nu,nu⟩⟩
 rintro m f g1 av ⟨k,Z,w,hk,l,a6,b4,u,o,t,o1,⟨M,oM,I⟩,E,n,A,fr⟩;simp only at u o t o1 oM E n A fr;have V:=ac (k:=k) a7;by_cases W:k<z vs
 .have Q:(k:Int)<(z vs:Int):=a7
  have bf:(0:Int)<=(k:Int):=a7;have b6:IntKind.i64.wrap (w+1)=w+1:=by rw[wrap_i64]<;>omega
  obtain⟨v,J⟩:=getq W;rw[dropq J,gV]at l;have e:=I.put v (w,0);unfold plD at e;simp only[go_sem,o,t,E,n,A,Q,bf,J,oM,b6,V];refine ah (m-1) a7 ⟨k+1,_,_,a7,l,a7,a7,?_⟩;simp only[go_sem,u,o,E,n,o1];exact⟨⟨_,rfl,e⟩,λi G=>⟨(fr i G).1,nt ((fr i G).2)⟩⟩
 have Q:¬(k:Int)<(z vs:Int):=a7;obtain rfl:k=z vs:=a7;rw[F9,gV]at l;rw[<-l]at y;simp only at y;have H:=o1;unfold iW iH at o1;simp only[l9,w9]at o1;simp only[go_sem,u,o1,n,A,Q,j6]
 refine aw (λm K=>∃(k:Nat)(bd:Pl)(U:Int),m+k=z b/\gA (b.drop k) bd U=gA b Z w/\0<=U/\U<=1000000+4096*k/\K.f 1=.one (.ptr 1001 (K.gen 1001) 0)/\K.f 4=.one (.mp 1012 (K.gen 1012) 208)/\K.f 5=iv .i64 U/\K.obj 1001=S (iW ⟨vs,b,fs⟩)/\(∃M,K.obj 1012=S M/\qC M bd)/\K.f 28=.one (.d (.sl (b.map arD)))/\K.f 29=iv .i64 (z b)/\K.f 30=iv .i64 k/\
   ∀i,i<1000\/1100<=i->K.gen i=g i/\K.obj i=ob i) (z b) ?_ ?_
 .refine⟨0,Z,w,rfl,by rw[D3],a6,a7,?_⟩
  simp only[go_sem,u,o,t,o1];exact⟨rfl,⟨M,oM,I⟩,fr⟩
 clear u o t o1 H oM E n A fr I M V W Q hk a6 b4 l;rintro m f g1 av ⟨k,bd,U,hk,l,a6,b4,u,o,t,o1,⟨M,oM,I⟩,E,n,A,fr⟩;simp only at u o t o1 oM E n A fr;have V:=ac (k:=k) a7;by_cases W:k<z b
 .have Q:(k:Int)<(z b:Int):=a7
  have bf:(0:Int)<=(k:Int):=a7;obtain⟨⟨v,X⟩,J⟩:=getq W;have hz:=an _ (l6 J);simp only at hz;have b6:IntKind.i64.wrap (U+X)=U+X:=by rw[wrap_i64]<;>omega
  rw[dropq J,gA]at l;simp only at l;have e:=I.put v (U,X);unfold plD at e;simp only[go_sem,o,t,E,n,A,Q,bf,J,arD,oM,b6,V];refine ah (m-1) a7 ⟨k+1,_,_,a7,l,a7,a7,?_⟩;simp only[go_sem,u,o,E,n,o1];exact⟨⟨_,rfl,e⟩,λi G=>⟨nt ((fr i G).1),nt ((fr i G).2)⟩⟩
 have Q:¬(k:Int)<(z b:Int):=a7;obtain rfl:k=z b:=a7;rw[F9,gA]at l;rw[<-l]at y;simp only at y;have H:=o1;unfold iW iH at o1;simp only[l9,w9]at o1;simp only[go_sem,u,o1,n,A,Q,j6]
 refine aw (λm K=>∃(k:Nat)(c:Pl),m+k=z fs/\gF k (fs.drop k) c=gF 0 fs bd/\K.f 4=.one (.mp 1012 (K.gen 1012) 208)/\K.f 5=iv .i64 U/\(∃M,K.obj 1012=S M/\qC M c)/\K.f 47=.one (.d (.sl (fs.map fnD)))/\K.f 48=iv .i64 (z fs)/\K.f 49=iv .i64 k/\
   ∀i,i<1000\/1100<=i->K.gen i=g i/\K.obj i=ob i) (z fs) ?_ ?_
 .refine⟨0,bd,rfl,by rw[D3],?_⟩
  simp only[go_sem,o,t];exact⟨⟨M,oM,I⟩,fr⟩
 clear u o t o1 H oM E n A fr I M V W Q hk l;rintro m f g1 av ⟨k,c,hk,l,o,t,⟨M,oM,I⟩,E,n,A,fr⟩;simp only at o t oM E n A fr;have V:=ac (k:=k) a7;by_cases W:k<z fs
 .have Q:(k:Int)<(z fs:Int):=a7
  have bf:(0:Int)<=(k:Int):=a7;obtain⟨x,J⟩:=getq W;rw[dropq J,gF]at l;have e:=I.put x.name ((k:Int),0);unfold plD at e;simp only[go_sem,o,t,E,n,A,Q,bf,J,fnD,oM,V];refine ah (m-1) a7 ⟨k+1,_,a7,l,?_⟩;simp only[go_sem,o,t,E,n];exact⟨⟨_,rfl,e⟩,λi G=>⟨nt ((fr i G).1),nt ((fr i G).2)⟩⟩
 have Q:¬(k:Int)<(z fs:Int):=a7;obtain rfl:k=z fs:=a7;rw[F9,gF]at l;rw[<-l]at y;subst y;simp only[go_sem,o,t,n,A,Q];refine⟨_,ae.refl _,?_⟩;simp only[go_sem];exact⟨rfl,⟨a6,a7⟩,⟨M,oM,I⟩,fr⟩
end
section
open Go Go.Am Go.Asm
open Go.Src (Ex Stm szE bc szS aD Pl jx bV gV gA gF ai lP CFn Core lR cR ab iN bA aX dX)
attribute[local congr]ite_cc
def cfD(x:CFn):List D:=[.int .i64 x.params,.int .i64 x.slots,.int .i64 x.first,.bool x.word,.sl (x.body.map csD)]
def pp(c:Core):AV:=.agg [.d (.int .i64 c.words),.d (.sl (c.funcs.map cfD))]
def cfC(l:List CFn):List C:=l.flatMap λa=>(cfD a).map .d
def Ky(l:List CFn):z (cfC l)=z l*5:=by
 induction l with
 |nil=>rfl
 |cons a l b=>simp only[cfC,G2,j7,j6,cfD,j9,l4]at b|-;omega
def Kz(l m:List CFn):cfC (l++m)=cfC l++cfC m:=by simp[cfC]
def KA(e:CFn):cfC [e]=(cfD e).map .d:=by simp[cfC]
def OB{o:cF}(ho:jS o)(p:Src.Prog)(az:szP p<=1000000):bP Tryz.prog 1 o 18 [bS p] (·=.tup [pp (iN p).1,iv .i64 ((iN p).2:Nat)]):=by
 refine hdG Tryz.func18 rfl [.cell 2 62,.tmp 3] λO bn s0 w0 g=>?_;have G:bS p=.agg [.d (.sl (p.vars.map λs=>[.str s])),.d (.sl (p.arrays.map arD)),.d (.sl (p.funcs.map fnD))]:=rfl;obtain⟨X,hz⟩:∃X,iN p=X:=⟨_,rfl⟩
 rw[hz];unfold iN at hz;have hS:=Kn ho p a7;rw[G]at hS|-;simp only[go_sem];refine cG rfl W0 ?_;rintro _ rfl;by_cases hs:aX p=0
 case neg=>
  rw[l8 hs]at hz;subst hz;have bl:¬((aX p:Nat):Int)=0:=a7;simp only[go_sem,bl];exact⟨_,⟨_,⟨_,_,rfl,ux [.int .i64 0,.nsl],_,_,rfl,ke _,rfl⟩,rfl⟩,rfl⟩
 rw[j8 (by simp[hs])]at hz
 have V:dX p=T:=by
  unfold aX at hs;split at hs
  .cases hs
  .rename_i h;simpa using h
 have an:∀a∈p.arrays,0<=a.2/\a.2<=4096:=by
  unfold dX at V;simp only[s5,y8]at V;intro a ha;have:=V.2.1 a ha;exact xc
 simp only[go_sem,hs];refine cj aE rfl (by simp only[go_sem];rw[<-G];exact Eg az an) ?_ ?_
 .exact kb
 rintro r g1 av ⟨rfl,⟨a6,b4⟩,⟨M,oM,I⟩,fr⟩;have e1:=fr 1 (.inl b9);have e2:=fr 2 (.inl b9);simp[upd]at e1 e2;have ar:∀j,1100<=j->av j=N:=λj hj=>by rw[(fr j (.inr a7)).2];(try simp only[upd]);(repeat rw[j8 (by omega)])
 clear fr;unfold ab at hz;obtain⟨om,cu⟩:∃x,(ai p).1=x:=⟨_,rfl⟩
 obtain⟨cv,cm⟩:∃x,(ai p).2=x:=⟨_,rfl⟩
 rw[cu,cm]at hz;rw[cu]at I;rw[cm]at a6 b4|-;obtain⟨b2,hF⟩:∃b2,cR om p.funcs cv=b2:=⟨_,rfl⟩
 rw[hF]at hz;unfold szP at az;simp only[go_sem,e1.1,e1.2,j6];refine lK _ (ej (t:=7) (o:=7) (b:=95) (j:=1) (sz:=5) (off:=0) (cells:=[.d (.int .i64 0),.d .nsl]) Vy Vy rfl b9) (λm K=>∃(k:Nat)(w:Int)(l:List CFn),m+k=z p.funcs/\(l++(cR om (p.funcs.drop k) w).1,(cR om (p.funcs.drop k) w).2)=b2/\z l=k/\0<=w/\w<=5000000000+1000000*k/\K.f 2=.one (.ptr 2 (K.gen 2) 0)/\K.f 5=.one (.mp 1012 (K.gen 1012) 208)/\K.f 7=.one (.ptr 7 (K.gen 7) 0)/\K.f 28=.one (.d (.sl (p.funcs.map fnD)))/\K.f 29=iv .i64 (z p.funcs)/\K.f 30=iv .i64 k/\K.f 6=iv .i64 w/\K.obj 2=S [.d (.int .i64 0),.d .nsl]/\K.obj 7=S [.d (.int .i64 0),.osl 95 (K.gen 95) 5 0 (z l)]/\K.obj 95=S (cfC l)/\(∃M,K.obj 1012=S M/\qC M om)/\(∀j,1100<=j->K.obj j=N)) (z p.funcs) ?_ ?_
 .refine⟨0,cv,[],rfl,by rw[D3];exact hF,rfl,a6,a7,?_⟩
  simp only[St.claimAt];simp only[go_sem,e2.1,e2.2];exact⟨rfl,⟨M,oM,I⟩,λj hj=>nt (ar j hj)⟩
 clear e1 e2 ar oM I M hF;rintro m f g1 av ⟨k,w,l,hk,ca,cz,c0,c1,q2,q5,q7,al,L,P,q6,o2,o7,a1,⟨M,oM,I⟩,ar⟩;simp only at q2 q5 q7 al L P q6 o2 o7 a1 oM ar;have E:=ac (k:=k) a7;by_cases af:k<z p.funcs
 .have Q:(k:Int)<(z p.funcs:Int):=a7
  have bf:(0:Int)<=(k:Int):=a7;obtain⟨x,he⟩:=getq af;have B:=kf (p:=p) (l6 he);unfold szP at B;have bk:fnD x=[.str x.name,.sl (x.params.map λs=>[.str s]),.sl (x.locals.map λs=>[.str s]),.bool x.word,.sl (x.body.map smD)]:=rfl;have cd:IntKind.i64.wrap ((z x.params:Int)+(z x.locals:Int))=((z x.params+z x.locals:Nat):Int):=by rw[wrap_i64]<;>omega
  rw[dropq he,cR]at ca;simp only at ca;simp only[go_sem,q5,al,L,P,Q,bf,he,bk,j6,cd];refine aw (λm2 K=>∃(n:Nat)(pm:Pl),m2+n=z x.params/\lP w n (x.params.drop n) pm=lP w 0 x.params []/\K.f 45=.one (.d (.sl (x.params.map λs=>[.str s])))/\K.f 46=iv .i64 (z x.params)/\K.f 47=iv .i64 n/\K.f 9=.one (.ptr 9 (K.gen 9) 0)/\K.f 10=.one (.ptr 10 (K.gen 10) 0)/\K.f 11=iv .i64 ((z x.params+z x.locals:Nat):Int)/\K.obj 9=S ((fnD x).map .d)/\K.obj 10=S [.mp 1012 (K.gen 1012) 208,.mp 35 (K.gen 35) 208]/\(∃M,K.obj 35=S M/\qC M pm)/\K.f 2=.one (.ptr 2 (K.gen 2) 0)/\K.f 5=.one (.mp 1012 (K.gen 1012) 208)/\K.f 7=.one (.ptr 7 (K.gen 7) 0)/\K.f 28=.one (.d (.sl (p.funcs.map fnD)))/\K.f 29=iv .i64 (z p.funcs)/\K.f 30=iv .i64 k/\K.f 6=iv .i64 w/\K.obj 2=S [.d (.int .i64 0),.d .nsl]/\K.obj 7=S [.d (.int .i64 0),.osl 95 (K.gen 95) 5 0 (z l)]/\K.obj 95=S (cfC l)/\(∃M,K.obj 1012=S M/\qC M om)/\(∀j,1100<=j->K.obj j=N)) (z x.params) ?_ ?_
  .refine⟨0,[],rfl,by rw[D3],?_⟩
   simp only[go_sem,q2,q5,q7,al,L,P,q6,o2,o7,a1];exact⟨rfl,⟨[],rfl,λs=>rfl⟩,⟨M,oM,I⟩,λj hj=>nt (ar j hj)⟩
  clear q2 q5 q7 al L P q6 o2 o7 a1 oM ar I M;rintro m2 f g1 av ⟨n,pm,hn,cf,b1,Y,ad,W,A,q,o9,bz,⟨M2,b7,cc⟩,q2,q5,q7,al,L,P,q6,o2,o7,a1,⟨M,oM,I⟩,ar⟩;simp only at b1 Y ad W A q o9 bz b7 q2 q5 q7 al L P q6 o2 o7 a1 oM ar;have b':=ac (k:=n) a7;by_cases bs:n<z x.params
  .have u:(n:Int)<(z x.params:Int):=a7
   have bo:(0:Int)<=(n:Int):=a7;obtain⟨v,cb⟩:=getq bs;have b6:IntKind.i64.wrap (w+(n:Int))=w+n:=by rw[wrap_i64]<;>omega
   rw[dropq cb,lP]at cf;have e:=cc.put v (w+n,0);unfold plD at e;simp only[go_sem,b1,Y,ad,u,bo,cb,A,bz,b7,q6,b6,b'];refine ah (m2-1) a7 ⟨n+1,_,a7,cf,?_⟩;simp only[go_sem,q2,q5,q7,al,L,P,q6,o2,o7,a1,b1,Y,W,A,q,o9,bz];exact⟨⟨_,rfl,e⟩,⟨M,oM,I⟩,λj hj=>nt (ar j hj)⟩
  have u:¬(n:Int)<(z x.params:Int):=a7;obtain rfl:n=z x.params:=a7;rw[F9,lP]at cf;have ch:=o9;rw[bk]at ch;simp only[l9,w9]at ch;simp only[go_sem,W,ch,Y,ad,u,j6];refine aw (λm2 K=>∃(n:Nat)(bd:Pl),m2+n=z x.locals/\lP (w+z x.params) n (x.locals.drop n) bd=lP (w+z x.params) 0 x.locals pm/\K.f 61=.one (.d (.sl (x.locals.map λs=>[.str s])))/\K.f 62=iv .i64 (z x.locals)/\K.f 63=iv .i64 n/\K.f 9=.one (.ptr 9 (K.gen 9) 0)/\K.f 10=.one (.ptr 10 (K.gen 10) 0)/\K.f 11=iv .i64 ((z x.params+z x.locals:Nat):Int)/\K.obj 9=S ((fnD x).map .d)/\K.obj 10=S [.mp 1012 (K.gen 1012) 208,.mp 35 (K.gen 35) 208]/\(∃M,K.obj 35=S M/\qC M bd)/\K.f 2=.one (.ptr 2 (K.gen 2) 0)/\K.f 5=.one (.mp 1012 (K.gen 1012) 208)/\K.f 7=.one (.ptr 7 (K.gen 7) 0)/\K.f 28=.one (.d (.sl (p.funcs.map fnD)))/\K.f 29=iv .i64 (z p.funcs)/\K.f 30=iv .i64 k/\K.f 6=iv .i64 w/\K.obj 2=S [.d (.int .i64 0),.d .nsl]/\K.obj 7=S [.d (.int .i64 0),.osl 95 (K.gen 95) 5 0 (z l)]/\K.obj 95=S (cfC l)/\(∃M,K.obj 1012=S M/\qC M om)/\(∀j,1100<=j->K.obj j=N)) (z x.locals) ?_ ?_
  .refine⟨0,pm,rfl,by rw[D3],?_⟩
   simp only[go_sem,q2,q5,q7,al,L,P,q6,o2,o7,a1,W,A,q,o9,bz];exact⟨⟨M2,b7,cc⟩,⟨M,oM,I⟩,ar⟩
  clear q2 q5 q7 al L P q6 o2 o7 a1 oM ar I M b1 Y ad W A q o9 ch bz b7 cc M2 b' bs u hn;rintro m2 f g1 av ⟨n,bd,hn,b8,b1,Y,ad,W,A,q,o9,bz,⟨M2,b7,cc⟩,q2,q5,q7,al,L,P,q6,o2,o7,a1,⟨M,oM,I⟩,ar⟩;simp only at b1 Y ad W A q o9 bz b7 q2 q5 q7 al L P q6 o2 o7 a1 oM ar;have b':=ac (k:=n) a7;rw[bk]at o9;simp only[l9,w9]at o9;by_cases bs:n<z x.locals
  .have u:(n:Int)<(z x.locals:Int):=a7
   have bo:(0:Int)<=(n:Int):=a7;obtain⟨v,cb⟩:=getq bs;have cx:IntKind.i64.wrap (w+(z x.params:Int))=w+z x.params:=by rw[wrap_i64]<;>omega
   have b6:IntKind.i64.wrap (w+(z x.params:Int)+(n:Int))=w+z x.params+n:=by rw[wrap_i64]<;>omega
   rw[dropq cb,lP]at b8;have e:=cc.put v (w+z x.params+n,0);unfold plD at e;simp only[go_sem,b1,Y,ad,u,bo,cb,W,o9,j6,A,bz,b7,q6,cx,b6,b'];refine ah (m2-1) a7 ⟨n+1,_,a7,b8,?_⟩;simp only[go_sem,q2,q5,q7,al,L,P,q6,o2,o7,a1,b1,Y,W,A,q,o9,bz,bk,l9,w9];exact⟨⟨_,rfl,e⟩,⟨M,oM,I⟩,λj hj=>nt (ar j hj)⟩
  have u:¬(n:Int)<(z x.locals:Int):=a7;obtain rfl:n=z x.locals:=a7;rw[F9,lP]at b8;rw[cf]at b8;have b3:=Kx (H:=om) (li:=bd) (io:=1012) (ii:=35) (go:=g1 1012) (gi:=g1 35) (aD x.body) x.body (l7 _) a7;simp only[go_sem,Y,ad,u];refine bY aA mixed aE [94,95,7] [([7],[0],[],F),([80],[0],[],F),([9],[],[],F),([82],[],[],F),([83],[],[],F),([11],[],[],F),([6],[],[],F),([9],[],[],F),([87],[],[],F),([10],[],[],F),([9],[],[],F),([90],[],[],F),([89,91],[],[],F),([84,85,86,88,92],[],[],F),([93],[],[0],F),([81,94],[],[1],F),([7],[],[],F),([96,95],[],[],T)] 3 rfl c8 rfl b9 ?_;simp only[go_sem]
  iterate 12 (apply aj;(case hg=>first|exact x9|exact⟨_,rfl,by decide,rfl⟩);(case U=>intro fa ga oa K' J;simp only[go_sem,q7,o7,W,o9,q,q6,A,bz,j6]at J|-;exact J))
  apply aj (v:=rI (bA om bd x.body))
  case hg=>exact x9
  case U=>
   intro fa ga oa K' J;simp only[go_sem,rI]at J|-;refine pM aE rfl b3 WM 1100 b9 b9 (λi hi=>nt (ar i a7)) ⟨⟨M,oM,I⟩,⟨M2,b7,cc⟩,rfl,rfl⟩ ?_;unfold rI;exact nn
  (apply aj;(case hg=>first|exact x9|exact⟨_,rfl,by decide,rfl⟩);(case U=>intro fa ga oa K' J;simp only[go_sem,rI]at J|-;exact J))
  (apply bF;(case hg=>first|exact x9|exact⟨_,rfl,by decide,rfl⟩);(case U=>intro fa ga oa K' J;simp only[go_sem,aW]at J|-;exact J))
  have b0:=Ky l
  have cy:lR om x w=⟨z x.params,((z x.params+z x.locals:Nat):Int),w,x.word,bA om bd x.body⟩:=by
   unfold lR;rw[<-b8];rfl
  refine bF (a:=1) (v:=.one (.osl 95 (nxC (apC 107 (g1 95) 0) (g1 95)) 5 0 (z l+1))) (x:=nxC (apC 107 (g1 95) 0) (g1 95)) (y:=S (cfC (l++[lR om x w]))) x9 (λfa ga oa K' J=>?_) ?_
  .have e1:List.take (z l*5) (cfC l)++(cfD (lR om x w)).map .d=cfC (l++[lR om x w]):=by
    rw[s6 a7,Kz,KA]
   rw[cy]at e1 J;simp only[cfD,l9,w9]at e1;simp only[go_sem,aW,a1,b0]at J|-;exact U2
  (apply aj;(case hg=>first|exact x9|exact⟨_,rfl,by decide,rfl⟩);(case U=>intro fa ga oa K' J;simp only[go_sem,q7,o7]at J|-;exact J))
  refine bZ x9 ?_;intro K' a';simp only[go_sem,q7,o7];refine a' _ ?_;clear a' K';have b5:IntKind.i64.wrap (w+((z x.params+z x.locals:Nat):Int))=w+((z x.params:Int)+(z x.locals:Int)):=by rw[wrap_i64]<;>omega
  simp only[go_sem,q6,q,P,b5,E];refine ah (m-1) a7 ⟨k+1,w+((z x.params:Int)+(z x.locals:Int)),l++[lR om x w],a7,by rw[<-ca,u7];rfl,by rw[j7];simp;omega,a7,a7,?_⟩;simp only[go_sem,q2,q5,q7,al,L,o2,j7,j9,l4];exact⟨⟨M,oM,I⟩,λj hj=>nt (ar j hj)⟩
 have Q:¬(k:Int)<(z p.funcs:Int):=a7;obtain rfl:k=z p.funcs:=a7;rw[F9,cR]at ca;simp only[s7]at ca;subst ca;simp only at hz;by_cases hw:32768<w
 .rw[l8 hw]at hz
  subst hz;simp only[go_sem,L,P,Q,q6,hw,q2,o2];exact⟨_,⟨_,⟨_,_,rfl,ux [.int .i64 0,.nsl],_,_,rfl,ke _,rfl⟩,rfl⟩,rfl⟩
 rw[j8 hw]at hz;subst hz;simp only[go_sem,L,P,Q,q6,hw,q2,o2,q7,o7];refine⟨_,⟨_,⟨_,_,rfl,⟨[.int .i64 w,.sl (l.map cfD)],rfl,λi c Z=>?_,rfl⟩,_,_,rfl,ke _,rfl⟩,rfl⟩,rfl⟩
 match i,Z with
 |0,Z=>cases Z;exact⟨_,rfl,.d _⟩
 |1,Z=>
   cases Z;refine⟨_,rfl,dN (s:=⟨_,_,_⟩) rfl l cfD ?_ rfl (λa _ y hy=>?_) (λ_ _=>rfl) rfl⟩
   .simp[upd]
    exact a1
   .simp only[cfD,A3,A9,E6]at hy
    rcases hy with rfl|rfl|rfl|rfl|rfl<;>rfl
end
end Go.Proofs.YtlacbjnmkhndiaaGreatDoor
namespace Go.Lower
section
section
variable{w:Int}{ps:Sig}{f:Nat}{word:Bool}{E:Nat->Option Int}
variable{at':Nat}{a b n d:Int}
def gt{x:Ins}{d:Int}(t p:Int)(U:takes ps word x=S (t,p))(g:0<=t)(i:t<=d)(c:x.op≠8/\x.op≠9/\x.op≠11)(j:E (at'+1)=S (d-t+p)):OkI ps word E at' x d:=by
 refine⟨t,p,U,g,i,λh=>absurd h c.2.2,λk e=>?_⟩;simp only[next,c.1,c.2.1,c.2.2,A8,E0]at e;exact⟨at'+1,e,j⟩
def uU(k:Nat)(e:a=(k:Int))(hd:0<=d)(h:E k=S d):OkI ps word E at' ⟨8,a,b,n⟩ d:=by
 refine⟨0,0,rfl,C5 _,hd,λh=>absurd h a8,λg c=>?_⟩;simp only[next,B1,E0]at c;exact⟨k,by rw[c,e],by rw[h];simp⟩
def qU(k:Nat)(e:a=(k:Int))(hd:0<=d)(h:E k=S d)(U:E (at'+1)=S d):OkI ps word E at' ⟨9,a,b,n⟩ (d+1):=by
 refine⟨1,0,rfl,b9,a7,λh=>absurd h a8,λg c=>?_⟩;simp only[next,show ¬((9:Int)=8) by decide,A8,B1,A3,A9,E6]at c;rcases c with rfl|rfl
 .exact⟨at'+1,rfl,by rw[U];simp⟩
 .exact⟨k,e,by rw[h];simp⟩
def LK{q kind op num slot size d:Int}{n:Nat}(h:okE w ps f q kind op num slot size n)(c:¬(kind=8\/kind=9)):z (one kind op num slot size d)=1:=by
 obtain⟨_,_,_,_,_,h⟩:=h;rcases h with⟨h|h,_⟩|⟨h,_⟩|⟨h,_⟩|⟨h,_⟩|⟨h,_⟩|⟨h,_⟩|⟨h,_⟩
 any_goals (subst h;rfl)
 exact absurd h c
def Ip{q kind op num slot size d:Int}{n at':Nat}(h:okE w ps f q kind op num slot size n)(c:¬(kind=8\/kind=9))(hd:0<=d)(hT:E (at'+1)=S (d+1)):
  (z (one kind op num slot size (d+n)))=1/\Good ps word E at' (one kind op num slot size (d+n))/\(Seg E at' (one kind op num slot size (d+n))->E at'=S (d+n)):=by
 obtain⟨_,_,_,_,_,h⟩:=h;rcases h with⟨h|h,hn⟩|⟨h,_,hn⟩|⟨h,_,_,_,hn⟩|⟨h,k,e,a,bz⟩|⟨h,_,_,hn⟩|⟨h,hn⟩|⟨h,_⟩
 .exact K0
 .exact K0
 .exact K0
 .exact UK
 .subst h e
  refine⟨rfl,⟨gt n 1 ?_ a7 a7 a8 (by rw[hT];congr 1;omega),trivial⟩,λh=>h.1⟩;have:¬((k:Nat):Int)<0:=a7;simp[takes,bz,this]
 .subst h hn
  exact⟨rfl,⟨gt 2 1 rfl b9 a7 a8 (by rw[hT];congr 1;omega),trivial⟩,λh=>h.1⟩
 .exact UK
 .exact absurd h c
def BK{kind d:Int}{c0:Code}{c1:Nat->Code}(hd:0<=d)
 (p:Seg E at' c0->E (at'+z c0)=S (d+1)->E at'=S d/\Good ps word E at' c0)
 (U:∀r,Seg E r (c1 r)->E (r+z (c1 r))=S (d+1)->E r=S d/\Good ps word E r (c1 r))
 (g:Seg E at' (jM at' d kind c0 c1))(hT:E (at'+z (jM at' d kind c0 c1))=S (d+1)):E at'=S d/\Good ps word E at' (jM at' d kind c0 c1):=by
 unfold jM at g hT|-;simp only at g hT|-;rw[ig,ig]at g;obtain⟨q,a,g⟩:=g;simp only[Seg]at g;obtain⟨c,b,e,g⟩:=g;rw[ig]at g;obtain⟨j,k,l,_⟩:=g
 have m:z (gY kind d)=0/\gY kind d=[]\/z (gY kind d)=1/\gY kind d=[(⟨7,0,0,0⟩,d+1)]:=by
  unfold gY;split
  .exact .inr ⟨rfl,rfl⟩
  .exact .inl ⟨rfl,rfl⟩
 generalize V:at'+z c0+z (gY kind d)=r at *;have o:r+1+1+1=r+3:=a7;rw[o]at j k l;obtain⟨L,s⟩:=U (r+3) j k
 have h:E (r+3+z (c1 (r+3))+2)=S (d+1):=by
  rw[<-hT];congr 1;simp only[j7,j9,l4];omega
 have J:E (at'+z c0)=S (d+1):=by
  rcases m with⟨hl,_⟩|⟨hl,i⟩
  .rw[<-c];congr 1;omega
  .rw[i]at a;exact a.1
 obtain⟨t,u⟩:=p q J;refine⟨t,?_⟩;rw[fB,fB];refine⟨u,?_,?_⟩
 .rcases m with⟨_,i⟩|⟨hl,i⟩
  .rw[i];trivial
  .rw[i]
   exact⟨gt 1 1 rfl b9 a7 a8 (by rw[show at'+z c0+1=r by omega,c];congr 1;omega),trivial⟩
 .rw[V]
  refine⟨qU (r+3) rfl hd L b,gt 0 1 rfl b9 hd a8 (by rw[e];congr 1;omega),uU (r+3+z (c1 (r+3))+2) rfl a7 h,?_⟩;rw[o,fB];exact⟨s,gt 1 1 rfl b9 a7 a8 (by rw[l];congr 1;omega),gt 1 1 rfl b9 a7 a8 (by rw[show r+3+z (c1 (r+3))+1+1=r+3+z (c1 (r+3))+2 by omega,h];congr 1;omega),trivial⟩
mutual
theorem xM:∀(e:Ex){q d:Int}{at':Nat},rE w ps f q e->0<=d->Seg E at' (cE at' d e)->E (at'+z (cE at' d e))=S (d+1)->E at'=S d/\Good ps word E at' (cE at' d e)
 |.mk kind op num slot size kids,q,d,at',h,hd,c,hT=>by
   rw[rE]at h;rw[cE]at c hT|-;by_cases g:kind=8\/kind=9
   .rw[l8 g]at c hT|-
    have i:z kids=2:=by
     obtain⟨⟨_,_,_,_,_,h⟩,_⟩:=h;omega
    exact Iq kids i h.2 hd c hT
   .rw[j8 g]at c hT|-
    rw[ig]at c;obtain⟨hl,j,P⟩:=Ip (E:=E) (word:=word) (at':=at'+z (cEs at' d kids)) h.1 g hd (by rw[<-hT,j7,LK h.1 g,C0]);have:=uV kids h.2 hd c.1 (P c.2);exact⟨this.1,fB.2 ⟨this.2,j⟩⟩
theorem uV:∀(l:List Ex){q d:Int}{at':Nat},rEs w ps f q l->0<=d->Seg E at' (cEs at' d l)->E (at'+z (cEs at' d l))=S (d+z l)->E at'=S d/\Good ps word E at' (cEs at' d l)
 |[],q,d,at',h,hd,g,c=>by
   rw[cEs]at c|-;exact⟨by simpa using c,trivial⟩
 |e::l,q,d,at',h,hd,g,c=>by
   rw[rEs]at h;rw[cEs]at g c|-;rw[ig]at g;obtain⟨i,j⟩:=uV l h.2 a7 g.2 (by rw[j7,<-C0]at c;rw[c];congr 1;simp only[j9];omega);obtain⟨t0,k⟩:=xM e h.1 hd g.1 i;exact⟨t0,fB.2 ⟨k,j⟩⟩
theorem Iq:∀(l:List Ex){q d kind:Int}{at':Nat},z l=2->rEs w ps f q l->0<=d->Seg E at' (cAO at' d kind l)->E (at'+z (cAO at' d kind l))=S (d+1)->E at'=S d/\Good ps word E at' (cAO at' d kind l)
 |[],q,d,kind,at',c,h,hd,g,i=>by cases c
 |e::l,q,d,kind,at',c,h,hd,g,i=>by
   rw[rEs]at h;rw[cAO]at g i|-;exact BK hd (λs t=>xM e h.1 hd s t) (λr s t=>wC l (by simpa using c) h.2 hd s t) g i
theorem wC:∀(l:List Ex){q d:Int}{at':Nat},z l=1->rEs w ps f q l->0<=d->Seg E at' (jv at' d l)->E (at'+z (jv at' d l))=S (d+1)->E at'=S d/\Good ps word E at' (jv at' d l)
 |[],q,d,at',i,h,hd,c,g=>by cases i
 |e::l,q,d,at',i,h,hd,c,g=>by
   rw[rEs]at h;rw[jv]at c g|-;exact xM e h.1 hd c g
end
end
section
variable{w:Int}{ps:Sig}{f:Nat}{word:Bool}{E:Nat->Option Int}
def leave(word:Bool):Code:=if word then [(⟨1,0,0,0⟩,0),(⟨11,0,0,0⟩,1)]else [(⟨11,0,0,0⟩,0)]
def gu(at':Nat)(c0:Code)(c1:Nat->Code):Code:=
 c0++(⟨9,(at'+z c0+1+(c1 (at'+z c0+1)).length+1:Nat),0,0⟩,1)::(c1 (at'+z c0+1)++[(⟨8,(at':Int),0,0⟩,0)])
def ifC(at':Nat)(c1:Nat->Code)(a:Bool)(b:Nat->Code):Code:=
 if a then
  let r:=at'+1+z (c1 (at'+1))+1
  (⟨9,(r:Int),0,0⟩,1)::(c1 (at'+1)++(⟨8,(r+z (b r):Nat),0,0⟩,0)::b r)
 else(⟨9,(at'+1+z (c1 (at'+1)):Nat),0,0⟩,1)::c1 (at'+1)
def pY(word:Bool)(kind slot size:Int)(n:Nat):Code:=
 if kind=1 then [(⟨3,slot,0,0⟩,n)]else if kind=2 then [(⟨5,slot,size,0⟩,n)]else if kind=3 then [(⟨13,0,0,0⟩,n)]
 else if kind=6 then [(⟨10,slot,0,0⟩,n)]else if kind=7 then(if n=0 then leave word else [(⟨11,0,0,0⟩,n)])else []
mutual
def cS(word:Bool)(at':Nat):Stm->Code
 |.mk kind slot size e a el=>
   if kind=5 then gu at' (jv at' 0 e) (λr=>cSs word r a)
   else cEs at' 0 e++(if kind=4 then ifC (at'+z (cEs at' 0 e)) (λr=>cSs word r a) (!el.isEmpty) (λr=>cSs word r el)else pY word kind slot size (z e))
def cSs(word:Bool)(at':Nat):List Stm->Code
 |[]=>[]
 |e::l=>cS word at' e++cSs word (at'+z (cS word at' e)) l
end
variable{at':Nat}
def uW(b:Seg E at' (leave word)):E at'=S 0/\Good ps word E at' (leave word):=by
 cases word with
 |true=>
   obtain⟨U,c,_⟩:=b;exact⟨U,gt 0 1 rfl b9 b9 a8 c,⟨1,0,rfl,b9,b9,λ_=>rfl,λk a=>by simp[next]at a⟩,trivial⟩
 |false=>
   obtain⟨U,_⟩:=b;exact⟨U,⟨0,0,rfl,b9,b9,λ_=>rfl,λk a=>by simp[next]at a⟩,trivial⟩
def EG{q kind slot size:Int}{n nt ne at':Nat}(h:okS w ps f word q kind slot size n nt ne)(d:kind≠4)(e:kind≠5)(c:Seg E at' (pY word kind slot size n))(hT:E (at'+z (pY word kind slot size n))=S 0):
  E at'=S (n:Int)/\Good ps word E at' (pY word kind slot size n):=by
 obtain⟨_,_,_,_,_,h⟩:=h;rcases h with⟨h,_,b⟩|⟨h,_,_,_,b⟩|⟨h,b⟩|⟨h,k,g,a,bz⟩|⟨h,b⟩
 .subst h b
  exact⟨c.1,gt 1 0 rfl b9 b9 a8 hT,trivial⟩
 .subst h b
  exact⟨c.1,gt 2 0 rfl b9 b9 a8 hT,trivial⟩
 .subst b
  rcases h with h|h|h
  .subst h
   exact⟨c.1,gt 1 0 rfl b9 b9 a8 hT,trivial⟩
  .exact absurd h d
  .exact absurd h e
 .subst h g
  refine⟨c.1,gt n 0 ?_ a7 a7 a8 (by rw[show at'+1=at'+z (pY word 6 (k:Int) size n)from rfl,hT];congr 1;omega),trivial⟩;have:¬((k:Nat):Int)<0:=a7;simp[takes,bz,this]
 .subst h
  rcases b with b|⟨i,b⟩
  .subst b
   exact uW c
  .subst i b
   exact⟨c.1,⟨1,0,rfl,b9,b9,λ_=>rfl,λk j=>by simp[next]at j⟩,trivial⟩
def zR{c0:Code}{c1:Nat->Code}
 (d:Seg E at' c0->E (at'+z c0)=S 1->E at'=S 0/\Good ps word E at' c0)
 (U:∀r,Seg E r (c1 r)->E (r+z (c1 r))=S 0->E r=S 0/\Good ps word E r (c1 r))
 (a:Seg E at' (gu at' c0 c1))(hT:E (at'+z (gu at' c0 c1))=S 0):E at'=S 0/\Good ps word E at' (gu at' c0 c1):=by
 unfold gu at a hT|-;rw[ig]at a;obtain⟨g,c,a⟩:=a;rw[ig]at a;obtain⟨i,e,_⟩:=a;obtain⟨b,j⟩:=d g c;obtain⟨V,k⟩:=U _ i e;refine⟨b,fB.2 ⟨j,qU _ rfl b9 ?_ V,fB.2 ⟨k,uU at' rfl b9 b,trivial⟩⟩⟩;rw[<-hT];congr 1;simp only[j7,j9,l4];omega
def Ir{a:Bool}{c1 g:Nat->Code}
 (U:∀r,Seg E r (c1 r)->E (r+z (c1 r))=S 0->E r=S 0/\Good ps word E r (c1 r))
 (k:∀r,Seg E r (g r)->E (r+z (g r))=S 0->E r=S 0/\Good ps word E r (g r))
 (d:Seg E at' (ifC at' c1 a g))(hT:E (at'+z (ifC at' c1 a g))=S 0):E at'=S 1/\Good ps word E at' (ifC at' c1 a g):=by
 unfold ifC at d hT|-;cases a with
 |false=>
   simp only[D7,A8]at d hT|-;obtain⟨c,i⟩:=d;have b:E (at'+1+z (c1 (at'+1)))=S 0:=by rw[<-hT];congr 1;simp only[j9];omega
   obtain⟨V,j⟩:=U _ i b;exact⟨c,qU _ rfl b9 b V,j⟩
 |true=>
   simp only[B1]at d hT|-;obtain⟨c,d⟩:=d;rw[ig]at d;obtain⟨i,e,l⟩:=d;generalize V:at'+1+z (c1 (at'+1))+1=r at *;have b:E (r+z (g r))=S 0:=by rw[<-hT];congr 1;simp only[j9,j7];omega
   obtain⟨m,j⟩:=U _ i e;obtain⟨Q,n⟩:=k _ l b;refine⟨c,qU _ rfl b9 Q m,fB.2 ⟨j,uU _ rfl b9 b,?_⟩⟩;rw[V];exact n
mutual
theorem LL:∀(s:Stm){q:Int}{at':Nat},rS w ps f word q s->Seg E at' (cS word at' s)->E (at'+z (cS word at' s))=S 0->E at'=S 0/\Good ps word E at' (cS word at' s)
 |.mk kind slot size e d el,q,at',h,a,hT=>by
   rw[rS]at h;obtain⟨g,l,G,a6⟩:=h;rw[cS]at a hT|-;by_cases i:kind=5
   .rw[l8 i]at a hT|-
    have j:z e=1:=by
     obtain⟨_,_,_,_,_,h⟩:=g;omega
    exact zR (λs t=>wC e j l b9 s t) (λr s t=>nZ d G s t) a hT
   .rw[j8 i]at a hT|-
    rw[ig]at a;obtain⟨m,c⟩:=a;rw[j7,<-C0]at hT
    have b:E (at'+z (cEs at' 0 e))=S (z e:Int)/\Good ps word E (at'+z (cEs at' 0 e)) (if kind=4 then ifC (at'+z (cEs at' 0 e)) (λr=>cSs word r d) (!el.isEmpty) (λr=>cSs word r el)else pY word kind slot size (z e)):=by
     by_cases k:kind=4
     .rw[l8 k]at c hT|-
      have j:z e=1:=by
       obtain⟨_,_,_,_,_,h⟩:=g;omega
      rw[j];exact Ir (λr s t=>nZ d G s t) (λr s t=>nZ el a6 s t) c hT
     .rw[j8 k]at c hT|-
      exact EG g k i c hT
    obtain⟨t0,n⟩:=uV e l (C5 0) m (by rw[b.1];congr 1;omega);exact⟨t0,fB.2 ⟨n,b.2⟩⟩
theorem nZ:∀(l:List Stm){q:Int}{at':Nat},rSs w ps f word q l->Seg E at' (cSs word at' l)->E (at'+z (cSs word at' l))=S 0->E at'=S 0/\Good ps word E at' (cSs word at' l)
 |[],q,at',h,b,a=>by
   rw[cSs]at a|-;exact⟨by simpa using a,trivial⟩
 |e::l,q,at',h,b,a=>by
   rw[rSs]at h;rw[cSs]at b a|-;rw[ig]at b;rw[j7,<-C0]at a;obtain⟨c,d⟩:=nZ l h.2 b.2 a;obtain⟨t0,g⟩:=LL e h.1 b.1 c;exact⟨t0,fB.2 ⟨g,d⟩⟩
end
def codeOf(word:Bool)(body:List Stm):Code:=cSs word 0 body++leave word
def zS:∀(c pre:Code),Seg (λk=>((pre++c)[k]?).map Prod.snd) (z pre) c
 |[],_=>trivial
 |(x,d)::c,pre=>by
   refine⟨a8,?_⟩;have:=zS c (pre++[(x,d)]);exact SV
def zT{body:List Stm}(h:rSs w ps f word 1 body):
  let E:=λk=>((codeOf word body)[k]?).map Prod.snd
  E 0=S 0/\Good ps word E 0 (codeOf word body):=by
 intro E;have a:Seg E 0 (codeOf word body):=zS (codeOf word body) [];unfold codeOf at a|-;rw[ig]at a;obtain⟨hl,gl⟩:=uW (ps:=ps) a.2;obtain⟨b,c⟩:=nZ body h a.1 hl;exact⟨b,fB.2 ⟨c,gl⟩⟩
end
section
variable{w:Int}{ps:Sig}{f:Nat}{word:Bool}{E:Nat->Option Int}
def fC:∀{c:Code}{at' i:Nat}{x:Ins}{d:Int},Good ps word E at' c->c[i]?=S (x,d)->OkI ps word E (at'+i) x d
 |(y,e)::c,at',0,x,d,h,hi=>by cases hi;exact h.1
 |(y,e)::c,at',i+1,x,d,h,hi=>by
   have:=fC (i:=i) h.2 WG
   rwa [show at'+(i+1)=at'+1+i by omega]
def LM{body:List Stm}(h:rSs w ps f word 1 body){i:Nat}{x:Ins}{d:Int}(j:(codeOf word body)[i]?=S (x,d))(e:x.op=8\/x.op=9):0<=x.a/\x.a<(z (codeOf word body):Int):=by
 obtain⟨t,p,_,_,_,_,l⟩:=fC (zT h).2 j;obtain⟨k,m,g⟩:=l x.a (by unfold next;rcases e with e|e<;>simp[e])
 have n:k<z (codeOf word body):=by
  rcases Se k (z (codeOf word body))with h|h
  .exact h
  .simp only[E5 h,H4]at g;cases g
 omega
def Inv(E:Nat->Option Int)(n:Nat)(out:List Int)(c:List Nat):Prop:=
 (z out)=n/\(∀k v,out[k]?=S v->v = -1\/(E k=S v/\0<=v))/\∀a∈c,∃v,out[a]?=S v/\E a=S v/\0<=v
def left(out:List Int):Nat:=out.countP (· < 0)
def lm:∀{out:List Int}{k:Nat}{v x:Int},out[k]?=S v->v<0->0<=x->left (out.set k x)+1=left out
 |a::out,0,v,x,h,d,I=>by
   cases h;have:¬x<0:=a7;simp[left,d,this]
 |a::out,k+1,v,x,h,d,I=>by
   have:=lm (out:=out) (k:=k) Wl d I;simp only[left,N8,Sb]at *;omega
variable{out:List Int}{c:List Nat}{b v:Int}
def Inv.seen{n k:Nat}(h:Inv E n out c)(hT:E k=S b)(a:out[k]?=S v):v<0\/v=b:=by
 rcases h.2.1 k v a with h|⟨h,_⟩
 .exact .inl a7
 .rw[h]at hT;cases hT;exact .inr rfl
def Inv.find{n k:Nat}(h:Inv E n out c)(hT:E k=S b)(l:0<=b)(i:out[k]?=S v)(p:v<0):
  Inv E n (out.set k b) (c++[k])/\left (out.set k b)+z (c++[k])=left out+z c:=by
 have m:=(l5.1 i).1;refine⟨⟨by simp[h.1],λj u e=>?_,λa g=>?_⟩,?_⟩
 .rw[B9]at e
  by_cases o:k=j
  .subst o;rw[l8 rfl,l8 m]at e;cases e;exact .inr ⟨hT,l⟩
  .rw[j8 o]at e;exact h.2.1 j u e
 .rcases C4.1 g with g|g
  .obtain⟨u,L,q,r⟩:=h.2.2 a g
   by_cases d:k=a
   .subst d;rw[L]at i;cases i;omega
   .exact⟨u,by rw[B9,j8 d];exact L,q,r⟩
  .obtain rfl:a=k:=by simpa using g
   exact⟨b,by rw[B9,l8 rfl,l8 m],hT,l⟩
 .have:=lm i p l
  simp only[j7,j9,l4];omega
end
end
end Go.Lower
namespace Go.Proofs.YtlacbjnmkhndiaaGreatDoor.Low
section
open Go Go.Am Go.Lower
mutual
def lL:Ex->Nat
 |.mk _ _ _ _ _ kids=>iy kids
def iy:List Ex->Nat
 |[]=>0
 |e::l=>1+lL e+iy l
end
def mr:∀l:List Ex,iy l=z l+(l.map lL).sum
 |[]=>by simp[iy]
 |e::l=>by simp only[iy,mr l,j9,l9,D9];omega
def pN(l:List Ex)(k:Nat):Nat:=z l+((l.take k).map lL).sum
def Ei(l:List Ex)(k:Nat):pN l k<=iy l:=by
 rw[mr,pN]
 conv=>rhs;rw[<-H3 k l]
 simp only[B5,L6,j7,D1,F7];omega
def zg{l:List Ex}{k:Nat}{e:Ex}(h:l[k]?=S e):pN l (k+1)=pN l k+lL e:=by
 simp only[pN,D0,h,J3,B5,L6,l9,w9,D9,QI];omega
mutual
def mO:Stm->Nat
 |.mk _ _ _ e a el=>iy e+eJ a+eJ el
def eJ:List Stm->Nat
 |[]=>0
 |e::l=>1+mO e+eJ l
end
def pO:∀l:List Stm,eJ l=z l+(l.map mO).sum
 |[]=>by simp[eJ]
 |e::l=>by simp only[eJ,pO l,j9,l9,D9];omega
def Bg(l:List Stm)(k:Nat):Nat:=z l+((l.take k).map mO).sum
def KE(l:List Stm)(k:Nat):Bg l k<=eJ l:=by
 rw[pO,Bg]
 conv=>rhs;rw[<-H3 k l]
 simp only[B5,L6,j7,D1,F7];omega
def Ej{l:List Stm}{k:Nat}{e:Stm}(h:l[k]?=S e):Bg l (k+1)=Bg l k+mO e:=by
 simp only[Bg,D0,h,J3,B5,L6,l9,w9,D9,QI];omega
def Ha(l:List Stm):z (pL l)=z l:=by rw[nJ,j6]
end
section
open Go Go.Am Go.Lower
attribute[local congr]ite_cc
section
def xx(x:Ins):List C:=[.d (.int .i64 x.op),.d (.int .i64 x.a),.d (.int .i64 x.b),.d (.int .u32 x.n)]
def fb(l:List Ins):List C:=l.flatMap xx
def En:fb []=[]:=rfl
def pQ(x:Ins)(l:List Ins):fb (x::l)=xx x++fb l:=rfl
def Eo(a b:List Ins):fb (a++b)=fb a++fb b:=by simp[fb]
def iK:∀l:List Ins,z (fb l)=z l*4
 |[]=>rfl
 |x::l=>by rw[pQ,j7,iK l];simp only[xx,j9,l4];omega
def wu:∀(pre:List Ins)(x:Ins)(post:List Ins)(n:Int),(fb (pre++x::post)).set (z pre*4+1) (.d (.int .i64 n))=fb (pre ++ {x with a:=n}::post)
 |[],x,post,n=>rfl
 |y::pre,x,post,n=>by
   rw[C3,pQ,C3,pQ,<-wu pre x post n];rw[I6 _ _ (by simp only[xx,j9,l4];omega)];congr 2;simp only[xx,j9,l4];omega
variable{word:Bool}{code:List Ins}{g0 g:Nat->Nat}{b ob:Obs}{s:St}{K K2 E B:Nat}{d:List Nat}{R:AV->(Nat->Nat)->Obs->Prop}{f:Nat->AV}{args:Array Operand}{tys:Array TypeId}{K':St->Prop}
def nr(p:Nat->Bool):ae s ⟨s.f,s.gen,λi=>if p i=T then N else s.obj i⟩:=by
 exact u6
def bH(p:Nat->Bool)(h:R (mJ s.f d) s.gen (λi=>if p i=T then N else s.obj i)):xY d R .normal s:=⟨_,nr p,h⟩
def iE(p:Nat->Bool)(h:R (mJ s.f d) s.gen (λi=>if p i=T then N else s.obj i)):xY d R .ret s:=⟨_,nr p,h⟩
structure Tape (E B:Nat) (word:Bool) (code:List Ins) (g:Nat->Nat) (ob:Obs):Prop where
 t:ob E=some [.d (.bool word),.osl B (g B) 4 0 code.length]
 b:ob B=some (fb code)
 ne:E≠B
def Tape.same{E B:Nat}{g g':Nat->Nat}{ob Y:Obs}(h:Tape E B word code g ob)(hg:g' B=g B)(U:Y E=ob E)(a:Y B=ob B):Tape E B word code g' Y:=
 ⟨by rw[U,hg];exact h.t,by rw[a];exact h.b,h.ne⟩
structure zw (K E B:Nat) (word:Bool) (code:List Ins) (g:Nat->Nat) (ob:Obs) (g':Nat->Nat) (Y:Obs):Prop where
 tape:Tape E B word code g' Y
 gen:∀i,i<K->i≠B->g' i=g i
 obj:∀i,i≠E->i≠B->Y i=ob i
def eK(f:FuncId)(rest:List AV)(a:Bool->Nat->List Ins):Prop:=
 ∀(K E B:Nat)(word:Bool)(code:List Ins)(g:Nat->Nat)(ob:Obs)(p:Nat),Tape E B word code g ob->g E=p->E<K->B<K->(∀i,K<=i->ob i=N)->z code+(a word (z code)).length<=1000000000->
  fX Tryz.prog f (.one (.ptr E p 0)::rest) g ob (λr c Y=>r=uv/\zw K E B word (code++a word (z code)) g ob c Y)
def Tq{E B V p gV n:Nat}{code xs:List Ins}{g:Nat->Nat}{ob:Obs}(j:Tape E B word code g ob)(m:g E=p)(k:ob V=S (fb xs))(H:g V=gV)(hn:z xs=n)(hT:V≠E)(hB:V≠B)(hl:z code+z xs<=1000000000):
  fX Tryz.prog 140 [.one (.ptr E p 0),.one (.osl V gV 4 0 n)] g ob (λr g' Y=>r=uv/\Tape E B word (code++xs) g' Y/\(∀i,i≠B->g' i=g i)/\∀i,i≠E->i≠B->Y i=ob i):=by
 refine hdF 0 Tryz.func140 rfl [] ?_;obtain⟨U,l,a⟩:=j;subst m H hn;simp only[go_sem,U,l,k,a,iK];refine⟨l7 _,l7 _,⟨b9,a7⟩,⟨_,ae.refl _,rfl,⟨?_,?_,a⟩,λi e=>?_,λi e o=>?_⟩⟩
 .simp only[upd,B1,j7]
 .simp only[upd,B1,j8 (B8 a)]
  rw[s6 (by rw[iK];omega),s6 (by rw[iK];omega),Eo]
 .simp only[upd,j8 e]
 .simp only[upd,j8 e,j8 o]
structure Prog (K K2 E B:Nat) (word:Bool) (code:List Ins) (g0:Nat->Nat) (b:Obs) (g:Nat->Nat) (ob:Obs):Prop where
 tape:Tape E B word code g ob
 gen:∀i,i<K->i≠B->g i=g0 i
 obj:∀i,i<K->i≠E->i≠B->ob i=b i
 top:∀i,K2<=i->ob i=none
 tk:E<K
 bk:B<K
 kk:K<=K2
def Prog.start{g:Nat->Nat}{ob:Obs}(h:Tape E B word code g ob)(hT:E<K)(hB:B<K)(J:∀i,K<=i->ob i=N)(a:K<=K2):Prog K K2 E B word code g ob g ob:=
 ⟨h,λ_ _ _=>rfl,λ_ _ _ _=>rfl,λi c=>J i a7,hT,hB,a⟩
def Prog.fin(h:Prog K K2 E B word code g0 b g ob)(J:∀i,K<=i->b i=N):zw K E B word code g0 b g (λi=>if decide (K<=i)=T then N else ob i):=by
 refine⟨h.tape.same rfl ?_ ?_,h.gen,λi U c=>?_⟩
 .have:=h.tk;simp[show ¬K<=E by omega]
 .have:=h.bk;simp[show ¬K<=B by omega]
 .by_cases a:K<=i
  .simp[a,J i a]
  .simp only[a,L2,D7,A8]
   exact h.obj i a7 U c
def Prog.new{K K2 E B V x:Nat}{y:Option (List C)}(h:Prog K K2 E B word code g0 b g ob)(U:K<=V)(k:V<K2):Prog K K2 E B word code g0 b (upd g V x) (upd ob V y):=by
 have e:¬E=V:=by have:=h.tk;omega
 have hB:¬B=V:=by have:=h.bk;omega
 refine⟨h.tape.same (by simp[upd,hB]) (by simp[upd,e]) (by simp[upd,hB]),λi a c=>?_,λi a j c=>?_,λi a=>?_,h.tk,h.bk,h.kk⟩
 .simp only[upd,j8 (show ¬i=V by omega)];exact h.gen i a c
 .simp only[upd,j8 (show ¬i=V by omega)];exact h.obj i a j c
 .simp only[upd,j8 (show ¬i=V by omega)];exact h.top i a
def Prog.genT(h:Prog K K2 E B word code g0 b g ob):g E=g0 E:=h.gen E h.tk h.tape.ne
def cw{K K2 E B V p gV n:Nat}(xs:List Ins)(h:Prog K K2 E B word code g0 b g ob){o:Oper}{k:Box K'}{Bs:Nat}
 (ho:o.op=.call ⟨.value (.func 140),args,tys⟩)(m:g0 E=p)(U:K<=V)(v:V<K2)(w:z xs=n)(A:args.toList.map (St.ev ⟨f,upd g V gV,upd ob V (S (fb xs))⟩)=[.one (.ptr E p 0),.one (.osl V gV 4 0 n)])(hl:z code+z xs<=1000000000)
 (G:∀g' Y,Prog K K2 E B word (code++xs) g0 b g' Y->(∀i,i≠B->i≠V->g' i=g i)->(∀i,i≠E->i≠B->i≠V->Y i=ob i)->K' (St.put ⟨f,g',Y⟩ o.dst uv)):bm (spB Tryz.prog Bs) o ⟨f,upd g V gV,upd ob V (S (fb xs))⟩ k:=by
 have c:=h.new (x:=gV) (y:=S (fb xs)) U v;have H:V≠E:=by have:=h.tk;omega
 have hB:V≠B:=by have:=h.bk;omega
 refine ck ho (R:=λr g' Y=>r=uv/\Tape E B word (code++xs) g' Y/\(∀i,i≠B->g' i=upd g V gV i)/\∀i,i≠E->i≠B->Y i=upd ob V (S (fb xs)) i) ?_ ?_
 .rw[A]
  exact Tq c.tape (c.genT.trans m) VF VF w H hB hl
 .rintro _ g' Y ⟨rfl,t,u,l⟩
  refine G g' Y ⟨t,λi e a=>?_,λi e j a=>?_,λi e=>?_,h.tk,h.bk,h.kk⟩ (λi a q=>?_) (λi j a q=>?_)
  .rw[u i a];exact c.gen i e a
  .rw[l i j a];exact c.obj i e j a
  .have:=h.tk;have:=h.bk;have:=h.kk
   rw[l i a7 a7];exact c.top i e
  .rw[u i a];simp only[upd,j8 q]
  .rw[l i j a];simp only[upd,j8 q]
def bQ{K K2 E B p:Nat}{l:FuncId}{rest:List AV}{a:Bool->Nat->List Ins}(u:eK l rest a)(h:Prog K K2 E B word code g0 b g ob){o:Oper}{k:Box K'}{Bs:Nat}
 (ho:o.op=.call ⟨.value (.func l),args,tys⟩)(m:g0 E=p)(v:args.toList.map (St.ev ⟨f,g,ob⟩)=.one (.ptr E p 0)::rest)(hl:z code+(a word (z code)).length<=1000000000)
 (w:∀g' Y,Prog K K2 E B word (code++a word (z code)) g0 b g' Y->(∀i,i<K2->i≠B->g' i=g i)->(∀i,i≠E->i≠B->Y i=ob i)->K' (St.put ⟨f,g',Y⟩ o.dst uv)):bm (spB Tryz.prog Bs) o ⟨f,g,ob⟩ k:=by
 have U:=h.tk;have x:=h.bk;have y:=h.kk;refine ck ho (R:=λr g' Y=>r=uv/\zw K2 E B word (code++a word (z code)) g ob g' Y) ?_ ?_
 .rw[v]
  exact u K2 E B word code g ob p h.tape (h.genT.trans m) a7 a7 h.top hl
 .rintro _ g' Y ⟨rfl,t,n,j⟩
  refine w g' Y ⟨t,λi c e=>?_,λi c q e=>?_,λi c=>?_,U,x,y⟩ n j
  .rw[n i a7 e];exact h.gen i c e
  .rw[j i q e];exact h.obj i c q e
  .rw[j i a7 a7];exact h.top i c
def CN:eK 78 [] (λword _=>(leave word).map Prod.fst):=by
 intro K E B word code g ob p e m v O J hl;have j:=Prog.start (K2:=K+14) e v O J a7;refine hdF K Tryz.func78 rfl [] ?_;have U:=e.t;cases word with
 |false=>
   have x:z code+1<=1000000000:=hl;simp only[go_sem,U,m];refine cw [⟨11,0,0,0⟩] j rfl m a7 a7 rfl rfl (by exact x) ?_;intro l n a _ _;simp only[go_sem];refine bH (λi=>decide (K<=i)) ?_;exact⟨rfl,a.fin J⟩
 |true=>
   have x:z code+2<=1000000000:=hl;simp only[go_sem,U,m];refine cw [⟨1,0,0,0⟩] j rfl m a7 a7 rfl rfl (by show z code+1<=1000000000;omega) ?_;intro l n a _ _;simp only[go_sem,a.tape.t,a.genT,m];refine cw [⟨11,0,0,0⟩] a rfl m a7 a7 rfl rfl (by simp only[j7,j9,l4];omega) ?_;intro o q k _ _;rw[u7]at k;simp only[go_sem];refine bH (λi=>decide (K<=i)) ?_;exact⟨rfl,k.fin J⟩
def KX{E B I J p l j:Nat}{pre post:List Ins}{x:Ins}{g:Nat->Nat}{ob:Obs}(k:Tape E B word (pre++x::post) g ob)(m:g E=p)(n:ob I=S [.ptr E p 0])(h:g I=l)
 (o:ob J=S [.d (.int .i64 (z pre))])(b:g J=j)(hl:z (pre++x::post)<=1000000000):
  fX Tryz.prog 199 [.one (.ptr I l 0),.one (.ptr J j 0)] g ob (λr g' Y=>r=uv/\g'=g/\Tape E B word (pre ++ {x with a:=(z (pre++x::post):Int)}::post) g Y/\∀i,i≠B->Y i=ob i):=by
 refine hdF 0 Tryz.func199 rfl [] ?_;obtain⟨U,q,e⟩:=k;subst m h b;simp only[go_sem];refine bO c8 ?_;have t:z pre<z (pre++x::post):=by simp only[j7,j9];omega
 simp only[go_sem,U,q,n,o,e,iK,t];refine⟨a7,_,ae.refl _,rfl,rfl,⟨?_,?_,e⟩,λi u=>by simp[upd,u]⟩
 .simp only[upd,j8 e,U,j7,j9]
 .simp only[upd,B1]
  exact congrArg S (wu pre x post _)
structure zx (I J:Nat) (E p at':Nat) (g:Nat->Nat) (ob:Obs) (v:AV):Prop where
 v:v=.one (.clo 199 [.ptr I (g I) 0,.ptr J (g J) 0])
 i:ob I=some [.ptr E p 0]
 j:ob J=some [.d (.int .i64 at')]
def zx.same{I J E p at':Nat}{g g':Nat->Nat}{ob Y:Obs}{v:AV}(h:zx I J E p at' g ob v)(U:g' I=g I)(a:g' J=g J)(c:Y I=ob I)(e:Y J=ob J):zx I J E p at' g' Y v:=
 ⟨by rw[U,a];exact h.v,by rw[c];exact h.i,by rw[e];exact h.j⟩
def OU{K E B p:Nat}{op:Int}{g:Nat->Nat}{ob:Obs}(a:Tape E B word code g ob)(m:g E=p)(v:E<K)(O:B<K)(J:∀i,K<=i->ob i=N)(hl:z code+1<=1000000000):
  fX Tryz.prog 177 [.one (.ptr E p 0),iv .i64 op] g ob (λr g' Y=>zx (K+2) (K+5) E p (z code) g' Y r/\Tape E B word (code++[⟨op,0,0,0⟩]) g' Y/\(∀i,i<K->i≠B->g' i=g i)/\(∀i,i<K->i≠E->i≠B->Y i=ob i)/\∀i,K+6<=i->Y i=N):=by
 refine hdF K Tryz.func177 rfl [4] ?_;have L:=Prog.start (K2:=K+17) a v O J a7;have U:=a.t;have Q:=a.b;have X:¬E=K+2:=a7;have Z:¬E=K+5:=a7;have b1:¬B=K+2:=a7;have b2:¬B=K+5:=a7;have d':=L.new (V:=K+2) (x:=nxC 233 (g (K+2))) (y:=S [.ptr E p 0]) a7 a7;have a':=d'.new (V:=K+5) (x:=nxC 4 (g (K+5))) (y:=S [.d (.int .i64 0)]) a7 a7
 have fm:Prog K (K+17) E B word code g ob (upd (upd g (K+2) (nxC 233 (g (K+2)))) (K+5) (nxC 4 (g (K+5)))) (upd (upd (upd ob (K+2) (S [.ptr E p 0])) (K+5) (S [.d (.int .i64 0)])) (K+5) (S [.d (.int .i64 (z code))])):=by
  have:=a'.new (V:=K+5) (x:=(upd (upd g (K+2) (nxC 233 (g (K+2)))) (K+5) (nxC 4 (g (K+5)))) (K+5)) (y:=S [.d (.int .i64 (z code))]) a7 a7;have e:∀(f:Nat->Nat)(i:Nat),upd f i (f i)=f:=λf i=>by funext j;simp only[upd];split<;>simp_all
  rw[e]at this;exact this
 simp only[go_sem,U,Q,m,X,Z,b1,b2];refine cw [⟨op,0,0,0⟩] fm rfl m a7 a7 rfl rfl (by exact hl) ?_;intro o q k u A;have H:o (K+2)=nxC 233 (g (K+2)):=by rw[u _ a7 a7];simp[upd]
 have I:o (K+5)=nxC 4 (g (K+5)):=by rw[u _ a7 a7];simp[upd]
 have e3:q (K+2)=S [.ptr E p 0]:=by rw[A _ a7 a7 a7];simp[upd]
 have e4:q (K+5)=S [.d (.int .i64 (z code))]:=by rw[A _ a7 a7 a7];simp[upd]
 simp only[go_sem,H,I];refine iE (λi=>decide (K+6<=i)) ?_;refine⟨⟨?_,?_,?_⟩,k.tape.same rfl ?_ ?_,k.gen,λi l hT hB=>?_,λi l=>?_⟩
 .simp only[go_sem,mJ,H,I]
 .simp[e3]
 .simp[e4]
 .simp[show ¬K+6<=E by omega]
 .simp[show ¬K+6<=B by omega]
 .simp only[show ¬K+6<=i by omega,L2,D7,A8];exact k.obj i l hT hB
 .simp[l]
end
section
variable{word:Bool}{g0 g:Nat->Nat}{b ob:Obs}{code:List Ins}{f:Nat->AV}{args:Array Operand}{tys:Array TypeId}{K':St->Prop}{op num slot size:Int}
def Prog.more{K K2 L E B:Nat}(h:Prog K K2 E B word code g0 b g ob)(a:K2<=L):Prog K L E B word code g0 b g ob:=
 ⟨h.tape,h.gen,h.obj,λi c=>h.top i a7,h.tk,h.bk,by have:=h.kk;omega⟩
structure Open (I J E p at' l gJ:Nat) (g:Nat->Nat) (ob:Obs):Prop where
 gi:g I=l
 gj:g J=gJ
 i:ob I=some [.ptr E p 0]
 j:ob J=some [.d (.int .i64 at')]
def Open.same{I J E p at' l a:Nat}{g g':Nat->Nat}{ob Y:Obs}(h:Open I J E p at' l a g ob)(U:g' I=g I)(c:g' J=g J)(d:Y I=ob I)(e:Y J=ob J):Open I J E p at' l a g' Y:=
 ⟨U.trans h.gi,c.trans h.gj,d.trans h.i,e.trans h.j⟩
def iL{K K2 E B p:Nat}{op:Int}(h:Prog K K2 E B word code g0 b g ob){o:Oper}{k:Box K'}{Bs:Nat}
 (ho:o.op=.call ⟨.value (.func 177),args,tys⟩)(m:g0 E=p)(q:args.toList.map (St.ev ⟨f,g,ob⟩)=[.one (.ptr E p 0),iv .i64 op])(hl:z code+1<=1000000000)
 (s:∀g' Y l d,Prog K (K2+6) E B word (code++[⟨op,0,0,0⟩]) g0 b g' Y->Open (K2+2) (K2+5) E p (z code) l d g' Y->(∀i,i<K2->i≠B->g' i=g i)->(∀i,i<K2->i≠E->i≠B->Y i=ob i)->K' (St.put ⟨f,g',Y⟩ o.dst (.one (.clo 199 [.ptr (K2+2) l 0,.ptr (K2+5) d 0])))):bm (spB Tryz.prog Bs) o ⟨f,g,ob⟩ k:=by
 have U:=h.tk;have u:=h.bk;have w:=h.kk;refine ck ho (R:=λr g' Y=>zx (K2+2) (K2+5) E p (z code) g' Y r/\Tape E B word (code++[⟨op,0,0,0⟩]) g' Y/\(∀i,i<K2->i≠B->g' i=g i)/\(∀i,i<K2->i≠E->i≠B->Y i=ob i)/\∀i,K2+6<=i->Y i=N) ?_ ?_
 .rw[q]
  exact OU h.tape (h.genT.trans m) a7 a7 h.top hl
 .rintro _ g' Y ⟨⟨rfl,l2,y⟩,t,e,j,v⟩
  refine s g' Y _ _ ⟨t,λi c a=>?_,λi c n a=>?_,v,U,u,a7⟩ ⟨rfl,rfl,l2,y⟩ e j
  .rw[e i a7 a];exact h.gen i c a
  .rw[j i a7 n a];exact h.obj i c n a
def fS{K K2 E B p I J l d t:Nat}{pre post:List Ins}{x:Ins}(h:Prog K K2 E B word (pre++x::post) g0 b g ob)(u:Open I J E p (z pre) l d g ob){o:Oper}{k:Box K'}{Bs:Nat}
 (ho:o.op=.call ⟨.value (.tmp t),args,tys⟩)(m:g0 E=p)(hf:f t=.one (.clo 199 [.ptr I l 0,.ptr J d 0]))(y:args.toList.map (St.ev ⟨f,g,ob⟩)=[])(hl:z (pre++x::post)<=1000000000)
 (hk:∀Y,Prog K K2 E B word (pre ++ {x with a:=(z (pre++x::post):Int)}::post) g0 b g Y->(∀i,i≠B->Y i=ob i)->K' (St.put ⟨f,g,Y⟩ o.dst uv)):bm (spB Tryz.prog Bs) o ⟨f,g,ob⟩ k:=by
 have U:=h.tk;have h2:=h.bk;have h3:=h.kk;refine EY ho hf (R:=λr g' Y=>r=uv/\g'=g/\Tape E B word (pre ++ {x with a:=(z (pre++x::post):Int)}::post) g Y/\∀i,i≠B->Y i=ob i) ?_ ?_
 .rw[y]
  exact KX h.tape (h.genT.trans m) u.i u.gi u.j u.gj hl
 .rintro _ g' Y ⟨rfl,rfl,t,q⟩
  refine hk Y ⟨t,h.gen,λi hi H n=>?_,λi hi=>?_,U,h2,h3⟩ q
  .rw[q i n];exact h.obj i hi H n
  .rw[q i a7];exact h.top i hi
def aZ(e:Ex):z (cxD e)=6:=by cases e;simp[cxD]
abbrev ipE(e:Ex):AV:=.one (.d (.iptr (cxD e)))
abbrev bu(d:Int)(e:Ex):Bool->Nat->List Ins:=λ_ at'=>(cE at' d e).map Prod.fst
def zy{A:Type}(f:Nat->A)(i:Nat):upd f i (f i)=f:=by funext j;simp only[upd];split<;>simp_all
def Ep{a b:Ex}{d:Int}(ha:eK 176 [ipE a] (bu d a))(hb:eK 176 [ipE b] (bu d b)):
  eK 198 [ipE (.mk 8 op num slot size [a,b])] (bu d (.mk 8 op num slot size [a,b])):=by
 intro K E B word code g ob p L m v O J hl
 have bd:z code+((cE (z code) d a).length+4+(cE (z code+(cE (z code) d a).length+1+3) d b).length+2)<=1000000000:=by
  have:(bu d (.mk 8 op num slot size [a,b]) word (z code)).length=_:=rfl;simp only[bu,cE,cAO,jM,gY,jv,j6,B1,Sv,j7,j9,l4]at hl;simp only[C0,Nat.reduceAdd]at hl|-;omega
 have hp:=Prog.start (K2:=K+50) L v O J a7;refine hdF K Tryz.func198 rfl [] ?_;have d':=hp.new (V:=K+4) (x:=nxC 222 (g (K+4))) (y:=S [.d (.int .i64 0),.d (.int .i64 0),.d (.int .i64 0),.d (.int .u32 0)]) a7 a7;have a':=d'.new (V:=K+4) (x:=(upd g (K+4) (nxC 222 (g (K+4)))) (K+4)) (y:=S (xx ⟨7,0,0,0⟩)) a7 a7;rw[zy]at a';have U:=L.t;have h2:=L.b;have hE:cxD (.mk 8 op num slot size [a,b])=[.int .i64 8,.int .i64 op,.int .u32 num,.int .i64 slot,.int .i64 size,.sl [cxD a,cxD b]]:=by simp only[cxD,xt]
 unfold ipE;rw[hE];simp only[go_sem,U,h2,m,aZ];refine bQ ha a' rfl m rfl (by simp only[bu,j6];omega) ?_;intro g1 av p1 q1 r1;have A:av (K+4)=S [.d (.int .i64 7),.d (.int .i64 0),.d (.int .i64 0),.d (.int .u32 0)]:=by rw[r1 _ a7 a7];simp[upd,xx]
 have g4:g1 (K+4)=nxC 222 (g (K+4)):=by rw[q1 _ a7 a7];simp[upd]
 simp only[go_sem,A,g4];refine cw [⟨7,0,0,0⟩] p1 rfl m a7 a7 rfl rfl V0 ?_;intro g2 bo p2 q2 r2;have A:bo (K+4)=S [.d (.int .i64 7),.d (.int .i64 0),.d (.int .i64 0),.d (.int .u32 0)]:=by rw[r2 _ a7 a7 a7];exact A
 have g4:g2 (K+4)=nxC 222 (g (K+4)):=by rw[q2 _ a7 a7];exact g4
 simp only[go_sem,A,g4];refine iL p2 rfl m rfl V0 ?_;intro g3 b7 r u p3 o1 q3 r3;have A:b7 (K+4)=S [.d (.int .i64 7),.d (.int .i64 0),.d (.int .i64 0),.d (.int .u32 0)]:=by rw[r3 _ a7 a7 a7];exact A
 have g4:g3 (K+4)=nxC 222 (g (K+4)):=by rw[q3 _ a7 a7];exact g4
 simp only[go_sem,A,g4];refine cw [⟨1,0,0,0⟩] p3 rfl m a7 a7 rfl rfl V0 ?_;intro c bf p4 Q r4;have A:bf (K+4)=S [.d (.int .i64 7),.d (.int .i64 0),.d (.int .i64 0),.d (.int .u32 0)]:=by rw[r4 _ a7 a7 a7];exact A
 have g4:c (K+4)=nxC 222 (g (K+4)):=by rw[Q _ a7 a7];exact g4
 have o1:=o1.same (g':=c) (Y:=bf) (Q _ a7 a7) (Q _ a7 a7) (r4 _ a7 a7 a7) (r4 _ a7 a7 a7);simp only[go_sem,A,g4];refine iL p4 rfl m rfl V0 ?_;intro g5 b' bn b1 p5 I q5 r5;have A:b' (K+4)=S [.d (.int .i64 7),.d (.int .i64 0),.d (.int .i64 0),.d (.int .u32 0)]:=by rw[r5 _ a7 a7 a7];exact A
 have g4:g5 (K+4)=nxC 222 (g (K+4)):=by rw[q5 _ a7 a7];exact g4
 have o1:=o1.same (g':=g5) (Y:=b') (q5 _ a7 a7) (q5 _ a7 a7) (r5 _ a7 a7 a7) (r5 _ a7 a7 a7);simp only[go_sem,A,g4];rw[u7,u7]at p5;have j:(code++bu d a word (z code)++[(⟨7,0,0,0⟩:Ins)]).length=z code+(cE (z code) d a).length+1:=by simp only[bu,j7,j6,j9,l4]
 have o:(code++bu d a word (z code)++[(⟨7,0,0,0⟩:Ins)]++(⟨9,0,0,0⟩:Ins)::[⟨1,0,0,0⟩,⟨8,0,0,0⟩]).length=z code+(cE (z code) d a).length+1+3:=by rw[j7,j];rfl
 have e6:(code++bu d a word (z code)++[(⟨7,0,0,0⟩:Ins)]++(⟨9,0,0,0⟩:Ins)::[⟨1,0,0,0⟩]).length=z code+(cE (z code) d a).length+1+2:=by rw[j7,j];rfl
 refine fS (pre:=code++bu d a word (z code)++[⟨7,0,0,0⟩]) (x:=⟨9,0,0,0⟩) (post:=[⟨1,0,0,0⟩,⟨8,0,0,0⟩]) p5 o1 rfl m rfl rfl (by rw[o];omega) ?_;intro P p6 r6;have A:P (K+4)=S [.d (.int .i64 7),.d (.int .i64 0),.d (.int .i64 0),.d (.int .u32 0)]:=by rw[r6 _ a7];exact A
 have I:=I.same (g':=g5) (Y:=P) rfl rfl (r6 _ a7) (r6 _ a7);rw[o]at p6;generalize hX:code++bu d a word (z code)++[(⟨7,0,0,0⟩:Ins)]=X at *;have W:(X++(⟨9,((z code+(cE (z code) d a).length+1+3:Nat):Int),0,0⟩:Ins)::[⟨1,0,0,0⟩,⟨8,0,0,0⟩]).length=z code+(cE (z code) d a).length+1+3:=by rw[j7,j];rfl
 simp only[go_sem,A,g4,aZ];refine bQ hb p6 rfl m rfl (by simp only[W,bu,j6];omega) ?_;intro l ad p7 q7 r7;rw[W]at p7;have A:ad (K+4)=S [.d (.int .i64 7),.d (.int .i64 0),.d (.int .i64 0),.d (.int .u32 0)]:=by rw[r7 _ a7 a7];exact A
 have g4:l (K+4)=nxC 222 (g (K+4)):=by rw[q7 _ a7 a7];exact g4
 have I:=I.same (g':=l) (Y:=ad) (q7 _ a7 a7) (q7 _ a7 a7) (r7 _ a7 a7) (r7 _ a7 a7);simp only[go_sem,A,g4];refine cw [⟨7,0,0,0⟩,⟨7,0,0,0⟩] p7 rfl m a7 a7 rfl rfl (by simp only[j7,j,bu,j6,j9,l4];omega) ?_;intro s h k q8 n;have I:=I.same (g':=s) (Y:=h) (q8 _ a7 a7) (q8 _ a7 a7) (n _ a7 a7 a7) (n _ a7 a7 a7)
 have k:Prog K (K+50+6+6) E B word ((X++[⟨9,((z code+(cE (z code) d a).length+1+3:Nat):Int),0,0⟩,⟨1,0,0,0⟩])++⟨8,0,0,0⟩::(bu d b word (z code+(cE (z code) d a).length+1+3)++[⟨7,0,0,0⟩,⟨7,0,0,0⟩])) g ob s h:=by
  have:=k;exact zv
 have Z:(X++[(⟨9,((z code+(cE (z code) d a).length+1+3:Nat):Int),0,0⟩:Ins),(⟨1,0,0,0⟩:Ins)]).length=z (X++[(⟨9,0,0,0⟩:Ins)]++[(⟨1,0,0,0⟩:Ins)]):=a8
 have f:((X++[(⟨9,((z code+(cE (z code) d a).length+1+3:Nat):Int),0,0⟩:Ins),⟨1,0,0,0⟩])++(⟨8,0,0,0⟩:Ins)::(bu d b word (z code+(cE (z code) d a).length+1+3)++[⟨7,0,0,0⟩,⟨7,0,0,0⟩])).length=z code+(cE (z code) d a).length+1+3+(cE (z code+(cE (z code) d a).length+1+3) d b).length+2:=by
  simp only[j7,j9,l4,j,bu,j6];omega
 rw[<-Z]at I;simp only[go_sem];refine fS k I rfl m rfl rfl (by rw[f];omega) ?_;intro w q r9;rw[f]at q;simp only[go_sem];refine bH (λi=>decide (K<=i)) ?_;refine⟨rfl,?_⟩
 have e:code++bu d (.mk 8 op num slot size [a,b]) word (z code)=(X++[(⟨9,((z code+(cE (z code) d a).length+1+3:Nat):Int),0,0⟩:Ins),⟨1,0,0,0⟩])++⟨8,((z code+(cE (z code) d a).length+1+3+(cE (z code+(cE (z code) d a).length+1+3) d b).length+2:Nat):Int),0,0⟩::(bu d b word (z code+(cE (z code) d a).length+1+3)++[⟨7,0,0,0⟩,⟨7,0,0,0⟩]):=by
  rw[<-hX];simp only[bu,cE,cAO,jM,gY,jv,B1,Sv,B5,l9,w9,u7,C3,A6,j9,l4,C7]
 rw[e];exact q.fin J
def Er{a b:Ex}{d:Int}(ha:eK 176 [ipE a] (bu d a))(hb:eK 176 [ipE b] (bu d b)):
  eK 198 [ipE (.mk 9 op num slot size [a,b])] (bu d (.mk 9 op num slot size [a,b])):=by
 intro K E B word code g ob p L m v O J hl
 have bd:z code+((cE (z code) d a).length+3+(cE (z code+(cE (z code) d a).length+3) d b).length+2)<=1000000000:=by
  have:(bu d (.mk 9 op num slot size [a,b]) word (z code)).length=_:=rfl;simp only[bu,cE,cAO,jM,gY,jv,j6,show ¬(9:Int)=8 by decide,A8,B1,Sw,j7,j9,l4]at hl;simp only[C0,J6,Nat.reduceAdd]at hl|-;omega
 have hp:=Prog.start (K2:=K+50) L v O J a7;refine hdF K Tryz.func198 rfl [] ?_;have d':=hp.new (V:=K+4) (x:=nxC 222 (g (K+4))) (y:=S [.d (.int .i64 0),.d (.int .i64 0),.d (.int .i64 0),.d (.int .u32 0)]) a7 a7;have a':=d'.new (V:=K+4) (x:=(upd g (K+4) (nxC 222 (g (K+4)))) (K+4)) (y:=S (xx ⟨7,0,0,0⟩)) a7 a7;rw[zy]at a';have U:=L.t;have h2:=L.b;have hE:cxD (.mk 9 op num slot size [a,b])=[.int .i64 9,.int .i64 op,.int .u32 num,.int .i64 slot,.int .i64 size,.sl [cxD a,cxD b]]:=by simp only[cxD,xt]
 unfold ipE;rw[hE];simp only[go_sem,U,h2,m,aZ];refine bQ ha a' rfl m rfl (by simp only[bu,j6];omega) ?_;intro g1 av p1 q1 r1;have A:av (K+4)=S [.d (.int .i64 7),.d (.int .i64 0),.d (.int .i64 0),.d (.int .u32 0)]:=by rw[r1 _ a7 a7];simp[upd,xx]
 have g4:g1 (K+4)=nxC 222 (g (K+4)):=by rw[q1 _ a7 a7];simp[upd]
 simp only[go_sem,A,g4];refine iL p1 rfl m rfl V0 ?_;intro g3 b7 r u p3 o1 q3 r3;have A:b7 (K+4)=S [.d (.int .i64 7),.d (.int .i64 0),.d (.int .i64 0),.d (.int .u32 0)]:=by rw[r3 _ a7 a7 a7];exact A
 have g4:g3 (K+4)=nxC 222 (g (K+4)):=by rw[q3 _ a7 a7];exact g4
 simp only[go_sem,A,g4];refine cw [⟨1,0,0,1⟩] p3 rfl m a7 a7 rfl rfl V0 ?_;intro c bf p4 Q r4;have A:bf (K+4)=S [.d (.int .i64 7),.d (.int .i64 0),.d (.int .i64 0),.d (.int .u32 0)]:=by rw[r4 _ a7 a7 a7];exact A
 have g4:c (K+4)=nxC 222 (g (K+4)):=by rw[Q _ a7 a7];exact g4
 have o1:=o1.same (g':=c) (Y:=bf) (Q _ a7 a7) (Q _ a7 a7) (r4 _ a7 a7 a7) (r4 _ a7 a7 a7);simp only[go_sem,A,g4];refine iL p4 rfl m rfl V0 ?_;intro g5 b' bn b1 p5 I q5 r5;have A:b' (K+4)=S [.d (.int .i64 7),.d (.int .i64 0),.d (.int .i64 0),.d (.int .u32 0)]:=by rw[r5 _ a7 a7 a7];exact A
 have g4:g5 (K+4)=nxC 222 (g (K+4)):=by rw[q5 _ a7 a7];exact g4
 have o1:=o1.same (g':=g5) (Y:=b') (q5 _ a7 a7) (q5 _ a7 a7) (r5 _ a7 a7 a7) (r5 _ a7 a7 a7);simp only[go_sem,A,g4];rw[u7,u7]at p5;have j:(code++bu d a word (z code)).length=z code+(cE (z code) d a).length:=by simp only[bu,j7,j6,j9,l4]
 have o:(code++bu d a word (z code)++(⟨9,0,0,0⟩:Ins)::[⟨1,0,0,1⟩,⟨8,0,0,0⟩]).length=z code+(cE (z code) d a).length+3:=by rw[j7,j];rfl
 have e6:(code++bu d a word (z code)++(⟨9,0,0,0⟩:Ins)::[⟨1,0,0,1⟩]).length=z code+(cE (z code) d a).length+2:=by rw[j7,j];rfl
 refine fS (pre:=code++bu d a word (z code)) (x:=⟨9,0,0,0⟩) (post:=[⟨1,0,0,1⟩,⟨8,0,0,0⟩]) p5 o1 rfl m rfl rfl (by rw[o];omega) ?_;intro P p6 r6;have A:P (K+4)=S [.d (.int .i64 7),.d (.int .i64 0),.d (.int .i64 0),.d (.int .u32 0)]:=by rw[r6 _ a7];exact A
 have I:=I.same (g':=g5) (Y:=P) rfl rfl (r6 _ a7) (r6 _ a7);rw[o]at p6;generalize hX:code++bu d a word (z code)=X at *;have W:(X++(⟨9,((z code+(cE (z code) d a).length+3:Nat):Int),0,0⟩:Ins)::[⟨1,0,0,1⟩,⟨8,0,0,0⟩]).length=z code+(cE (z code) d a).length+3:=by rw[j7,j];rfl
 simp only[go_sem,A,g4,aZ];refine bQ hb p6 rfl m rfl (by simp only[W,bu,j6];omega) ?_;intro l ad p7 q7 r7;rw[W]at p7;have A:ad (K+4)=S [.d (.int .i64 7),.d (.int .i64 0),.d (.int .i64 0),.d (.int .u32 0)]:=by rw[r7 _ a7 a7];exact A
 have g4:l (K+4)=nxC 222 (g (K+4)):=by rw[q7 _ a7 a7];exact g4
 have I:=I.same (g':=l) (Y:=ad) (q7 _ a7 a7) (q7 _ a7 a7) (r7 _ a7 a7) (r7 _ a7 a7);simp only[go_sem,A,g4];refine cw [⟨7,0,0,0⟩,⟨7,0,0,0⟩] p7 rfl m a7 a7 rfl rfl (by simp only[j7,j,bu,j6,j9,l4];omega) ?_;intro s h k q8 n;have I:=I.same (g':=s) (Y:=h) (q8 _ a7 a7) (q8 _ a7 a7) (n _ a7 a7 a7) (n _ a7 a7 a7)
 have k:Prog K (K+50+6+6) E B word ((X++[⟨9,((z code+(cE (z code) d a).length+3:Nat):Int),0,0⟩,⟨1,0,0,1⟩])++⟨8,0,0,0⟩::(bu d b word (z code+(cE (z code) d a).length+3)++[⟨7,0,0,0⟩,⟨7,0,0,0⟩])) g ob s h:=by
  have:=k;exact zv
 have Z:(X++[(⟨9,((z code+(cE (z code) d a).length+3:Nat):Int),0,0⟩:Ins),(⟨1,0,0,1⟩:Ins)]).length=z (X++[(⟨9,0,0,0⟩:Ins)]++[(⟨1,0,0,1⟩:Ins)]):=a8
 have f:((X++[(⟨9,((z code+(cE (z code) d a).length+3:Nat):Int),0,0⟩:Ins),⟨1,0,0,1⟩])++(⟨8,0,0,0⟩:Ins)::(bu d b word (z code+(cE (z code) d a).length+3)++[⟨7,0,0,0⟩,⟨7,0,0,0⟩])).length=z code+(cE (z code) d a).length+3+(cE (z code+(cE (z code) d a).length+3) d b).length+2:=by
  simp only[j7,j9,l4,j,bu,j6];omega
 rw[<-Z]at I;simp only[go_sem];refine fS k I rfl m rfl rfl (by rw[f];omega) ?_;intro w q r9;rw[f]at q;simp only[go_sem];refine bH (λi=>decide (K<=i)) ?_;refine⟨rfl,?_⟩
 have e:code++bu d (.mk 9 op num slot size [a,b]) word (z code)=(X++[(⟨9,((z code+(cE (z code) d a).length+3:Nat):Int),0,0⟩:Ins),⟨1,0,0,1⟩])++⟨8,((z code+(cE (z code) d a).length+3+(cE (z code+(cE (z code) d a).length+3) d b).length+2:Nat):Int),0,0⟩::(bu d b word (z code+(cE (z code) d a).length+3)++[⟨7,0,0,0⟩,⟨7,0,0,0⟩]):=by
  rw[<-hX];simp only[bu,cE,cAO,jM,gY,jv,show ¬(9:Int)=8 by decide,A8,B1,Sw,B5,l9,w9,u7,C3,A6,j9,l4,J6]
 rw[e];exact q.fin J
end
def uD:∀(l:List Ex)(k:Nat)(e:Ex)(at':Nat)(d:Int),l[k]?=S e->cEs at' d (l.take (k+1))=cEs at' d (l.take k)++cE (at'+z (cEs at' d (l.take k))) (d+k) e
 |[],k,e,at',d,h=>by simp at h
 |x::l,0,e,at',d,h=>by
   simp at h;subst h;simp[cEs]
 |x::l,k+1,e,at',d,h=>by
   have q:l[k]?=S e:=by simpa using h
   have a:=uD l k e (at'+z (cE at' d x)) (d+1) q;rw[G5,G5,cEs,cEs,a,u7,j7,C0];rw[show d+1+(k:Int)=d+((k+1:Nat):Int) by omega]
def rM(l:List Ex)(k:Nat)(at':Nat)(d:Int):z (cEs at' d (l.take k))<=z (cEs at' d l):=by
 have:∀(l:List Ex)(k at':Nat)(d:Int),z (cEs at' d (l.take k))<=z (cEs at' d l):=by
  intro l
  induction l with
  |nil=>intro k at' d;simp[cEs]
  |cons x l a=>
    intro k at' d;cases k with
    |zero=>simp[cEs]
    |succ k=>
      rw[G5,cEs,cEs,j7,j7];have:=a k (at'+z (cE at' d x)) (d+1);omega
 exact this l k at' d
def qH{w:Int}{ps:Sig}{f:Nat}{q:Int}:∀{l:List Ex}{k:Nat}{e:Ex},rEs w ps f q l->l[k]?=S e->rE w ps f q e
 |[],k,e,_,h=>by simp at h
 |x::l,0,e,V,h=>by simp at h;subst h;rw[rEs]at V;exact V.1
 |x::l,k+1,e,V,h=>by rw[rEs]at V;exact qH V.2 Wl
def lM{l:List Ex}{k:Nat}{e:Ex}(h:l[k]?=S e):lL e<iy l:=by
 have a:=zg h;have b:=Ei l (k+1);have c:=(l5.1 h).1;have d:z l<=pN l k:=by unfold pN;omega
 omega
def OV{w:Int}{ps:Sig}{fi:Nat}:∀(al:Nat)(e:Ex)(q d:Int),lL e<=al->al<=1000000000000->rE w ps fi q e->eK 176 [ipE e] (bu d e):=by
 intro al
 induction al using Nat.strongRecOn with
 |ind al W=>
 intro e q d hN b4 V;obtain⟨kind,op,num,slot,size,G⟩:=e;have az:lL (.mk kind op num slot size G)=iy G:=rfl;rw[rE]at V;obtain⟨an,u⟩:=V;have X:cxD (.mk kind op num slot size G)=[.int .i64 kind,.int .i64 op,.int .u32 num,.int .i64 slot,.int .i64 size,.sl (G.map cxD)]:=by simp only[cxD,nH]
 intro K E B word code g ob p ht m v O J hl;have Z:=Prog.start (K2:=K+107) ht v O J a7;refine hdF K Tryz.func176 rfl [] ?_;unfold ipE;rw[X];by_cases r:kind=8\/kind=9
 .have y:z G=2:=by
   rcases r with rfl|rfl
   .exact Uf
   .exact Uf
  obtain⟨a,b,rfl⟩:∃a b,G=[a,b]:=by
   match G,y with
   |[a,b],_=>exact⟨a,b,rfl⟩
  have ha:eK 176 [ipE a] (bu d a):=W (lL a) (by have:=lM (l:=[a,b]) (k:=0) rfl;omega) a (q+1) d (l7 _) (by have:=lM (l:=[a,b]) (k:=0) rfl;omega) (qH (k:=0) u rfl);have hb:eK 176 [ipE b] (bu d b):=W (lL b) (by have:=lM (l:=[a,b]) (k:=1) rfl;omega) b (q+1) d (l7 _) (by have:=lM (l:=[a,b]) (k:=1) rfl;omega) (qH (k:=1) u rfl);rcases r with rfl|rfl
  .simp only[go_sem]
   refine bQ (Ep (op:=op) (num:=num) (slot:=slot) (size:=size) ha hb) Z rfl m (by unfold ipE;rw[X];rfl) hl ?_;exact y2
  .simp only[go_sem]
   refine bQ (Er (op:=op) (num:=num) (slot:=slot) (size:=size) ha hb) Z rfl m (by unfold ipE;rw[X];rfl) hl ?_;exact y2
 .have h8:¬kind=8:=λh=>r (.inl h)
  have h9:¬kind=9:=λh=>r (.inr h);have A:cE (z code) d (.mk kind op num slot size G)=cEs (z code) d G++one kind op num slot size (d+z G):=by rw[cE,j8 r]
  have ch:z code+(cEs (z code) d G).length+(one kind op num slot size (d+z G)).length<=1000000000:=by
   have:(bu d (.mk kind op num slot size G) word (z code)).length=_:=rfl;simp only[bu,A,j6,j7]at hl;omega
  simp only[go_sem,h8,h9,j6]
  refine dZ (λn s=>∃k:Nat,n+k=z G/\s.f 0=.one (.ptr E p 0)/\s.f 1=.one (.d (.iptr [.int .i64 kind,.int .i64 op,.int .u32 num,.int .i64 slot,.int .i64 size,.sl (G.map cxD)]))/\s.f 24=iv .i64 (z G)/\s.f 25=iv .i64 k/\
   Prog K (K+107) E B word (code++(cEs (z code) d (G.take k)).map Prod.fst) g ob s.gen s.obj) (z G) ?_ ?_
  .refine⟨0,rfl,?_⟩
   rw[L5,cEs,w9,s7];simp only[go_sem];exact Z
  .rintro n f g1 av ⟨k,hk,f0,f1,c,j,p1⟩
   simp only at f0 f1 c j p1;have b6:z G<=iy G:=by rw[mr];omega
   have hw:=ac (k:=k) a7;by_cases Q:k<z G
   .obtain⟨e,U⟩:=getq Q
    have P:=lM U;have t:=uD G k e (z code) d U;have a1:=rM G (k+1) (z code) d
    have cc:(cEs (z code) d (G.take k)).length+(cE (z code+(cEs (z code) d (G.take k)).length) (d+k) e).length<=(cEs (z code) d G).length:=by
     rw[t,j7]at a1;exact a1
    have H:(code++(cEs (z code) d (G.take k)).map Prod.fst).length=z code+(cEs (z code) d (G.take k)).length:=by rw[j7,j6]
    simp only[go_sem,f0,f1,c,j,Q,U,j6,aZ];refine bQ (W (lL e) a7 e (q+1) (d+k) (l7 _) a7 (qH u U)) p1 rfl m rfl (by rw[H];simp only[bu,j6];omega) ?_;intro g2 bo p2 q2 r2;rw[H]at p2;simp only[go_sem,f0,f1,c,j,hw];refine dG (n-1) a7 ⟨k+1,a7,?_⟩;simp only[go_sem,f0,f1,c,j,hw];rw[t,B5,<-u7];exact p2
   .have b0:k=z G:=a7
    subst b0;rw[H8]at p1;have H:(code++(cEs (z code) d G).map Prod.fst).length=z code+(cEs (z code) d G).length:=by rw[j7,j6]
    have bs:∀(x:Ins),one kind op num slot size (d+z G)=[(x,d+z G)]->∀g' Y,Prog K (K+107) E B word (code++(cEs (z code) d G).map Prod.fst++[x]) g ob g' Y->zw K E B word (code++bu d (.mk kind op num slot size G) word (z code)) g ob g' (λi=>if decide (K<=i)=T then N else Y i):=by
     intro x I g' Y L
     have:code++bu d (.mk kind op num slot size G) word (z code)=code++(cEs (z code) d G).map Prod.fst++[x]:=by
      simp only[bu,A,I,B5,l9,w9,u7]
     rw[this];exact L.fin J
    obtain⟨_,_,_,_,_,h⟩:=an
    have o:kind=1\/kind=2\/kind=3\/kind=4\/kind=5\/kind=6\/kind=7:=by
     rcases h with⟨h|h,_⟩|⟨h,_⟩|⟨h,_⟩|⟨h,_⟩|⟨h,_⟩|⟨h,_⟩|⟨h|h,_⟩<;>omega
    have b3:(one kind op num slot size (d+z G)).length=1:=by
     rcases o with rfl|rfl|rfl|rfl|rfl|rfl|rfl<;>rfl
    rcases o with rfl|rfl|rfl|rfl|rfl|rfl|rfl
    .simp only[go_sem,f0,f1,c,j,Q,j6]
     refine cw [⟨1,0,0,num⟩] p1 rfl m a7 a7 rfl rfl V2 ?_;exact im
    .simp only[go_sem,f0,f1,c,j,Q,j6]
     refine cw [⟨2,slot,0,0⟩] p1 rfl m a7 a7 rfl rfl V2 ?_;exact im
    .simp only[go_sem,f0,f1,c,j,Q,j6]
     refine fL aA mixed [K+73] [([0],[0],[],F),([1],[],[],F),([64],[],[],F),([65],[],[],F),([66],[],[],F),([1],[],[],F),([68],[],[],F),([69],[],[],F),([70],[],[],F),([67,71],[],[],F),([72],[],[0],F),([63,73],[],[],T)] 1 c8 rfl a8 ?_;simp only[go_sem]
     iterate 10 (apply aI;· (intro fa ga oa K' J;simp only[go_sem,f0,f1]at J|-;exact J))
     (apply cJ;· (intro fa ga oa K' J;simp only[go_sem,f0,f1]at J|-;exact J))
     apply cL;intro K' a';simp only[go_sem];refine cw [⟨4,slot,size,0⟩] p1 rfl m a7 a7 rfl rfl V2 ?_;intro g2 bo p2 q2 r2;refine a' _ ?_;simp only[go_sem];refine bH (λi=>decide (K<=i)) ?_;exact⟨rfl,bs _ rfl _ _ p2⟩
    .simp only[go_sem,f0,f1,c,j,Q,j6]
     refine cw [⟨10,slot,0,0⟩] p1 rfl m a7 a7 rfl rfl V2 ?_;exact im
    .simp only[go_sem,f0,f1,c,j,Q,j6]
     refine cw [⟨12,0,0,0⟩] p1 rfl m a7 a7 rfl rfl V2 ?_;exact im
    .simp only[go_sem,f0,f1,c,j,Q,j6]
     refine cw [⟨6,op,0,0⟩] p1 rfl m a7 a7 rfl rfl V2 ?_;exact im
    .simp only[go_sem,f0,f1,c,j,Q,j6]
     refine cw [⟨7,0,0,0⟩] p1 rfl m a7 a7 rfl rfl V2 ?_;exact im
section
abbrev ipS(s:Stm):AV:=.one (.d (.iptr (csD s)))
abbrev slS(l:List Stm):AV:=.one (.d (.sl (pL l)))
abbrev nK(s:Stm):Bool->Nat->List Ins:=λword at'=>(cS word at' s).map Prod.fst
abbrev bL(l:List Stm):Bool->Nat->List Ins:=λword at'=>(cSs word at' l).map Prod.fst
def zi{word:Bool}:∀(l:List Stm)(k:Nat)(e:Stm)(at':Nat),l[k]?=S e->cSs word at' (l.take (k+1))=cSs word at' (l.take k)++cS word (at'+z (cSs word at' (l.take k))) e
 |[],k,e,at',h=>by simp at h
 |x::l,0,e,at',h=>by
   simp at h;subst h;simp[cSs]
 |x::l,k+1,e,at',h=>by
   have q:l[k]?=S e:=by simpa using h
   have a:=zi (word:=word) l k e (at'+z (cS word at' x)) q;rw[G5,G5,cSs,cSs,a,u7,j7,C0]
def nL{word:Bool}:∀(l:List Stm)(k at':Nat),z (cSs word at' (l.take k))<=z (cSs word at' l):=by
 intro l
 induction l with
 |nil=>intro k at';simp[cSs]
 |cons x l a=>
   intro k at';cases k with
   |zero=>simp[cSs]
   |succ k=>
     rw[G5,cSs,cSs,j7,j7];have:=a k (at'+z (cS word at' x));omega
def sZ{w:Int}{ps:Sig}{f:Nat}{word:Bool}{q:Int}:∀{l:List Stm}{k:Nat}{e:Stm},rSs w ps f word q l->l[k]?=S e->rS w ps f word q e
 |[],k,e,_,h=>by simp at h
 |x::l,0,e,V,h=>by simp at h;subst h;rw[rSs]at V;exact V.1
 |x::l,k+1,e,V,h=>by rw[rSs]at V;exact sZ V.2 Wl
variable{l:List Stm}
def nM{k:Nat}{e:Stm}(h:l[k]?=S e):mO e<eJ l:=by
 have a:=Ej h;have b:=KE l (k+1);have c:=(l5.1 h).1;have d:z l<=Bg l k:=by unfold Bg;omega
 omega
def kX(e:Stm):z (csD e)=6:=by cases e;simp[csD]
def uA(A:eJ l<=1000000000000)(r:∀(k:Nat)(e:Stm),l[k]?=S e->eK 139 [ipS e] (nK e)):eK 77 [slS l] (bL l):=by
 intro K E B word code g ob p u m v O J hl;have w:=Prog.start (K2:=K+16) u v O J a7;have x:z code+(cSs word (z code) l).length<=1000000000:=by simpa only[bL,j6]using hl
 refine hdF K Tryz.func77 rfl [] ?_;unfold slS;rw[nJ];simp only[go_sem,j6]
 refine dZ (λn s=>∃k:Nat,n+k=z l/\s.f 0=.one (.ptr E p 0)/\s.f 1=.one (.d (.sl (l.map csD)))/\s.f 6=iv .i64 (z l)/\s.f 7=iv .i64 k/\
  Prog K (K+16) E B word (code++(cSs word (z code) (l.take k)).map Prod.fst) g ob s.gen s.obj) (z l) ?_ ?_
 .refine⟨0,rfl,?_⟩
  rw[L5,cSs,w9,s7];simp only[go_sem];exact w
 .rintro n f G I ⟨k,L,f0,f1,f6,Z,a⟩
  simp only at f0 f1 f6 Z a;have Q:z l<=eJ l:=by rw[pO];omega
  have o:=ac (k:=k) a7;by_cases b:k<z l
  .obtain⟨e,j⟩:=getq b
   have t:=zi (word:=word) l k e (z code) j;have a1:=nL (word:=word) l (k+1) (z code)
   have U:(cSs word (z code) (l.take k)).length+(cS word (z code+(cSs word (z code) (l.take k)).length) e).length<=(cSs word (z code) l).length:=by
    rw[t,j7]at a1;exact a1
   have H:(code++(cSs word (z code) (l.take k)).map Prod.fst).length=z code+(cSs word (z code) (l.take k)).length:=by rw[j7,j6]
   simp only[go_sem,f0,f1,f6,Z,b,j,j6,kX];refine bQ (r k e j) a rfl m rfl (by rw[H];simp only[nK,j6];omega) ?_;intro V W q X Y;rw[H]at q;simp only[go_sem,f0,f1,f6,Z,o];refine dG (n-1) a7 ⟨k+1,a7,?_⟩;simp only[go_sem,f0,f1,f6,Z,o];rw[t,B5,<-u7];exact q
  .have y:k=z l:=a7
   subst y;rw[H8]at a;simp only[go_sem,f0,f1,f6,Z,b,j6];refine bH (λi=>decide (K<=i)) ?_;exact⟨rfl,a.fin J⟩
def KF{slot size:Int}{c:Ex}{a el:List Stm}(Z:eK 176 [ipE c] (bu 0 c))(G:eK 77 [slS a] (bL a)):
  eK 175 [ipS (.mk 5 slot size [c] a el)] (nK (.mk 5 slot size [c] a el)):=by
 intro K E B word code g ob p d m v O J hl;have Q:=Prog.start (K2:=K+33) d v O J a7;have ar:(nK (.mk 5 slot size [c] a el) word (z code))=(gu (z code) (cE (z code) 0 c) (λr=>cSs word r a)).map Prod.fst:=by simp only[nK,cS,B1,jv]
 have bd:z code+((cE (z code) 0 c).length+1+(cSs word (z code+(cE (z code) 0 c).length+1) a).length+1)<=1000000000:=by
  simp only[ar,gu,j6,j7,j9,l4]at hl;omega
 refine hdF K Tryz.func175 rfl [] ?_;have U:=d.t;have V:=d.b;have X:csD (.mk 5 slot size [c] a el)=[.int .i64 5,.int .i64 slot,.int .i64 size,.sl [cxD c],.sl (pL a),.sl (pL el)]:=by simp only[csD,xt]
 unfold ipS;rw[X];simp only[go_sem,U,V,m,aZ];refine bQ Z Q rfl m rfl (by simp only[bu,j6];omega) ?_;intro g1 av p1 q1 r1;have j:(code++bu 0 c word (z code)).length=z code+(cE (z code) 0 c).length:=by simp only[bu,j7,j6]
 generalize hA:code++bu 0 c word (z code)=A at *;simp only[go_sem];refine iL p1 rfl m rfl a7 ?_;intro g2 bo l gJ p2 o1 q2 r2;have o:z (A++[(⟨9,0,0,0⟩:Ins)])=z code+(cE (z code) 0 c).length+1:=by rw[j7,j];rfl
 simp only[go_sem];refine bQ G p2 rfl m rfl Xl ?_;intro g3 b7 q u x;rw[o]at q;have o1:=o1.same (g':=g3) (Y:=b7) (u _ a7 a7) (u _ a7 a7) (x _ a7 a7) (x _ a7 a7);simp only[go_sem];refine cw [⟨8,z code,0,0⟩] q rfl m a7 a7 rfl rfl (by rw[j7,o];simp only[bL,j6,j9,l4];omega) ?_;intro g4 y k H I;have o1:=o1.same (g':=g4) (Y:=y) (H _ a7 a7) (H _ a7 a7) (I _ a7 a7 a7) (I _ a7 a7 a7)
 have k:Prog K (K+33+6) E B word (A++(⟨9,0,0,0⟩:Ins)::(bL a word (z code+(cE (z code) 0 c).length+1)++[(⟨8,z code,0,0⟩:Ins)])) g ob g4 y:=by
  have:=k;exact zv
 have f:(A++(⟨9,0,0,0⟩:Ins)::(bL a word (z code+(cE (z code) 0 c).length+1)++[(⟨8,z code,0,0⟩:Ins)])).length=z code+(cE (z code) 0 c).length+1+(cSs word (z code+(cE (z code) 0 c).length+1) a).length+1:=by
  simp only[j7,j9,l4,j,bL,j6];omega
 simp only[go_sem];refine fS k o1 rfl m rfl rfl (by rw[f];omega) ?_;intro b' L r5;rw[f]at L;simp only[go_sem];refine bH (λi=>decide (K<=i)) ?_;refine⟨rfl,?_⟩
 have e:code++nK (.mk 5 slot size [c] a el) word (z code)=A++(⟨9,((z code+(cE (z code) 0 c).length+1+(cSs word (z code+(cE (z code) 0 c).length+1) a).length+1:Nat):Int),0,0⟩:Ins)::(bL a word (z code+(cE (z code) 0 c).length+1)++[(⟨8,z code,0,0⟩:Ins)]):=by
  rw[ar,<-hA];simp only[bu,bL,gu,B5,l9,w9,u7,C3,A6]
 rw[e];exact L.fin J
end
def OC{w:Int}{ps:Sig}{fi:Nat}{fw:Bool}:∀(al:Nat)(s:Stm)(q:Int),mO s<=al->al<=100000000000->rS w ps fi fw q s->eK 139 [ipS s] (nK s):=by
 intro al
 induction al using Nat.strongRecOn with
 |ind al ih=>
 intro s q hN b4 V;obtain⟨kind,slot,size,e,th,el⟩:=s;have az:mO (.mk kind slot size e th el)=iy e+eJ th+eJ el:=rfl;rw[rS]at V;obtain⟨an,b3,b5,X⟩:=V;have G:eK 77 [slS th] (bL th):=uA a7 λk s hs=>ih (mO s) W9 s (q+1) (l7 _) W9 (sZ b5 hs);have a6:eK 77 [slS el] (bL el):=uA a7 λk s hs=>ih (mO s) W9 s (q+1) (l7 _) W9 (sZ X hs);have cf:∀(k:Nat)(x:Ex)(d:Int),e[k]?=S x->eK 176 [ipE x] (bu d x):=λk x d I=>OV (lL x) x (q+1) d (l7 _) (by have:=lM I;omega) (qH b3 I);have hE:csD (.mk kind slot size e th el)=[.int .i64 kind,.int .i64 slot,.int .i64 size,.sl (e.map cxD),.sl (pL th),.sl (pL el)]:=by simp only[csD,nH]
 intro K E B word code g ob p ht m v O J hl;have hp:=Prog.start (K2:=K+120) ht v O J a7;refine hdF K Tryz.func139 rfl [] ?_;unfold ipS;rw[hE];by_cases h5:kind=5
 .subst h5
  have hn:z e=1:=by
   obtain⟨_,_,_,_,_,h⟩:=an;rcases h with⟨h,_⟩|⟨h,_⟩|⟨_,h⟩|⟨h,_⟩|⟨h,_⟩<;>omega
  obtain⟨c,rfl⟩:∃c,e=[c]:=by
   match e,hn with
   |[c],_=>exact⟨c,rfl⟩
  simp only[go_sem];refine bQ (KF (slot:=slot) (size:=size) (el:=el) (cf 0 c 0 rfl) G) hp rfl m (by unfold ipS;rw[hE];rfl) hl ?_;exact y2
 .generalize a:(if kind=4 then ifC (z code+(cEs (z code) 0 e).length) (λr=>cSs word r th) (!el.isEmpty) (λr=>cSs word r el)else pY word kind slot size (z e))=rest
  have ar:nK (.mk kind slot size e th el) word (z code)=(cEs (z code) 0 e).map Prod.fst++rest.map Prod.fst:=by
   simp only[nK,cS,j8 h5,B5,a]
  have bd:z code+(cEs (z code) 0 e).length+z rest<=1000000000:=by
   simp only[ar,j6,j7]at hl;omega
  simp only[go_sem,h5,j6]
  refine dZ (λn s=>∃k:Nat,n+k=z e/\s.f 0=.one (.ptr E p 0)/\s.f 1=.one (.d (.iptr [.int .i64 kind,.int .i64 slot,.int .i64 size,.sl (e.map cxD),.sl (pL th),.sl (pL el)]))/\s.f 19=iv .i64 (z e)/\s.f 20=iv .i64 k/\
   Prog K (K+120) E B word (code++(cEs (z code) 0 (e.take k)).map Prod.fst) g ob s.gen s.obj) (z e) ?_ ?_
  .refine⟨0,rfl,?_⟩
   rw[L5,cEs,w9,s7];simp only[go_sem];exact hp
  .rintro n f g1 av ⟨k,hk,f0,f1,b,u,p1⟩
   simp only at f0 f1 b u p1;have b6:z e<=iy e:=by rw[mr];omega
   have hw:=ac (k:=k) a7;by_cases af:k<z e
   .obtain⟨x,I⟩:=getq af
    have t:=uD e k x (z code) 0 I;have a1:=rM e (k+1) (z code) 0
    have cc:(cEs (z code) 0 (e.take k)).length+(cE (z code+(cEs (z code) 0 (e.take k)).length) (0+k) x).length<=(cEs (z code) 0 e).length:=by
     rw[t,j7]at a1;exact a1
    have H:(code++(cEs (z code) 0 (e.take k)).map Prod.fst).length=z code+(cEs (z code) 0 (e.take k)).length:=by rw[j7,j6]
    simp only[go_sem,f0,f1,b,u,af,I,j6,aZ];refine bQ (cf k x (0+k) I) p1 rfl m rfl (by rw[H];simp only[bu,j6];omega) ?_;intro g2 bo p2 q2 r2;rw[H]at p2;simp only[go_sem,f0,f1,b,u,hw];refine dG (n-1) a7 ⟨k+1,a7,?_⟩;simp only[go_sem,f0,f1,b,u,hw];rw[t,B5,<-u7];exact p2
   .have b0:k=z e:=a7
    subst b0;rw[H8]at p1;have j:(code++(cEs (z code) 0 e).map Prod.fst).length=z code+(cEs (z code) 0 e).length:=by rw[j7,j6]
    have bs:∀g' Y K2,Prog K K2 E B word (code++(cEs (z code) 0 e).map Prod.fst++rest.map Prod.fst) g ob g' Y->zw K E B word (code++nK (.mk kind slot size e th el) word (z code)) g ob g' (λi=>if decide (K<=i)=T then N else Y i):=by
     intro g' Y K2 L;have:code++nK (.mk kind slot size e th el) word (z code)=code++(cEs (z code) 0 e).map Prod.fst++rest.map Prod.fst:=by rw[ar,u7]
     rw[this];exact L.fin J
    generalize code++(cEs (z code) 0 e).map Prod.fst=A at *
    have hk:kind=1\/kind=2\/kind=3\/kind=6\/kind=7\/kind=4:=by
     obtain⟨_,_,_,_,_,h⟩:=an;rcases h with⟨h,_⟩|⟨h,_⟩|⟨h|h|h,_⟩|⟨h,_⟩|⟨h,_⟩<;>omega
    rcases hk with rfl|rfl|rfl|rfl|rfl|rfl
    .obtain rfl:[(⟨3,slot,0,0⟩,(z e:Int))]=rest:=a
     have bd:z A+1<=1000000000:=by rw[j];exact bd
     simp only[go_sem,f0,f1,b,u,af,j6];refine cw [⟨3,slot,0,0⟩] p1 rfl m a7 a7 rfl rfl bd ?_;exact ln
    .obtain rfl:[(⟨5,slot,size,0⟩,(z e:Int))]=rest:=a
     have bd:z A+1<=1000000000:=by rw[j];exact bd
     simp only[go_sem,f0,f1,b,u,af,j6];refine fL aA mixed [K+58] [([0],[0],[],F),([1],[],[],F),([49],[],[],F),([50],[],[],F),([51],[],[],F),([1],[],[],F),([53],[],[],F),([54],[],[],F),([55],[],[],F),([52,56],[],[],F),([57],[],[0],F),([48,58],[],[],T)] 1 c8 rfl a8 ?_;simp only[go_sem]
     iterate 10 (apply aI;· (intro fa ga oa K' J;simp only[go_sem,f0,f1]at J|-;exact J))
     (apply cJ;· (intro fa ga oa K' J;simp only[go_sem,f0,f1]at J|-;exact J))
     apply cL;intro K' a';simp only[go_sem];refine cw [⟨5,slot,size,0⟩] p1 rfl m a7 a7 rfl rfl bd ?_;intro g2 bo p2 q2 r2;refine a' _ ?_;simp only[go_sem];refine bH (λi=>decide (K<=i)) ?_;exact⟨rfl,bs _ _ _ p2⟩
    .obtain rfl:[(⟨13,0,0,0⟩,(z e:Int))]=rest:=a
     have bd:z A+1<=1000000000:=by rw[j];exact bd
     simp only[go_sem,f0,f1,b,u,af,j6];refine cw [⟨13,0,0,0⟩] p1 rfl m a7 a7 rfl rfl bd ?_;exact ln
    .obtain rfl:[(⟨10,slot,0,0⟩,(z e:Int))]=rest:=a
     have bd:z A+1<=1000000000:=by rw[j];exact bd
     simp only[go_sem,f0,f1,b,u,af,j6];refine cw [⟨10,slot,0,0⟩] p1 rfl m a7 a7 rfl rfl bd ?_;exact ln
    .by_cases hz:0<z e
     .obtain rfl:[(⟨11,0,0,0⟩,(z e:Int))]=rest:=by
       rw[<-a];unfold pY;simp only[show ¬((7:Int)=4) by decide,show ¬((7:Int)=1) by decide,show ¬((7:Int)=2) by decide,show ¬((7:Int)=3) by decide,show ¬((7:Int)=6) by decide,A8,B1];rw[j8 a7]
      have bd:z A+1<=1000000000:=by rw[j];exact bd
      simp only[go_sem,f0,f1,b,u,af,j6,Int.natCast_pos,hz];refine cw [⟨11,0,0,0⟩] p1 rfl m a7 a7 rfl rfl bd ?_;exact ln
     .obtain rfl:leave word=rest:=by
       rw[<-a];unfold pY;simp only[show ¬((7:Int)=4) by decide,show ¬((7:Int)=1) by decide,show ¬((7:Int)=2) by decide,show ¬((7:Int)=3) by decide,show ¬((7:Int)=6) by decide,A8,B1];rw[l8 a7]
      have bd:z A+z (leave word)<=1000000000:=by rw[j];exact bd
      simp only[go_sem,f0,f1,b,u,af,j6,Int.natCast_pos,hz];refine bQ CN p1 rfl m rfl (by simpa using bd) ?_;exact ln
    .simp only[B1]at a
     cases U:el with
     |nil=>
       subst U
       obtain rfl:(⟨9,(z A+1+(cSs word (z A+1) th).length:Nat),0,0⟩,1)::cSs word (z A+1) th=rest:=by
        rw[<-a,<-j];rfl
       have bd:z A+(1+(cSs word (z A+1) th).length)<=1000000000:=by
        rw[j9,<-j]at bd;omega
       have o:z (A++[(⟨9,0,0,0⟩:Ins)])=z A+1:=by rw[j7];rfl
       simp only[go_sem,f0,f1,b,u,af,j6];refine iL p1 rfl m rfl a7 ?_;intro g2 bo l gJ p2 o1 q2 r2;simp only[go_sem,f0,f1];refine bQ G p2 rfl m rfl Xl ?_;intro g3 b7 p3 q3 r3;rw[o]at p3
       have p3:Prog K (K+120+6) E B word (A++(⟨9,0,0,0⟩:Ins)::bL th word (z A+1)) g ob g3 b7:=by
        have:=p3;exact zv
       have o1:=o1.same (g':=g3) (Y:=b7) (q3 _ a7 a7) (q3 _ a7 a7) (r3 _ a7 a7) (r3 _ a7 a7);simp only[go_sem,f1,pL,l4];refine fS p3 o1 rfl m rfl rfl (by simp only[j7,j9,bL,j6,l4];omega) ?_;intro bf p4 r4;simp only[go_sem];refine iE (λi=>decide (K<=i)) ?_;refine⟨rfl,bs _ _ (K+120+6) ?_⟩
       have e1:(A++(⟨9,0,0,0⟩:Ins)::bL th word (z A+1)).length=z A+1+(cSs word (z A+1) th).length:=by
        simp only[j7,j9,bL,j6,l4];omega
       rw[e1]at p4;exact p4
     |cons y Q=>
       rw[<-U];have bz:el.isEmpty=F:=by rw[U];rfl
       have bl:0<z el:=by rw[U];simp
       have bk:¬(z el:Int)=0:=a7
       obtain rfl:(⟨9,(z A+1+(cSs word (z A+1) th).length+1:Nat),0,0⟩,1)::(cSs word (z A+1) th++(⟨8,(z A+1+(cSs word (z A+1) th).length+1+(cSs word (z A+1+(cSs word (z A+1) th).length+1) el).length:Nat),0,0⟩,0)::cSs word (z A+1+(cSs word (z A+1) th).length+1) el)=rest:=by
        rw[<-a,<-j,bz];rfl
       have bd:z A+(1+(cSs word (z A+1) th).length+1+(cSs word (z A+1+(cSs word (z A+1) th).length+1) el).length)<=1000000000:=by
        simp only[j9,j7,<-j]at bd;omega
       have o:z (A++[(⟨9,0,0,0⟩:Ins)])=z A+1:=by rw[j7];rfl
       simp only[go_sem,f0,f1,b,u,af,j6];refine iL p1 rfl m rfl a7 ?_;intro g2 bo l gJ p2 o1 q2 r2;simp only[go_sem,f0,f1];refine bQ G p2 rfl m rfl Xl ?_;intro g3 b7 p3 q3 r3;rw[o]at p3;have o1:=o1.same (g':=g3) (Y:=b7) (q3 _ a7 a7) (q3 _ a7 a7) (r3 _ a7 a7) (r3 _ a7 a7);have e6:(A++[(⟨9,0,0,0⟩:Ins)]++bL th word (z A+1)).length=z A+1+(cSs word (z A+1) th).length:=by rw[j7,o];simp only[bL,j6]
       simp only[go_sem,f0,f1,Ha,bk];refine iL p3 rfl m rfl a7 ?_;intro g4 bf bn b1 p4 o2 q4 r4;have o1:=o1.same (g':=g4) (Y:=bf) (q4 _ a7 a7) (q4 _ a7 a7) (r4 _ a7 a7 a7) (r4 _ a7 a7 a7)
       have p4:Prog K (K+120+6+6) E B word (A++(⟨9,0,0,0⟩:Ins)::(bL th word (z A+1)++[(⟨8,0,0,0⟩:Ins)])) g ob g4 bf:=by
        have:=p4;exact zv
       have W:(A++(⟨9,0,0,0⟩:Ins)::(bL th word (z A+1)++[(⟨8,0,0,0⟩:Ins)])).length=z A+1+(cSs word (z A+1) th).length+1:=by
        simp only[j7,j9,l4,bL,j6];omega
       simp only[go_sem];refine fS p4 o1 rfl m rfl rfl (by rw[W];omega) ?_;intro b' p5 r5;rw[W]at p5;have o2:=o2.same (g':=g4) (Y:=b') rfl rfl (r5 _ a7) (r5 _ a7)
       have Z:(A++(⟨9,((z A+1+(cSs word (z A+1) th).length+1:Nat):Int),0,0⟩:Ins)::(bL th word (z A+1)++[(⟨8,0,0,0⟩:Ins)])).length=z A+1+(cSs word (z A+1) th).length+1:=by
        simp only[j7,j9,l4,bL,j6];omega
       simp only[go_sem,f0,f1];refine bQ a6 p5 rfl m rfl (by rw[Z];simp only[bL,j6];omega) ?_;intro g6 P p6 q6 r6;rw[Z]at p6;have o2:=o2.same (g':=g6) (Y:=P) (q6 _ a7 a7) (q6 _ a7 a7) (r6 _ a7 a7) (r6 _ a7 a7)
       have p6:Prog K (K+120+6+6) E B word ((A++(⟨9,((z A+1+(cSs word (z A+1) th).length+1:Nat):Int),0,0⟩:Ins)::bL th word (z A+1))++(⟨8,0,0,0⟩:Ins)::bL el word (z A+1+(cSs word (z A+1) th).length+1)) g ob g6 P:=by
        have:=p6;exact zv
       have b8:(A++(⟨9,((z A+1+(cSs word (z A+1) th).length+1:Nat):Int),0,0⟩:Ins)::bL th word (z A+1)).length=(A++[(⟨9,0,0,0⟩:Ins)]++bL th word (z A+1)).length:=a8
       have b2:((A++(⟨9,((z A+1+(cSs word (z A+1) th).length+1:Nat):Int),0,0⟩:Ins)::bL th word (z A+1))++(⟨8,0,0,0⟩:Ins)::bL el word (z A+1+(cSs word (z A+1) th).length+1)).length=z A+1+(cSs word (z A+1) th).length+1+(cSs word (z A+1+(cSs word (z A+1) th).length+1) el).length:=by
        simp only[j7,j9,l4,bL,j6];omega
       rw[<-b8]at o2;simp only[go_sem];refine fS p6 o2 rfl m rfl rfl (by rw[b2];omega) ?_;intro ad p7 r7;rw[b2]at p7;simp only[go_sem];refine bH (λi=>decide (K<=i)) ?_;refine⟨rfl,bs _ _ (K+120+6+6) ?_⟩
       have e1:A++List.map Prod.fst (((⟨9,((z A+1+(cSs word (z A+1) th).length+1:Nat):Int),0,0⟩:Ins),(1:Int))::(cSs word (z A+1) th++(⟨8,((z A+1+(cSs word (z A+1) th).length+1+(cSs word (z A+1+(cSs word (z A+1) th).length+1) el).length:Nat):Int),0,0⟩,0)::cSs word (z A+1+(cSs word (z A+1) th).length+1) el)) =
         (A++(⟨9,((z A+1+(cSs word (z A+1) th).length+1:Nat):Int),0,0⟩:Ins)::bL th word (z A+1))++(⟨8,((z A+1+(cSs word (z A+1) th).length+1+(cSs word (z A+1+(cSs word (z A+1) th).length+1) el).length:Nat):Int),0,0⟩:Ins)::bL el word (z A+1+(cSs word (z A+1) th).length+1):=by
        simp only[bL,B5,l9,u7,C3]
       rw[e1];exact p7
section
def wn(fs:List Src.CFn):Nat:=(fs.map λx=>eJ x.body).sum
def qD(fs:List Src.CFn)(k:Nat):Nat:=wn (fs.take k)
def Bh(fs:List Src.CFn)(k:Nat):qD fs k<=wn fs:=by
 conv=>rhs;rw[<-H3 k fs]
 simp only[qD,wn,B5,L6];omega
variable{w:Int}{ps:Sig}{fs:List Src.CFn}{x:Src.CFn}
def xu{k:Nat}(h:fs[k]?=S x):qD fs (k+1)=qD fs k+eJ x.body:=by
 simp only[qD,wn,D0,h,J3,B5,L6,l9,w9,D9,QI];omega
def bE(x:Ins):List D:=[.int .i64 x.op,.int .i64 x.a,.int .i64 x.b,.int .u32 x.n]
abbrev sP(l:Lower.Code):D:=.sl ((l.map Prod.fst).map bE)
def KG{fi:Nat}{a:Bool}{l:List Stm}{q:Int}(c:eJ l<=100000000000)(V:rSs w ps fi a q l):eK 77 [slS l] (bL l):=
 uA a7 λk s hs=>OC (mO s) s q (l7 _) W9 (sZ V hs)
def OD{fi:Nat}{n:Bool}(V:rSs w ps fi n 1 x.body)(q:eJ x.body<=100000000000)(hl:z (codeOf x.word x.body)<=1000000000):
  ax Tryz.prog 49 [.agg ((cfD x).map .d)] (·=.one (.d (sP (codeOf x.word x.body)))):=by
 refine hdP Tryz.func49 rfl [2] λg=>?_;have r:z (cSs x.word 0 x.body)+z (leave x.word)<=1000000000:=by rw[codeOf,j7]at hl;exact hl
 simp only[go_sem,cfD,j6];refine BP _ (ej (t:=3) (o:=3) (b:=20) (j:=1) (sz:=4) (off:=0) rfl rfl rfl b9) ?_;simp only[St.claimAt]
 have u:Prog 21 21 3 20 x.word [] (upd (upd (upd g 1 (nxC 108 (g 1))) 3 (nxC 165 (g 3))) 20 (g 20+1)) _ _ _:=Prog.start (ob:=upd (upd (upd (upd (upd (λ_=>N) 1 (S [.d (.int .i64 x.params),.d (.int .i64 x.slots),.d (.int .i64 x.first),.d (.bool x.word),.d (.sl (x.body.map csD))])) 3 (S [.d (.bool F),.d .nsl])) 3 (S [.d (.bool x.word),.d .nsl])) 3 (S [.d (.bool x.word),.osl 20 (g 20+1) 4 0 0])) 20 (S []))
  ⟨by simp[upd],by simp[upd,En],b9⟩ b9 b9 (λi hi=>by simp only[upd];rw[j8 a7,j8 a7,j8 a7,j8 a7,j8 a7]) (l7 _)
 refine bQ (KG q V) u rfl (p:=nxC 165 (g 3)) VF (by simp only[slS,nJ];rfl) (by simp only[bL,j6,l4,C7];omega) ?_;intro J av v A K;have H:([]++bL x.body x.word (z ([]:List Ins))).length=z (cSs x.word 0 x.body):=by simp only[bL,A6,j6,l4]
 simp only[go_sem];refine bQ CN v rfl VF rfl (by rw[H,j6];exact r) ?_;intro E bo k G L;have e:[]++bL x.body x.word (z ([]:List Ins))++(leave x.word).map Prod.fst=(codeOf x.word x.body).map Prod.fst:=by simp only[bL,codeOf,A6,B5,l4]
 rw[e]at k;have I:E 3=nxC 165 (g 3):=by rw[G 3 b9 b9,A 3 b9 b9];simp[upd]
 simp only[go_sem,k.tape.t,I];refine⟨_,⟨_,dN (s:=⟨_,_,_⟩) rfl ((codeOf x.word x.body).map Prod.fst) bE k.tape.b j0 (λa _ y l=>?_) (λ_ _=>rfl) (j6 _),rfl⟩,rfl⟩;simp only[bE,A3,A9,E6]at l;rcases l with rfl|rfl|rfl|rfl<;>rfl
def sfD(x:Src.CFn):List D:=[.int .i64 x.params,.int .i64 x.slots,.int .i64 x.first,.bool x.word,sP (codeOf x.word x.body)]
def iX(w:Int)(fs:List Src.CFn):AV:=.agg [.d (.int .i64 w),.d (.sl (fs.map sfD))]
def KH(x:Src.CFn):z (sfD x)=5:=rfl
def Nh(fs:List Src.CFn):Prop:=∀x∈fs,z (codeOf x.word x.body)<=1000000000
def OE(hN:wn fs<=100000000000)(hF:z fs<=1000000)(p:Nh fs)(V:∀(k:Nat)(x:Src.CFn),fs[k]?=S x->rSs w ps k x.word 1 x.body):ax Tryz.prog 22 [pp ⟨w,fs⟩] (·=iX w fs):=by
 refine hdR Tryz.func22 rfl [.cell 2 69] λg=>?_;unfold pp;simp only[go_sem,j6]
 refine xZ _ (ej (t:=3) (o:=3) (b:=30) (j:=1) (sz:=5) (off:=0) rfl rfl rfl b9) (λn s=>∃k:Nat,n+k=z fs/\s.f 2=.one (.ptr 2 (s.gen 2) 0)/\s.f 3=.one (.ptr 3 (s.gen 3) 0)/\s.f 10=.one (.d (.sl (fs.map cfD)))/\s.f 11=iv .i64 (z fs)/\s.f 12=iv .i64 k/\s.obj 2=S [.d (.int .i64 0),.d .nsl]/\s.obj 3=S [.d (.int .i64 w),.osl 30 (s.gen 30) 5 0 k]/\
  s.obj 30=S ((fs.take k).flatMap λx=>(sfD x).map .d)) (z fs) ?_ ?_
 .refine⟨0,rfl,?_⟩
  simp only[St.claimAt];simp only[go_sem,List.flatMap_nil]
  try rfl
 .clear g
  rintro n f g ob ⟨k,hk,v,q,e,A,h,E,B,m⟩;simp only at v q e A h E B m;have L:=ac (k:=k) a7
  have O:∀l:List Src.CFn,z (l.flatMap λx=>(sfD x).map C.d)=z l*5:=by
   intro l
   induction l with
   |nil=>rfl
   |cons a l U=>simp only[G2,j7,U,j6,KH,j9];omega
  by_cases K:k<z fs
  .obtain⟨x,I⟩:=getq K
   have u:eJ x.body<=100000000000:=by
    have h2:=xu I;have h3:=Bh fs (k+1);omega
   have Y:z (fs.take k)=k:=by rw[D1];omega
   simp only[go_sem,v,q,e,A,h,E,B,m,K,I,j6,cfD];refine fL aA mixed [29,30,3] [([3],[0],[],F),([16],[0],[],F),([5],[],[],F),([18],[],[],F),([5],[],[],F),([20],[],[],F),([5],[],[],F),([22],[],[],F),([5],[],[],F),([24],[],[],F),([5],[],[],F),([26],[],[],F),([19,21,23,25,27],[],[],F),([28],[],[0],F),([17,29],[],[1],F),([3],[],[],F),([31,30],[],[],T)] 3 c8 rfl b9 ?_;simp only[go_sem]
   iterate 11 (apply aI;· (intro G ga H r J;simp only[go_sem,q,B,setAt]at J|-;exact J))
   apply aI
   .intro G ga H r J
    simp only[go_sem]at J|-;refine vH rfl (OD (V k x I) u (p x (l6 I))) j0 ?_;exact SF
   (apply aI;· (intro G ga H r J;simp only[go_sem,q,B]at J|-;exact J))
   (apply cJ;· (intro G ga H r J;simp only[go_sem,q,B]at J|-;exact J))
   apply cJ
   .intro G ga H r J
    simp only[go_sem,m,O,Y]at J|-;refine⟨?_,?_,J⟩
    .omega
    .exact⟨b9,a7⟩
   (apply aI;· (intro G ga H r J;simp only[go_sem,q,B]at J|-;exact J))
   apply cL;intro r W;simp only[go_sem,q,B];refine W _ ?_;simp only[go_sem,v,q,e,A,h,E,L];refine dG (n-1) a7 ⟨k+1,a7,?_⟩;simp only[go_sem,v,q,e,A,h,E,L];rw[D0,I,N3,s6 (by rw[O,Y];exact l7 _)];rfl
  .have X:k=z fs:=a7
   subst X;simp only[go_sem,v,q,e,A,h,E,B,K,j6];rw[H8]at m;refine⟨_,⟨[.int .i64 w,.sl (fs.map sfD)],rfl,λi c Z=>?_,rfl⟩,rfl⟩
   match i,Z with
   |0,Z=>cases Z;exact⟨_,rfl,.d _⟩
   |1,Z=>
     cases Z;refine⟨_,rfl,dN (s:=⟨_,_,_⟩) rfl fs sfD ?_ rfl (λa _ y Q=>?_) (λ_ _=>rfl) rfl⟩
     .simp only[upd];exact m
     .simp only[sfD,A3,A9,E6]at Q
      rcases Q with rfl|rfl|rfl|rfl|rfl<;>rfl
end
end
end Go.Proofs.YtlacbjnmkhndiaaGreatDoor.Low
namespace Go.Src
section
open Go.Asm (Str)
open Go.Lower (Sig within callee rE rEs rS rSs)
section
def sigs(fs:List Fn):Sig:=fs.map λf=>((z f.params:Int),f.word)
structure pb (fs:List Fn) (W:Int) (k:Nat) (g:Str->Option (Nat×Nat)) (pl:Str->Int×Int):Prop where
 no:pl []=(0,0)
 var:∀s kd n,g s=some (kd,n)->kd=1\/kd=2->within W (pl s).1 1/\(pl s).2=0
 arr:∀s n,g s=some (3,n)->1<=(pl s).2/\(pl s).2<=4096/\within W (pl s).1 (pl s).2
 fn:∀s n,g s=some (4,n)->n<k->(pl s).1=n/\(pl s).2=0/\∃f,fs[n]?=some f/\cn fs s=some f
section
variable{fs:List Fn}{W:Int}{k:Nat}{o i:Pl}{g:Str->Option (Nat×Nat)}
def vb:∀l:List Ex,z (aU o i l)=z l:=λl=>by rw[kO,j6]
def vc:∀l:List Stm,z (bA o i l)=z l:=λl=>by rw[kP,j6]
def lI(H:pb fs W k g (bV o i)){name:Str}{args:Nat}{w:Bool}(U:bj g k 4 name=T)(a:eP g fs k 4 name args=T)(b:fJ fs name=w):callee (sigs fs) k (bV o i name).1 args w/\(bV o i name).2=0:=by
 unfold bj at U;cases c:g name with
 |none=>rw[c]at U;cases U
 |some t=>
   obtain⟨l,n⟩:=t;rw[c]at U;simp only[show ¬(4:Nat)=2 by decide,show ¬(4:Nat)=3 by decide,A8,s5,I3,B4]at U;obtain⟨rfl,d⟩:=U;obtain⟨e,h,f,Y,j⟩:=H.fn name n c d;unfold eP at a;rw[c]at a;simp[d,Y]at a;unfold fJ at b;rw[j]at b;simp only at b;refine⟨⟨n,e,d,?_⟩,h⟩;unfold sigs;rw[x8,Y,z7,a,b]
mutual
theorem Ab(H:pb fs W k g (bV o i)):∀(e:Ex)(q:Nat),eW q e=T->okE (λa b _=>bj g k a b) e=T->okE (λa b c=>eP g fs k a b c) e=T->dg fs e≠0->rE W (sigs fs) k q (di o i e)
 |.mk kind op num name kids,q,U,y,G,p=>by
   rw[eW]at U;rw[okE]at y G;rw[dg]at p;simp only[s5,B4]at U y G;obtain⟨j,d,v⟩:=U;rw[di,rE];have f:(q:Int)<=24:=a7;have bd:=vb (o:=o) (i:=i) kids;unfold Lower.okE;rw[bd];have A:kids=[]->rEs W (sigs fs) k (q+1) (aU o i kids):=λe=>by rw[e,aU,rEs];trivial
   have r:∀t,cA fs t kids=T->t≠0->rEs W (sigs fs) k (q+1) (aU o i kids):=λt K Y=>by
    have:=mI H kids (q+1) t v y.2 G.2 K Y;exact SV
   have u:name=[]->bV o i name=(0,0):=λe=>by rw[e];exact H.no
   unfold bD am at d;by_cases k1:kind=1
   .subst k1
    simp at d;obtain⟨⟨ho,s⟩,hl⟩:=d;have w:kids=[]:=by first|exact hl|exact G4.1 hl
    rw[u s];exact⟨⟨f,.inl rfl,.inr ho,.inr rfl,.inr (.inr (.inr rfl)),.inl ⟨.inl rfl,by rw[w];rfl⟩⟩,A w⟩
   by_cases L:kind=2
   .subst L
    simp at d;obtain⟨⟨⟨ho,m⟩,s⟩,hl⟩:=d;have w:kids=[]:=by first|exact hl|exact G4.1 hl
    have l:=y.1;simp only[B1]at l;unfold bj at l;cases x:g name with
    |none=>rw[x]at l;cases l
    |some t=>
      obtain⟨X,n⟩:=t;rw[x]at l;simp at l;obtain⟨Z,w2⟩:=H.var name X n x l;exact⟨⟨f,.inr m,.inr ho,.inr w2,.inl rfl,.inr (.inl ⟨rfl,Z,by rw[w];rfl⟩)⟩,A w⟩
   by_cases O:kind=5
   .subst O
    simp at d;obtain⟨⟨⟨ho,m⟩,s⟩,hl⟩:=d;have w:kids=[]:=by first|exact hl|exact G4.1 hl
    rw[u s];exact⟨⟨f,.inr m,.inr ho,.inr rfl,.inr (.inr (.inr rfl)),.inl ⟨.inr rfl,by rw[w];rfl⟩⟩,A w⟩
   by_cases I:kind=3
   .subst I
    simp at d;obtain⟨⟨⟨ho,m⟩,s⟩,hl⟩:=d;have l:=y.1;simp at l;unfold bj at l;simp at p;cases x:g name with
    |none=>rw[x]at l;cases l
    |some t=>
      obtain⟨X,n⟩:=t;rw[x]at l;simp at l;subst l;obtain⟨a1,a2,E⟩:=H.arr name n x;exact⟨⟨f,.inr m,.inr ho,.inl rfl,.inr (.inl rfl),.inr (.inr (.inl ⟨rfl,a1,a2,E,hl⟩))⟩,r 1 p b9⟩
   by_cases J:kind=4
   .subst J
    simp at d;obtain⟨⟨⟨ho,m⟩,s⟩,hl⟩:=d;have l:=y.1;have B:=G.1;simp at l B p;obtain⟨c1,c2⟩:=lI H l B p.1;exact⟨⟨f,.inr m,.inr ho,.inr c2,.inr (.inr (.inl rfl)),.inr (.inr (.inr (.inl ⟨rfl,c1⟩)))⟩,r 1 p.2 b9⟩
   by_cases P:kind=6
   .subst P
    simp at d;obtain⟨⟨⟨ho,m⟩,s⟩,hl⟩:=d;simp at p;rw[u s];exact⟨⟨f,.inr m,.inl rfl,.inr rfl,.inr (.inr (.inr rfl)),.inr (.inr (.inr (.inr (.inl ⟨rfl,ho.1,ho.2,hl⟩))))⟩,r 1 p.1 b9⟩
   by_cases Q:kind=7
   .subst Q
    simp at d;obtain⟨⟨⟨ho,m⟩,s⟩,hl⟩:=d;simp at p;rw[u s];exact⟨⟨f,.inr m,.inr ho,.inr rfl,.inr (.inr (.inr rfl)),.inr (.inr (.inr (.inr (.inr (.inl ⟨rfl,hl⟩)))))⟩,r 2 p b9⟩
   by_cases V:kind=8\/kind=9
   .simp[k1,L,I,J,O,P,Q,V]at d
    obtain⟨⟨⟨ho,m⟩,s⟩,hl⟩:=d
    have K:cA fs 2 kids=T:=by
     rw[j8 a7,j8 a7,j8 I,j8 J,j8 P]at p;simpa using p
    rw[u s];exact⟨⟨f,.inr m,.inr ho,.inr rfl,.inr (.inr (.inr rfl)),.inr (.inr (.inr (.inr (.inr (.inr ⟨V,hl⟩)))))⟩,r 2 K b9⟩
   .simp[k1,L,I,J,O,P,Q,V]at d
theorem mI(H:pb fs W k g (bV o i)):∀(l:List Ex)(q:Nat)(t:Int),bg q l=T->df (λa b _=>bj g k a b) l=T->df (λa b c=>eP g fs k a b c) l=T->cA fs t l=T->t≠0->rEs W (sigs fs) k q (aU o i l)
 |[],q,t,_,_,_,_,_=>by rw[aU,rEs];trivial
 |e::l,q,t,U,d,f,h,j=>by
   rw[bg,s5]at U;rw[df,s5]at d f;rw[cA,s5,B4]at h;rw[aU,rEs];exact⟨Ab H e q U.1 d.1 f.1 (by rw[h.1];exact j),mI H l q t U.2 d.2 f.2 h.2 j⟩
end
mutual
theorem Ac{w:Bool}(H:pb fs W k g (bV o i)):∀(s:Stm)(q:Nat),eL q s=T->okS (λa b _=>bj g k a b) s=T->okS (λa b c=>eP g fs k a b c) s=T->ja fs w s=T->rS W (sigs fs) k w q (coreS o i s)
 |.mk kind name e J el,q,U,p,y,A=>by
   rw[eL]at U;rw[okS]at p y;rw[ja]at A;simp only[s5,B4]at U p y A;obtain⟨⟨j,d,v⟩,G,a6⟩:=U;obtain⟨⟨⟨K,I⟩,bs⟩,r,b2⟩:=A;rw[coreS,rS];have f:(q:Int)<=24:=a7;unfold Lower.okS;rw[vb,vc,vc]
   have r1:rEs W (sigs fs) k (q+1) (aU o i e):=by
    have:=mI H e (q+1) _ v p.1.1.2 y.1.1.2 bs (by split<;>decide);exact SV
   have r2:rSs W (sigs fs) k w (q+1) (bA o i J):=by
    have:=kl H J (q+1) G p.1.2 y.1.2 r;exact SV
   have r3:rSs W (sigs fs) k w (q+1) (bA o i el):=by
    have:=kl H el (q+1) a6 p.2 y.2 b2;exact SV
   refine⟨?_,r1,r2,r3⟩;have u:name=[]->bV o i name=(0,0):=λe=>by rw[e];exact H.no
   have m:bj g k 2 name=T->within W (bV o i name).1 1/\(bV o i name).2=0:=λh=>by
    unfold bj at h;cases x:g name with
    |none=>rw[x]at h;cases h
    |some t=>
      obtain⟨L,n⟩:=t;rw[x]at h;simp at h;exact H.var name L n x h
   unfold cp am at d;by_cases O:kind=1
   .subst O
    simp at d;have l:=p.1.1.1;simp at l;obtain⟨w1,w2⟩:=m l;exact⟨f,.inr w2,.inl rfl,.inr Wa,.inr (.inr Wb),.inl ⟨rfl,w1,d.2.1⟩⟩
   by_cases Q:kind=2
   .subst Q
    simp at d;have l:=p.1.1.1;simp at l;unfold bj at l;cases x:g name with
    |none=>rw[x]at l;cases l
    |some t=>
      obtain⟨L,n⟩:=t;rw[x]at l;simp at l;subst l;obtain⟨a1,a2,E⟩:=H.arr name n x;exact⟨f,.inl rfl,.inr (.inl rfl),.inr Wa,.inr (.inr Wb),.inr (.inl ⟨rfl,a1,a2,E,d.2.1⟩)⟩
   by_cases V:kind=3
   .subst V
    simp at d;rw[u d.1];exact⟨f,.inr rfl,.inr (.inr (.inr rfl)),.inr Wa,.inr (.inr Wb),.inr (.inr (.inl ⟨.inl rfl,d.2.1⟩))⟩
   by_cases X:kind=4
   .subst X
    simp at d;rw[u d.1];exact⟨f,.inr rfl,.inr (.inr (.inr rfl)),.inl rfl,.inl rfl,.inr (.inr (.inl ⟨.inr (.inl rfl),d.2⟩))⟩
   by_cases Y:kind=5
   .subst Y
    simp at d;rw[u d.1];exact⟨f,.inr rfl,.inr (.inr (.inr rfl)),.inr (by first|exact d.2.2|(simp[d.2.2])),.inr (.inl rfl),.inr (.inr (.inl ⟨.inr (.inr rfl),d.2.1⟩))⟩
   by_cases P:kind=6
   .subst P
    simp at d;have l:=p.1.1.1;have B:=y.1.1.1;simp at l B K;obtain⟨d1,d2⟩:=lI H l B K;exact⟨f,.inr d2,.inr (.inr (.inl rfl)),.inr Wa,.inr (.inr Wb),.inr (.inr (.inr (.inl ⟨rfl,d1⟩)))⟩
   by_cases Z:kind=7
   .subst Z
    simp at d I;rw[u d.1];refine⟨f,.inr rfl,.inr (.inr (.inr rfl)),.inr Wa,.inr (.inr Wb),.inr (.inr (.inr (.inr ⟨rfl,?_⟩)))⟩;by_cases h0:z e=0
    .exact .inl h0
    .have hp:0<z e:=a7
     exact .inr ⟨by first|exact I hp|exact I (N2.1 hp)|(simp_all),by omega⟩
   .simp[O,Q,V,X,Y,P,Z]at d
theorem kl{w:Bool}(H:pb fs W k g (bV o i)):∀(l:List Stm)(q:Nat),ba q l=T->dy (λa b _=>bj g k a b) l=T->dy (λa b c=>eP g fs k a b c) l=T->bh fs w l=T->rSs W (sigs fs) k w q (bA o i l)
 |[],q,_,_,_,_=>by rw[bA,rSs];trivial
 |s::l,q,U,d,e,f=>by
   rw[ba,s5]at U;rw[dy,s5]at d e;rw[bh,s5]at f;rw[bA,rSs];exact⟨Ac H s q U.1 d.1 e.1 f.1,kl H l q U.2 d.2 e.2 f.2⟩
end
end
end
section
def kZ{A β b:Type}(f:Nat->A->β)(g:β->b)(l:List A):(l.mapIdx f).map g=l.mapIdx λi a=>g (f i a):=by
 apply M5;intro i;rw[x8,Nu,Nu];cases l[i]?<;>rfl
def It:∀(l:List Str)(m:Pl)(w:Int),gV l m w=((l.mapIdx λi n=>((n,w+(i:Int),0):Str×Int×Int)).reverse++m,w+z l)
 |[],m,w=>by simp[gV]
 |n::l,m,w=>by
   rw[gV,It l,Mm];simp only[M6,u7,I5,j9,IT];refine⟨?_,by push_cast;omega⟩;congr 1
   .congr 1
    congr 1;funext i n;simp only[IT,L8,R9]
    push_cast;omega
   .simp
def Iu:∀(l:List (Str×Int))(m:Pl)(w:Int),gA l m w=((l.mapIdx λi a=>((a.1,w+((l.take i).map (·.2)).sum,a.2):Str×Int×Int)).reverse++m,w+(l.map (·.2)).sum)
 |[],m,w=>by simp[gA]
 |n::l,m,w=>by
   rw[gA,Iu l,Mm];simp only[M6,u7,I5,l9,D9,IT];refine⟨?_,a7⟩;congr 1
   .congr 1
    congr 1;funext i n;simp only[G5,l9,D9,IT,L8,R9];omega
   .simp
def No:∀(l:List Fn)(j:Nat)(m:Pl),gF j l m=(l.mapIdx λi f=>((f.name,((j+i:Nat):Int),0):Str×Int×Int)).reverse++m
 |[],j,m=>by simp[gF]
 |n::l,j,m=>by
   rw[gF,No l,Mm];simp only[M6,u7,I5];congr 1
   .congr 1
    congr 1;funext i n;simp only[IT,L8,R9]
    push_cast;omega
def Iv(w:Int):∀(l:List Str)(j:Nat)(m:Pl),lP w j l m=(l.mapIdx λi n=>((n,w+((j+i:Nat):Int),0):Str×Int×Int)).reverse++m
 |[],j,m=>by simp[lP]
 |n::l,j,m=>by
   rw[lP,Iv w l,Mm];simp only[M6,u7,I5];congr 1
   .congr 1
    congr 1;funext i n;simp only[IT,L8,R9]
    push_cast;omega
def uZ(enc:Nat×Nat->Int×Int)(s:Str):∀(n:Nat)(E:List Th),z E=n->bR [] E=T->jx ((E.map λt=>(t.1,enc t.2)).reverse) s=(aG E s).map enc:=by
 intro n
 induction n with
 |zero=>intro E a _;rw[G4.1 a];rfl
 |succ n d=>
   intro E a L;obtain⟨l,t,rfl⟩:∃l t,E=l++[t]:=⟨E.dropLast,E.getLast (by intro h;rw[h]at a;cases a),(M1 _).symm⟩
   rw[qW,s5]at L;have hl:z l=n:=by rw[j7]at a;simpa using a
   have c:aG l t.1=N:=by simpa using L.2
   rw[B5,Qt,lf];simp only[l9,w9,M6,List.reverse_nil,A6,I5,jx];by_cases b:t.1=s
   .rw[l8 b]
    rw[b]at c;rw[c];simp[aG,b]
   .rw[j8 b,d l hl L.1]
    cases aG l s with
    |some x=>rfl
    |none=>simp[aG,b]
def eD(p:Prog)(n:Nat):Int:=z p.vars+((p.arrays.take n).map (·.2)).sum
def kj(p:Prog)(n:Nat):Int:=((p.arrays[n]?).map (·.2)).getD 0
def jN(p:Prog)(w:Int)(t:Nat×Nat):Int×Int:=if t.1=3 then(eD p t.2,kj p t.2)else if t.1=1 then(w+t.2,0)else((t.2:Int),0)
def va(p:Prog)(w:Int):(ai p).1=((aO p).map λt=>(t.1,jN p w t.2)).reverse:=by
 unfold ai aO;simp only;rw[No,Iu,It];simp only[B5,Qt,s7];congr 1
 .congr 1
  unfold thF;rw[kZ];congr 1;funext i f;simp[jN]
 .congr 1
  .congr 1
   apply M5;intro i;unfold thA;rw[x8,Nu,Nu];cases b:p.arrays[i]? with
   |none=>rfl
   |some a=>simp[jN,eD,kj,b]
  .congr 1
   unfold thV;rw[kZ];congr 1;funext i f;simp[jN]
def vC(p:Prog)(f:Fn)(w:Int):lP (w+z f.params) 0 f.locals (lP w 0 f.params [])=((aV f).map λt=>(t.1,jN p w t.2)).reverse:=by
 unfold aV;rw[Iv,Iv];simp only[B5,Qt,s7];congr 1
 .congr 1
  unfold thL;rw[kZ];congr 1;funext i f;simp[jN];omega
 .congr 1
  unfold thL;rw[kZ];congr 1
def qV(p:Prog)(f:Fn)(w:Int)(U:bR [] (aO p)=T)(a:bR [] (aV f)=T)(s:Str):
  bV (ai p).1 (lP (w+z f.params) 0 f.locals (lP w 0 f.params [])) s=((aQ (aO p) (aV f) s).map (jN p w)).getD (0,0):=by
 unfold bV aQ;rw[va p w,vC p f w,uZ _ s _ _ rfl U,uZ _ s _ _ rfl a];cases aG (aV f) s<;>rfl
def wE(s:Str):∀(fs:List Fn)(j n:Nat),aG (fs.mapIdx λi f=>((f.name,4,j+i):Th)) s=S (4,n)->∃m f,n=j+m/\fs[m]?=S f/\cn fs s=S f
 |[],j,n,h=>by simp[aG]at h
 |f::fs,j,n,h=>by
   rw[Mm]at h;simp only[aG,cn]at h|-;by_cases a:f.name=s
   .rw[l8 a]at h
    cases h;exact⟨0,f,rfl,rfl,by rw[l8 a]⟩
   .rw[j8 a]at h
    have e:(fs.mapIdx λi f=>((f.name,4,j+(i+1)):Th))=fs.mapIdx λi f=>((f.name,4,(j+1)+i):Th):=by
     congr 1;funext i f;simp only[IT,R9];omega
    rw[e]at h;obtain⟨m,g,U,b,c⟩:=wE s fs (j+1) n h;exact⟨m+1,g,a7,b,by rw[j8 a];exact c⟩
variable{t:Th}{vs:List Str}{o:List (Str×Int)}
def Iw{s:Str}{k n:Nat}(h:(s,k,n)∈thA o):∃a,o[n]?=S a/\k=3:=by
 simp only[thA,J1]at h;obtain⟨i,b,e⟩:=h;cases e;exact⟨_,v8 b,rfl⟩
def Ix{s:Str}{k n:Nat}(h:(s,k,n)∈thV vs):n<z vs/\k=2:=by
 simp only[thV,J1]at h;obtain⟨i,a,e⟩:=h;cases e;exact⟨a,rfl⟩
def Pz(h:t∈thV vs):t.1∈vs:=by
 simp only[thV,J1]at h;obtain⟨i,a,rfl⟩:=h;exact I8 a
def PA(h:t∈thA o):∃a∈o,t.1=a.1:=by
 simp only[thA,J1]at h;obtain⟨i,b,rfl⟩:=h;exact⟨_,I8 b,rfl⟩
def PB{fs:List Fn}(h:t∈thF fs):∃f∈fs,t.1=f.name:=by
 simp only[thF,J1]at h;obtain⟨i,a,rfl⟩:=h;exact⟨_,I8 a,rfl⟩
def Iy{j:Nat}(h:t∈thL j vs):t.1∈vs:=by
 simp only[thL,J1]at h;obtain⟨i,a,rfl⟩:=h;exact I8 a
def dJ:aT []=F:=by simp[aT]
def Iz{p:Prog}{f:Fn}(V:dX p=T)(hf:f∈p.funcs):aQ (aO p) (aV f) []=N:=by
 unfold dX at V;simp only[s5,y8]at V;obtain⟨⟨_,e⟩,g,b⟩:=V;have d:=b f hf;unfold fp at d;simp only[s5,y8]at d;unfold aQ
 have i:aG (aV f) []=N:=by
  cases h:aG (aV f) []with
  |none=>rfl
  |some x=>
    exfalso;have c:=dw h;unfold aV at c;rcases C4.1 c with c|c
    .have:=d.2.1.1 _ (Iy c);simp only[dJ]at this;cases this
    .have:=d.2.1.2 _ (Iy c);simp only[dJ]at this;cases this
 have j:aG (aO p) []=N:=by
  cases h:aG (aO p) []with
  |none=>rfl
  |some x=>
    exfalso;have c:=dw h;unfold aO at c;rcases C4.1 c with c|c
    .rcases C4.1 c with c|c
     .have:=e _ (Pz c);simp only[dJ]at this;cases this
     .obtain⟨a,c0,cc⟩:=PA c
      have:=g a c0;unfold ij at this;exact T6
    .obtain⟨a,c0,cc⟩:=PB c
     have:=b a c0;unfold fp at this;exact T6
 rw[i,j]
def mH(o:Pl):∀(l:List Fn)(w:Int)(k:Nat)(f:Fn),l[k]?=S f->∃G,w<=G/\(cR o l w).1[k]?=S (lR o f G)/\G+(z f.params+z f.locals)<=(cR o l w).2
 |[],w,k,f,h=>by simp at h
 |g::l,w,0,f,h=>by
   simp at h;subst h;refine⟨w,C5 _,rfl,?_⟩;simp only[cR]
   have:∀(l:List Fn)(w:Int),w<=(cR o l w).2:=by
    intro l
    induction l with
    |nil=>intro w;exact C5 _
    |cons a l b=>intro w;simp only[cR];have:=b (w+(z a.params+z a.locals));omega
   exact this _ _
 |g::l,w,k+1,f,h=>by
   obtain⟨G,U,c,d⟩:=mH o l (w+(z g.params+z g.locals)) k f Wl;refine⟨G,a7,?_,?_⟩
   .simp only[cR,s9];exact c
   .simp only[cR];exact d
def wF(o:Pl):∀(l:List Fn)(w:Int),w<=(cR o l w).2
 |[],w=>C5 _
 |a::l,w=>by simp only[cR];have:=wF o l (w+(z a.params+z a.locals));omega
def kN(o:Pl):∀(l:List Fn)(w:Int),z (cR o l w).1=z l
 |[],w=>rfl
 |a::l,w=>by simp only[cR,j9,kN o l]
def sF:∀(l:List (Str×Int))(n:Nat)(a:Str×Int),(∀x∈l,1<=x.2)->l[n]?=S a->((l.take n).map (·.2)).sum+a.2<=(l.map (·.2)).sum/\0<=((l.take n).map (·.2)).sum
 |[],n,a,_,h=>by simp at h
 |x::l,0,a,b,h=>by
   simp at h;subst h
   have:∀m:List (Str×Int),(∀x∈m,1<=x.2)->0<=(m.map (·.2)).sum:=by
    intro m c
    induction m with
    |nil=>simp
    |cons y m d=>have U:=d (λX hz=>c X Xi);have e:=c y a8;simp only[l9,D9];omega
   have f:=this l (λX hz=>b X Xi);simp only[L5,w9,QI,l9,D9];omega
 |x::l,n+1,a,b,h=>by
   have d:=sF l n a (λX hz=>b X Xi) Wl;have:=b x a8;simp only[G5,l9,D9];omega
def IA{p:Prog}{f:Fn}{k:Nat}{w W:Int}(V:dX p=T)(U:bR [] (aO p)=T)(r:bR [] (aV f)=T)(hf:f∈p.funcs)(a6:(ai p).2<=w)(hW:w+(z f.params+z f.locals)<=W):
  pb p.funcs W k (aQ (aO p) (aV f)) (bV (ai p).1 (lP (w+z f.params) 0 f.locals (lP w 0 f.params []))):=by
 have K:(ai p).2=z p.vars+(p.arrays.map (·.2)).sum:=by
  unfold ai;simp only;rw[Iu,It];simp
 have u:∀a∈p.arrays,1<=a.2/\a.2<=4096:=by
  unfold dX at V;simp only[s5,y8]at V;intro a l;have:=V.2.1 a l;unfold ij at this;simp at this;omega
 have b:∀a∈p.arrays,1<=a.2:=λa l=>(u a l).1
 have d:0<=(p.arrays.map (·.2)).sum:=by
  have:∀m:List (Str×Int),(∀x∈m,1<=x.2)->0<=(m.map (·.2)).sum:=by
   intro m j
   induction m with
   |nil=>simp
   |cons y m G=>have U:=G (λX hz=>j X Xi);have r:=j y a8;simp only[l9,D9];omega
  exact this _ b
 have J:∀{s:Str}{t:Nat×Nat},aG (aV f) s=S t->t.1=1/\t.2<z f.params+z f.locals:=λ{s t}h=>by
  have j:=dw h;unfold aV at j;rcases C4.1 j with j|j
  .have:=De j;exact⟨this.1,a7⟩
  .have:=De j;exact⟨this.1,a7⟩
 have v:∀{s:Str}{t:Nat×Nat},aG (aO p) s=S t->(t.1=2/\t.2<z p.vars)\/(t.1=3/\∃a,p.arrays[t.2]?=S a)\/t.1=4:=λ{s t}h=>by
  have j:=dw h;unfold aO at j;rcases C4.1 j with j|j
  .rcases C4.1 j with j|j
   .have:=Ix j;exact .inl ⟨this.2,this.1⟩
   .obtain⟨a,l,A⟩:=Iw j;exact .inr (.inl ⟨A,a,l⟩)
  .exact .inr (.inr (IH j).1)
 refine⟨?_,λs L n hs A=>?_,λs n hs=>?_,λs n hs O=>?_⟩
 .rw[qV p f w U r,Iz V hf];rfl
 .rw[qV p f w U r,hs]
  simp only[z7,A5];unfold aQ at hs;cases hq:aG (aV f) s with
  |some t=>
    rw[hq]at hs;cases hs;have:=J hq;simp only at this;obtain⟨rfl,Q⟩:=this;simp only[jN,show ¬(1:Nat)=3 by decide,A8,B1];exact⟨⟨a7,a7,a7,a7⟩,trivial⟩
  |none=>
    rw[hq]at hs;simp only at hs;rcases v hs with⟨q,B⟩|⟨q,_⟩|q
    .simp only at q B
     subst q;simp only[jN,show ¬(2:Nat)=3 by decide,show ¬(2:Nat)=1 by decide,A8];exact⟨⟨a7,a7,a7,a7⟩,trivial⟩
    .simp only at q;omega
    .simp only at q;omega
 .rw[qV p f w U r,hs]
  simp only[z7,A5];unfold aQ at hs;cases hq:aG (aV f) s with
  |some t=>
    exact Vt
  |none=>
    rw[hq]at hs;simp only at hs;rcases v hs with⟨q,B⟩|⟨_,a,l⟩|q
    .simp only at q;omega
    .simp only at l
     simp only[jN,B1,eD,kj,l,z7,A5];have E:=u a (l6 l);have bl:=sF p.arrays n a b l;exact⟨E.1,E.2,a7,a7,a7,a7⟩
    .simp only at q;omega
 .rw[qV p f w U r,hs]
  simp only[z7,A5,jN,show ¬(4:Nat)=3 by decide,show ¬(4:Nat)=1 by decide,A8,R9];unfold aQ at hs;cases hq:aG (aV f) s with
  |some t=>
    exact Vt
  |none=>
    rw[hq]at hs;simp only at hs;unfold aO at hs;rw[lf]at hs;cases c:aG (thV p.vars++thA p.arrays) s with
    |some t=>
      rw[c]at hs;cases hs;have j:=dw c;rcases C4.1 j with j|j
      .have:=(Ix j).2;omega
      .obtain⟨_,_,h⟩:=Iw j;omega
    |none=>
      rw[c]at hs;simp only at hs;unfold thF at hs
      have e:(p.funcs.mapIdx λi f=>((f.name,4,i):Th))=p.funcs.mapIdx λi f=>((f.name,4,0+i):Th):=by
       congr 1;funext i f;simp
      rw[e]at hs;obtain⟨m,g,Y,H,I⟩:=wE s p.funcs 0 n hs;obtain rfl:n=m:=a7;exact⟨g,H,I⟩
end
section
def qb{A:Type}{c:Nat->A->Bool}:∀{l:List A}{j k:Nat}{x:A},bp c j l=T->l[k]?=S x->c (j+k) x=T
 |[],j,k,x,_,h=>by simp at h
 |a::l,j,0,x,U,b=>by
   simp at b;subst b;rw[bp,s5]at U;exact U.1
 |a::l,j,k+1,x,U,b=>by
   rw[bp,s5]at U;have:=qb U.2 (k:=k) (x:=x) (by simpa using b);rw[show j+(k+1)=j+1+k by omega];exact this
variable{p:Prog}
def zU(h:aX p=0):dX p=T/\iZ p=0/\qd p=0:=by
 unfold aX at h;split at h
 .cases h
 .rename_i V
  split at h
  .rename_i a;exact absurd h a
  .rename_i a
   exact⟨by simpa using V,by simpa using a,h⟩
def zV(h:iZ p=0)(hl:1<=z p.funcs):bR [] (aO p)=T/\bp (jw p) 0 p.funcs=T/\bp (xN p) 0 p.funcs=T:=by
 unfold iZ at h;split at h
 .cases h
 .rename_i c
  have a:(bR [] (aO p)&&bp (jw p) 0 p.funcs)=T:=by simpa using c
  rw[s5]at a;split at h
  .rename_i b
   rw[List.getLast?_eq_none_iff]at b;rw[b]at hl;simp at hl
  .split at h
   .rename_i Z;exact⟨a.1,a.2,Z.1⟩
   .cases h
def BL(h:aX p=0){k:Nat}{x:CFn}(I:(ab p).funcs[k]?=S x):rSs (ab p).words (sigs p.funcs) k x.word 1 x.body:=by
 obtain⟨V,l,d⟩:=zU h;have hl:1<=z p.funcs:=by unfold dX at V;simp at V;exact V.1.1.1
 obtain⟨L,c,b⟩:=zV l hl;unfold ab at I|-;simp only at I|-
 have m:k<z p.funcs:=by
  have:=(l5.1 I).1;rw[kN]at this;exact this
 obtain⟨f,g⟩:∃f,p.funcs[k]?=S f:=⟨_,v8 m⟩
 obtain⟨G,U,j,r⟩:=mH (ai p).1 p.funcs (ai p).2 k f g;rw[I]at j;cases j;have t:=l6 g;have e:=qb c g;have i:=qb b g;rw[C7]at e i;unfold jw at e;rw[s5]at e;unfold xN at i
 have Y:fp f=T:=by
  unfold dX at V;simp only[s5,y8]at V;exact V.2.2 f t
 have a:ba 1 f.body=T:=by
  unfold fp at Y;simp only[s5]at Y;exact Y.2.2
 have n:bh p.funcs f.word f.body=T:=by
  unfold qd at d;split at d
  .cases d
  .split at d
   .cases d
   .rename_i o
    have:(p.funcs.all λf=>bh p.funcs f.word f.body)=T:=by simpa using o
    rw[y8]at this;exact this f t
 have q:=IA (p:=p) (f:=f) (k:=k) (w:=G) (W:=(cR (ai p).1 p.funcs (ai p).2).2) V L e.1 t U a7;unfold lR;simp only;have:=kl (w:=f.word) q f.body 1 a e.2 i n;exact SV
end
end
section
open Go.Lower (cE cEs cAO jv cS cSs one jM gY leave gu ifC pY codeOf)
mutual
def cnE:Lower.Ex->Nat
 |.mk _ _ _ _ _ kids=>ph kids+1
def ph:List Lower.Ex->Nat
 |[]=>0
 |e::l=>cnE e+ph l
end
mutual
def cnS:Lower.Stm->Nat
 |.mk _ _ _ e a el=>ph e+mZ a+mZ el+1
def mZ:List Lower.Stm->Nat
 |[]=>0
 |s::l=>cnS s+mZ l
end
mutual
theorem IB(o i:Pl):∀e:Ex,cnE (di o i e)=szE e
 |.mk kind op num name kids=>by rw[di,cnE,szE,rX o i kids]
theorem rX(o i:Pl):∀l:List Ex,ph (aU o i l)=bc l
 |[]=>by rw[aU,ph,bc]
 |e::l=>by rw[aU,ph,bc,IB o i e,rX o i l]
end
mutual
theorem IC(o i:Pl):∀e:Stm,cnS (coreS o i e)=szS e
 |.mk kind name e a el=>by rw[coreS,cnS,szS,rX,oZ o i a,oZ o i el]
theorem oZ(o i:Pl):∀l:List Stm,mZ (bA o i l)=aD l
 |[]=>by rw[bA,mZ,aD]
 |e::l=>by rw[bA,mZ,aD,IC o i e,oZ o i l]
end
def one_le{kind op num slot size d:Int}:z (Lower.one kind op num slot size d)<=1:=by
 unfold Lower.one
 repeat' split
 all_goals simp
def ID{kind d:Int}:z (gY kind d)<=1:=by unfold gY;split<;>simp
mutual
theorem IE:∀(e:Lower.Ex)(at':Nat)(d:Int),z (cE at' d e)<=6*cnE e
 |.mk kind op num slot size kids,at',d=>by
   rw[cE,cnE];split
   .exact PD kids at' d kind
   .rw[j7]
    have:=rM kids at' d;have:=one_le (kind:=kind) (op:=op) (num:=num) (slot:=slot) (size:=size) (d:=d+z kids);omega
theorem rM:∀(l:List Lower.Ex)(at':Nat)(d:Int),z (cEs at' d l)<=6*ph l
 |[],at',d=>by rw[cEs];simp
 |e::l,at',d=>by
   rw[cEs,ph,j7];have:=IE e at' d;have:=rM l (at'+z (cE at' d e)) (d+1);omega
theorem PD:∀(l:List Lower.Ex)(at':Nat)(d kind:Int),z (cAO at' d kind l)<=6*(ph l+1)
 |[],at',d,kind=>by rw[cAO];simp
 |e::l,at',d,kind=>by
   rw[cAO,ph];unfold jM;simp only[j7,j9,l4];have U:=IE e at' d;have a:=Dd l (at'+z (cE at' d e)+z (gY kind d)+3) d;have b:=ID (kind:=kind) (d:=d);omega
theorem Dd:∀(l:List Lower.Ex)(at':Nat)(d:Int),z (jv at' d l)<=6*ph l
 |[],at',d=>by rw[jv];simp
 |e::l,at',d=>by
   rw[jv,ph];have:=IE e at' d;omega
end
def zW{w:Bool}:z (leave w)<=2:=by unfold leave;split<;>simp
def LS{w:Bool}{kind slot size:Int}{n:Nat}:z (pY w kind slot size n)<=2:=by
 unfold pY;have:=zW (w:=w)
 repeat' split
 all_goals first|assumption|simp
mutual
theorem TQ(w:Bool):∀(s:Lower.Stm)(at':Nat),z (cS w at' s)<=6*cnS s
 |.mk kind slot size e a el,at'=>by
   rw[cS,cnS];split
   .unfold gu
    simp only[j7,j9,l4];have U:=Dd e at' 0;have b:=nL w a (at'+z (jv at' 0 e)+1);omega
   .rw[j7]
    have U:=rM e at' 0;split
    .unfold ifC
     split
     .simp only[j7,j9,l4]
      have b:=nL w a (at'+z (cEs at' 0 e)+1);have c:=nL w el (at'+z (cEs at' 0 e)+1+(cSs w (at'+z (cEs at' 0 e)+1) a).length+1);omega
     .simp only[j9]
      have b:=nL w a (at'+z (cEs at' 0 e)+1);omega
    .have:=LS (w:=w) (kind:=kind) (slot:=slot) (size:=size) (n:=z e)
     omega
theorem nL(w:Bool):∀(l:List Lower.Stm)(at':Nat),z (cSs w at' l)<=6*mZ l
 |[],at'=>by rw[cSs];simp
 |e::l,at'=>by
   rw[cSs,mZ,j7];have:=TQ w e at';have:=nL w l (at'+z (cS w at' e));omega
end
def QD(w:Bool)(l:List Lower.Stm):z (codeOf w l)<=6*mZ l+2:=by
 unfold codeOf;rw[j7];have:=nL w l 0;have:=zW (w:=w);omega
def LT{A:Type}(f:A->Nat):∀{l:List A}{x:A},x∈l->f x<=(l.map f).sum
 |a::l,x,h=>by
   simp only[l9,D9];rcases A3.1 h with rfl|h
   .omega
   .have:=LT f h;omega
def zX(o:Pl):∀(l:List Fn)(w:Int),((cR o l w).1.map λx=>mZ x.body).sum=(l.map λf=>aD f.body).sum
 |[],w=>rfl
 |f::l,w=>by
   simp only[cR,l9,D9,zX o l];unfold lR;simp only[oZ]
end
end Go.Src
namespace Go.Proofs.YtlacbjnmkhndiaaGreatDoor.Low
section
open Go Go.Am Go.Lower
open Go.Src (cnE ph cnS mZ ab aX)
mutual
theorem Hb:∀e:Ex,lL e+1=cnE e
 |.mk _ _ _ _ _ kids=>by rw[lL,cnE,rJ kids]
theorem rJ:∀l:List Ex,iy l=ph l
 |[]=>by rw[iy,ph]
 |e::l=>by rw[iy,ph,<-Hb e,rJ l];omega
end
mutual
theorem Hc:∀e:Stm,mO e+1=cnS e
 |.mk _ _ _ e a el=>by rw[mO,cnS,rJ e,oO a,oO el]
theorem oO:∀l:List Stm,eJ l=mZ l
 |[]=>by rw[eJ,mZ]
 |e::l=>by rw[eJ,mZ,<-Hc e,oO l];omega
end
def su(l:List Src.Fn):(l.map λf=>Src.aD f.body).sum<=(l.map λf=>z f.params+z f.locals+Src.aD f.body).sum:=by
 induction l with
 |nil=>exact l7 _
 |cons a l b=>simp only[l9,D9];omega
def KI{p:Src.Prog}(h:aX p=0)(az:szP p<=1000000):ax Tryz.prog 22 [pp (ab p)] (·=iX (ab p).words (ab p).funcs):=by
 unfold szP at az;have a:=Src.zX (Src.ai p).1 p.funcs (Src.ai p).2;have bl:=su p.funcs;have e:((ab p).funcs.map λx=>mZ x.body).sum<=1000000:=by unfold ab;simp only;omega
 refine OE (ps:=Src.sigs p.funcs) ?_ ?_ ?_ (λk x I=>Src.BL h I)
 .unfold wn
  rw[show (λx:Src.CFn=>eJ x.body)=λx=>mZ x.body from funext λx=>oO x.body];omega
 .rw[Src.kN]
  omega
 .intro x I
  have U:=Src.QD x.word x.body;have b:=Src.LT (λx:Src.CFn=>mZ x.body) I;omega
end
section
open Go Go.Am Go.Lower
attribute[local congr]ite_cc
section
variable{x:Ins}
def zj{ps:Sig}{word:Bool}{r:Int×Int}(h:takes ps word x=S r):x.op=1\/x.op=2\/x.op=3\/x.op=4\/x.op=5\/x.op=6\/x.op=7\/x.op=8\/x.op=9\/x.op=10\/x.op=11\/x.op=12\/x.op=13:=by
 unfold takes at h;by_cases U:x.op=1\/x.op=2\/x.op=12
 .omega
 exact p9
def ksD(l:List Int):D:=.sl (l.map λk=>[.int .i64 k])
def OF{at':Nat}(p:at'<=1000000000):ax Tryz.prog 115 [.agg ((bE x).map .d),iv .i64 at'] (·=.one (.d (ksD (next x at')))):=by
 refine hdP Tryz.func115 rfl [4] λg=>?_;obtain⟨op,a,b,n⟩:=x;have o:=ac (k:=at') a7;by_cases j:op=8
 .subst j
  simp only[go_sem,bE];exact⟨_,⟨_,dN (s:=⟨_,_,_⟩) rfl [a] (λk=>[.int .i64 k]) (by simp only[upd];rfl) rfl (λ_ _ y i=>by simp at i;subst i;rfl) (λ_ _=>rfl) rfl,rfl⟩,rfl⟩
 by_cases l:op=9
 .subst l
  simp only[go_sem,bE,o];exact⟨_,⟨_,dN (s:=⟨_,_,_⟩) rfl [((at'+1:Nat):Int),a] (λk=>[.int .i64 k]) (by simp only[upd];rfl) rfl (λ_ _ y i=>by simp at i;subst i;rfl) (λ_ _=>rfl) rfl,rfl⟩,rfl⟩
 by_cases H:op=11
 .subst H
  simp only[go_sem,bE];rfl
 .simp only[go_sem,bE,j,l,H,o]
  have e:next ⟨op,a,b,n⟩ at'=[((at'+1:Nat):Int)]:=by simp[next,j,l,H]
  rw[e];exact⟨_,⟨_,dN (s:=⟨_,_,_⟩) rfl [((at'+1:Nat):Int)] (λk=>[.int .i64 k]) (by simp only[upd];rfl) rfl (λ_ _ y i=>by simp at i;subst i;rfl) (λ_ _=>rfl) rfl,rfl⟩,rfl⟩
def KJ(fs:List Src.CFn):Sig:=fs.map λx=>(x.params,x.word)
def ta(b:Bool):ax Tryz.prog 174 [bv b] (·=iv .i64 (if b then 1 else 0)):=by
 refine hdP Tryz.func174 rfl [2] λg=>?_;cases b<;>(simp only[go_sem])
def Hd{w:Int}{fs:List Src.CFn}{f:Nat}{W:Src.CFn}(hf:fs[f]?=S W){t p d:Int}(h:takes (KJ fs) W.word x=S (t,p))(G:0<=t)(c:t<=d)(hd:d<=1000000000)(H:x.op=11->d=t):
  ax Tryz.prog 114 [iX w fs,iv .i64 f,.agg ((bE x).map .d),iv .i64 d] (·=.tup [iv .i64 (if x.op=11 then 0 else d-t+p),bv T]):=by
 refine hdP Tryz.func114 rfl [8,9] λg=>?_;have u:=zj h;obtain⟨op,a,b,n⟩:=x;have A:f<z fs:=(l5.1 hf).1;unfold iX;simp only at u H;have j:IntKind.i64.wrap (d-t)=d-t:=by rw[wrap_i64]<;>omega
 have e:IntKind.i64.wrap (d-t+0)=d-t+0:=by rw[wrap_i64]<;>omega
 have i:IntKind.i64.wrap (d-t+1)=d-t+1:=by rw[wrap_i64]<;>omega
 rcases u with rfl|rfl|rfl|rfl|rfl|rfl|rfl|rfl|rfl|rfl|rfl|rfl|rfl
 all_goals try (obtain⟨rfl,rfl⟩:_=t/\_=p:=by simpa[takes]using h)
 .simp only[go_sem,bE,j,e,i,c]
 .simp only[go_sem,bE,j,e,i,c]
 .simp only[go_sem,bE,j,e,i,c]
 .simp only[go_sem,bE,j,e,i,c]
 .simp only[go_sem,bE,j,e,i,c]
 .simp only[go_sem,bE,j,e,i,c]
 .simp only[go_sem,bE,j,e,i,c]
 .simp only[go_sem,bE,j,e,i,c]
 .simp only[go_sem,bE,j,e,i,c]
 .by_cases o:a<0
  .simp[takes,o]at h
  .obtain⟨k,rfl⟩:∃k:Nat,a=(k:Int):=⟨a.toNat,a7⟩
   simp only[takes,KJ,o,A8,B3,x8,Option.map_map]at h;cases l:fs[k]? with
   |none=>simp[l]at h
   |some y=>
     have r:k<z fs:=(l5.1 l).1;have K:¬z fs<=k:=a7;have al:(k:Int)<(z fs:Int):=a7;have s:¬(z fs:Int)<=(k:Int):=a7;have v:(0:Int)<=(k:Int):=a7;cases hw:y.word with
     |false=>
       obtain⟨rfl,rfl⟩:y.params=t/\(0:Int)=p:=by simpa[l,hw]using h
       have q:¬y.params<0:=a7;simp only[go_sem,bE,l,r,K,al,s,v,o,hw,sfD,j6,q];refine cO aA mixed c8 ?_;simp only[go_sem,bE,l,r,K,al,s,v,o,hw,sfD,j6,q];refine aP rfl (ta F) (ci rfl) rfl ?_;simp only[go_sem,bE,l,r,K,al,s,v,o,hw,sfD,j6,q,j,e,c,D7]
     |true=>
       obtain⟨rfl,rfl⟩:y.params=t/\(1:Int)=p:=by simpa[l,hw]using h
       have q:¬y.params<0:=a7;simp only[go_sem,bE,l,r,K,al,s,v,o,hw,sfD,j6,q];refine cO aA mixed c8 ?_;simp only[go_sem,bE,l,r,K,al,s,v,o,hw,sfD,j6,q];refine aP rfl (ta T) (ci rfl) rfl ?_;simp only[go_sem,bE,l,r,K,al,s,v,o,hw,sfD,j6,q,j,i,c]
 .have B:=H rfl
  have E:(0:Int)<=(f:Int):=a7;have az:(f:Int)<(z fs:Int):=a7;cases hw:W.word with
  |false=>
    obtain⟨rfl,rfl⟩:(0:Int)=t/\(0:Int)=p:=by simpa[takes,hw]using h
    simp only[go_sem,bE,hf,E,az,A,sfD,j6,hw];refine fD rfl (ta F) j0 ?_;rintro _ rfl;simp only[go_sem,w8 B,D7]
  |true=>
    obtain⟨rfl,rfl⟩:(1:Int)=t/\(0:Int)=p:=by simpa[takes,hw]using h
    simp only[go_sem,bE,hf,E,az,A,sfD,j6,hw];refine fD rfl (ta T) j0 ?_;rintro _ rfl;simp only[go_sem,w8 B]
 .simp only[go_sem,bE,j,e,i,c]
 .simp only[go_sem,bE,j,e,i,c]
end
section
def icells(l:List Int):List C:=l.map λk=>.d (.int .i64 k)
def ct(l:List Int):z (icells l)=z l:=by simp[icells]
def iz(l:List Int)(k:Nat):(icells l)[k]?=(l[k]?).map λk=>.d (.int .i64 k):=by simp[icells]
def iA(l:List Int)(k:Nat)(v:Int):(icells l).set k (.d (.int .i64 v))=icells (l.set k v):=by simp[icells,Mu]
def kJ(a b:List Int):icells (a++b)=icells a++icells b:=by simp[icells]
structure sw (E D:Nat) (l:List Int) (g:Nat->Nat) (ob:Obs):Prop where
 t:ob E=some [.osl D (g D) 1 0 l.length]
 d:∃r:List Int,ob D=some (icells (l++r))
variable{l:List Int}{B E D:Nat}{g:Nat->Nat}{ob:Obs}{p:Nat}
def OG(hB:∀i,B<=i->ob i=N)(hT:E<B)(h:sw E D l g ob)(m:g E=p):
  cM Tryz.prog 112 [.one (.ptr E p 0)] g ob (λr g' Y=>g'=g/\Y=ob/\r=iv .i64 (z l)) (λ_ _ _=>False):=by
 refine hdM B [] Tryz.func112 rfl [.tmp 2] a8 hB λO bn s0 w0=>?_;obtain⟨U,r,a⟩:=h;simp only[go_sem,U,a,m,ct,j7];refine⟨_,ae.refl _,?_⟩;simp only[go_sem];exact bi.nil (λi b=>⟨rfl,rfl⟩) (o:=[iv .i64 (z l)]) ⟨_,_,rfl,.one (.d _),rfl⟩ ⟨rfl,rfl,rfl⟩
def Bi{B:Nat}:∀c∈icells l,kQ B c:=λc Z=>by
 obtain⟨x,_,rfl⟩:=E3.1 Z;trivial
def He{x:Int}(hB:∀i,B<=i->ob i=N)(hT:E<B)(hD:D<B)(a:E≠D)(h:sw E D l g ob)(m:g E=p)(hl:z l<=1000000000):
  cM Tryz.prog 111 [.one (.ptr E p 0),iv .i64 x] g ob (λ_ g' Y=>sw E D (l++[x]) g' Y/\(∀i,i≠D->g' i=g i)/\∀i,i≠E->i≠D->Y i=ob i) (λ_ _ _=>False):=by
 refine hdM B [E,D] Tryz.func111 rfl [] VC hB λO bn s0 w0=>?_;obtain⟨U,r,j⟩:=h;have n:∀k,(E=B+k)=False:=λk=>by simp;omega
 have o:∀k,(D=B+k)=False:=λk=>by simp;omega
 have q:(E=D)=False:=by simp[a]
 have b:(D=E)=False:=by simp[B8 a]
 simp only[go_sem,n,o,q,b,U,j,m,ct,j7,aW];refine⟨a7,⟨b9,a7⟩,?_⟩;refine⟨_,ae.refl _,?_⟩;simp only[go_sem];refine⟨⟨λi hi hn=>?_,λi hi d Z=>?_⟩,[],rfl,⟨?_,?_⟩,λi hi=>?_,λi hi y=>?_⟩
 .have U:i≠E:=λe=>hn WY
  have j:i≠D:=λe=>hn WY;exact⟨nu,nu⟩
 .simp only[A3,A9,E6]at hi
  rcases hi with rfl|rfl
  .simp[upd]at Z
   subst Z;intro c Z;rw[E0.1 Z];exact hD
  .simp[upd,b]at Z
   subst Z;intro c Z;rcases C4.1 Z with Z|Z
   .exact Bi c (M9 Z)
   .rw[E0.1 Z];trivial
 .simp[je,eY,upd]
 .refine⟨[],?_⟩
  simp[eY,upd,b];rw[kJ];simp[icells]
 .exact SJ
 .unfold eY
  rw[j8 (by simp[hi,y])]
def Ti{x:Int}(hB:∀i,B<=i->ob i=N)(hT:E<B)(hD:D<B)(a:E≠D)(h:sw E D (l++[x]) g ob)(m:g E=p)(hl:z l<=1000000000):
  cM Tryz.prog 113 [.one (.ptr E p 0)] g ob (λr g' Y=>r=iv .i64 x/\sw E D l g' Y/\g'=g/\∀i,i≠E->Y i=ob i) (λ_ _ _=>False):=by
 refine hdM B [E] Tryz.func113 rfl [.tmp 2] VC hB λO bn s0 w0=>?_;obtain⟨U,r,n⟩:=h;have q:∀k,(E=B+k)=False:=λk=>by simp;omega
 have s:(E=D)=False:=by simp[a]
 have o:(D=E)=False:=by simp[B8 a]
 have t:z (l++[x])=z l+1:=a8;rw[t]at U;have u:IntKind.i64.wrap (((z l+1:Nat):Int)-1)=(z l:Int):=by rw[wrap_i64]<;>omega
 have v:(l++[x]++r)[z l]?=S x:=a8;have w:(0:Int)<=(z l:Int):=a7;simp only[go_sem,q,s,o,U,n,m,ct,j7,u,iz,v,w];refine⟨a7,a7,a7,?_⟩;refine⟨_,ae.refl _,?_⟩;simp only[go_sem];refine⟨⟨λi b hn=>?_,λi b j Z=>?_⟩,[iv .i64 x],⟨_,_,rfl,.one (.d _),rfl⟩,rfl,⟨?_,x::r,?_⟩,xq (λi b=>rfl),λi b=>?_⟩
 .have U:i≠E:=λe=>hn WY
  exact⟨nu,nu⟩
 .simp only[A3,A9,E6]at b
  subst b;simp[upd]at Z;subst Z;intro c Z;rw[E0.1 Z];exact hD
 .rw[xq (λi b=>rfl)]
  simp[eY,upd]
 .simp only[eY,A3,A9,E6,o,A8]
  rw[n];simp
 .simp[eY,b]
end
end
end Go.Proofs.YtlacbjnmkhndiaaGreatDoor.Low
namespace Go.Emit
section
open Go.Lower (Ins Code codeOf takes next Inv left)
section
def visit(A:Lower.Code):List Int->List Int×List Nat->List Int×List Nat
 |[],st=>st
 |y::l,st=>visit A l (if (st.1[y.toNat]?.getD 0)<0 then(st.1.set y.toNat (((A[y.toNat]?).map Prod.snd).getD 0),st.2++[y.toNat])else st)
def search(A:Lower.Code):Nat->List Int×List Nat->List Int
 |0,st=>st.1
 |n+1,st=>match st.2.getLast? with
   |none=>st.1
   |some a=>match A[a]? with
     |none=>st.1
     |some x=>search A n (visit A (next x.1 a) (st.1,st.2.dropLast))
def bq(A:Lower.Code):List Int:=search A (z A) ((List.replicate (z A) (-1)).set 0 0,[0])
def AO(A:Lower.Code)(n:Nat)(out:List Int):search A n (out,[])=out:=by cases n<;>rfl
def yG(A:Lower.Code)(n:Nat)(out:List Int)(c:List Nat)(a:Nat){x:Ins×Int}(h:A[a]?=S x):search A (n+1) (out,c++[a])=search A n (visit A (next x.1 a) (out,c)):=by
 simp only[search,List.getLast?_append,List.getLast?_singleton,Option.some_or,h,List.dropLast_concat]
variable{l:List Int}{out:List Int}{c:List Nat}
def ua{A:Lower.Code}{y:Int}{u d:Int}(h:out[y.toNat]?=S u)(L:u<0)(hd:(A[y.toNat]?).map Prod.snd=S d):visit A (y::l) (out,c)=visit A l (out.set y.toNat d,c++[y.toNat]):=by
 simp only[visit,h,hd,A5,L,B1]
def ub{A:Lower.Code}{y:Int}{u:Int}(h:out[y.toNat]?=S u)(L:¬u<0):visit A (y::l) (out,c)=visit A l (out,c):=by
 simp only[visit,h,A5,L,A8]
def deepest(l:List Int)(d:Int):Int:=l.foldl max d
def qx(a:Int)(l:List Int)(d:Int):deepest (a::l) d=deepest l (max d a):=rfl
def dk(n:Nat):Nat->List (List Int)->Int->List Int×List Int×Int
 |_,[],w=>([],[],w)
 |k,o::l,w=>
   let b:=if k+1=n then w else w+1
   let r:=dk n (k+1) l (b+deepest o 0)
   (w::r.1,b::r.2.1,r.2.2)
structure Plan where
 depths:List (List Int)
 back:List Int
 base:List Int
 data:Int
def cK(w:Int)(fs:List Src.CFn):Plan:=
 let ds:=fs.map λx=>bq (codeOf x.word x.body)
 let r:=dk (z fs) 0 ds w
 ⟨ds,r.1,r.2.1,r.2.2⟩
def yH(n:Nat):∀(l:List (List Int))(k:Nat)(w:Int)(o:List Int),dk n k (l++[o]) w =
  let r:=dk n k l w
  let b:=if k+z l+1=n then r.2.2 else r.2.2+1
  (r.1++[r.2.2],r.2.1++[b],b+deepest o 0)
 |[],k,w,o=>by simp[dk]
 |a::l,k,w,o=>by
   simp only[C3,dk,yH n l,j9];rw[show k+1+z l+1=k+(z l+1)+1 by omega]
def uc(n:Nat):∀(l:List (List Int))(k:Nat)(w:Int),z (dk n k l w).1=z l/\z (dk n k l w).2.1=z l
 |[],k,w=>by simp[dk]
 |a::l,k,w=>by
   simp only[dk,j9];exact⟨by rw[(uc n l _ _).1],by rw[(uc n l _ _).2]⟩
abbrev MI:=Int×Int×Int×Int
abbrev Ho:=Int×Int×Int
structure Wr where
 code:List MI
 holes:List Ho
def dS:Nat->Wr:=λ_=>⟨[],[]⟩
def ao(op a b c:Int):Nat->Wr:=λ_=>⟨[(op,a,b,c)],[]⟩
def aq(op a f pl:Int):Nat->Wr:=λn=>⟨[(op,a,0,0)],[((n:Int),f,pl)]⟩
def ak(x y:Nat->Wr):Nat->Wr:=λn=>⟨(x n).code++(y (n+z (x n).code)).code,(x n).holes++(y (n+z (x n).code)).holes⟩
def ru:List (Nat->Wr)->Nat->Wr
 |[]=>dS
 |[x]=>x
 |x::y::l=>ak x (ru (y::l))
def db(P:Plan)(f:Nat)(V reg a:Int):Nat->Wr:=ao 16 reg 0 ((P.base[f]?).getD 0+V-a)
def cP(P:Plan)(f:Nat)(V reg a:Int):Nat->Wr:=ao 17 reg 0 ((P.base[f]?).getD 0+V-a)
def hi16(n:Int):Int:=(n/65536+9223372036854775808)%18446744073709551616-9223372036854775808
def jA(reg n:Int):Nat->Wr:=if 65535<n then ak (ao 1 reg 0 (n%65536)) (ao 2 reg 0 (hi16 n))else ao 1 reg 0 (n%65536)
def jQ(fs:List Src.CFn)(P:Plan)(f:Nat)(V:Int):Nat->Wr:=
 if f+1=z fs then ao 26 0 0 0
 else
  let back:=ak (ao 16 14 0 ((P.back[f]?).getD 0)) (ao 22 14 0 0)
  if ((fs[f]?).map (·.word)).getD F then ak (db P f V 1 1) back else back
def iU(a:Int):Nat->Nat->Wr
 |0=>dS
 |k+1=>ak (iU a k) (ao 17 0 0 (a+k))
def iq(a b:Int):Nat->Wr:=
 if b-a<=6 then iU a (b-a).toNat
 else λn=>⟨[(1,1,0,a),(1,2,0,b),(17,0,1,0),(4,1,1,15),(14,3,1,2),(20,3,0,(n:Int)+2)],[]⟩
def kE(P:Plan)(f:Nat)(V params first:Int):Nat->Nat->Wr
 |0=>dS
 |k+1=>ak (kE P f V params first k) (ak (db P f V 1 (params-k)) (ao 17 1 0 (first+k)))
def sq(fs:List Src.CFn)(P:Plan)(f:Nat)(V a:Int):Nat->Wr:=
 match fs[a.toNat]? with
 |none=>dS
 |some y=>ak (kE P f V y.params y.first y.params.toNat) (ak (aq 21 14 a (-1)) (if y.word then cP P f V 1 y.params else dS))
def jR(fs:List Src.CFn)(P:Plan)(f:Nat)(V:Int)(x:Ins):Nat->Wr:=
 if x.op=1 then ak (jA 1 x.n) (cP P f V 1 0)
 else if x.op=2 then ak (ao 16 1 0 x.a) (cP P f V 1 0)
 else if x.op=3 then ak (db P f V 1 1) (ao 17 1 0 x.a)
 else if x.op=4 then ak (db P f V 1 1) (ak (ao 25 1 0 x.b) (ak (ao 16 1 1 x.a) (cP P f V 1 1)))
 else if x.op=5 then ak (db P f V 1 2) (ak (ao 25 1 0 x.b) (ak (db P f V 2 1) (ao 17 2 1 x.a)))
 else if x.op=6 then ak (db P f V 1 2) (ak (db P f V 2 1) (ak (ao x.a 1 1 2) (cP P f V 1 2)))
 else if x.op=7 then ak (db P f V 1 1) (ak (ao 15 1 1 0) (cP P f V 1 1))
 else if x.op=8 then aq 18 0 f x.a
 else if x.op=9 then ak (db P f V 1 1) (aq 19 1 f x.a)
 else if x.op=10 then sq fs P f V x.a
 else if x.op=11 then jQ fs P f V
 else if x.op=12 then ak (ao 23 1 0 0) (cP P f V 1 0)
 else if x.op=13 then ak (db P f V 1 1) (ao 24 1 0 0)
 else dS
def jg(fs:List Src.CFn)(P:Plan)(f:Nat):Nat->Wr:=
 if f+1=z fs then dS
 else match fs[f]? with
  |none=>dS
  |some y=>ak (ao 17 14 0 ((P.back[f]?).getD 0)) (iq (y.first+y.params) (y.first+y.slots))
def eM(fs:List Src.CFn)(P:Plan)(f:Nat)(A:Lower.Code)(ds:List Int):Nat->Nat->Wr
 |0=>jg fs P f
 | k+1=>ak (eM fs P f A ds k) (match A[k]?,ds[k]? with
   |some x,S d=>if 0<=d then jR fs P f d x.1 else dS
   | _,_=>dS)
def placesOf(fs:List Src.CFn)(P:Plan)(f:Nat)(A:Lower.Code)(ds:List Int)(n:Nat):List Int:=
 (List.range (z A)).map λk=>((n+z (eM fs P f A ds k n).code:Nat):Int)
structure fZ where
 code:List MI
 holes:List Ho
 ent:List Int
 pls:List (List Int)
def dH(fs:List Src.CFn)(P:Plan)(d:fZ)(f:Nat):fZ:=
 match fs[f]?,P.depths[f]? with
 |some y,S ds=>
   let A:=codeOf y.word y.body
   let w:=eM fs P f A ds (z A) (z d.code)
   ⟨d.code++w.code,d.holes++w.holes,d.ent.set f (z d.code),d.pls.set f (placesOf fs P f A ds (z d.code))⟩
 |_,_=>d
def start(fs:List Src.CFn)(P:Plan):fZ:=dH fs P ⟨[(1,15,0,1)],[],List.replicate (z fs) 0,List.replicate (z fs) []⟩ (z fs-1)
def pg(fs:List Src.CFn)(P:Plan):Nat->fZ
 |0=>start fs P
 |k+1=>dH fs P (pg fs P k) k
def whole(fs:List Src.CFn)(P:Plan):fZ:=pg fs P (z fs-1)
def place(d:fZ)(h:Ho):Int:=if 0<=h.2.2 then(((d.pls[h.2.1.toNat]?).getD [])[h.2.2.toNat]?).getD 0 else(d.ent[h.2.1.toNat]?).getD 0
def fill(d:fZ)(code:List MI)(h:Ho):List MI:=
 match code[h.1.toNat]? with
 |some x=>code.set h.1.toNat (x.1,x.2.1,x.2.2.1,place d h)
 |none=>code
def filled(d:fZ):List MI:=d.holes.foldl (fill d) d.code
end
end
end Go.Emit

/- A part of the proof; no conditions. -/
import Derived.Test.YtlacbjnmkhndiaaGreatDoorPart11
set_option linter.unusedSimpArgs false
set_option linter.unusedVariables false
set_option linter.defProp false
open List renaming length -> z
open Option renaming some -> S, none -> N
open Bool renaming true -> T, false -> F
set_option maxHeartbeats 64000000
set_option maxRecDepth 100000
namespace Go.Proofs.YtlacbjnmkhndiaaGreatDoor
section
open Go Go.Am Go.Asm
open Go.Src (Ex Stm szE bw szS aN Pl ki ct dK bm coreS bP lS lT)
attribute[local congr]ite_cc
section
mutual
def cxD:Lower.Ex->List D
 |.mk kind op num slot size kids=>[.int .i64 kind,.int .i64 op,.int .u32 num,.int .i64 slot,.int .i64 size,.sl (zc kids)]
def zc:List Lower.Ex->List (List D)
 |[]=>[]
 |e::l=>cxD e::zc l
end
def po:∀l:List Lower.Ex,zc l=l.map cxD
 |[]=>by simp[zc]
 |e::l=>by simp[zc,po l]
def EM(e:Lower.Ex):z (cxD e)=6:=by cases e;simp[cxD]
mutual
def csD:Lower.Stm->List D
 |.mk kind slot size e a el=>[.int .i64 kind,.int .i64 slot,.int .i64 size,.sl (zc e),.sl (qS a),.sl (qS el)]
def qS:List Lower.Stm->List (List D)
 |[]=>[]
 |e::l=>csD e::qS l
end
def pq:∀l:List Lower.Stm,qS l=l.map csD
 |[]=>by simp[qS]
 |e::l=>by simp[qS,pq l]
def EN(e:Lower.Stm):z (csD e)=6:=by cases e;simp[csD]
def xi(l:List Lower.Ex):AV:=.one (aq (l.map cxD))
def te(l:List Lower.Stm):AV:=.one (aq (l.map csD))
def plD(t:Int×Int):List D:=[.int .i64 t.1,.int .i64 t.2]
def rO(M:List C)(m:Pl):Prop:=∀s:Str,mget M (.str s)=(ki m s).map λt=>.d (.iptr (plD t))
def rO.put{M:List C}{m:Pl}(h:rO M m)(a:Str)(t:Int×Int):rO (mset M (.str a) (.d (.iptr (plD t)))) ((a,t)::m):=λs=>by
 rw[pM];simp only[kO,ki];by_cases b:a=s
 .subst b
  simp
 .simp only[b,L7,E0,B1]
  exact h s
structure Jo (H li:Pl) (io ii go gi:Nat) (g:Nat->Nat) (ob:Obs):Prop where
 mo:∃M,ob io=some M/\rO M H
 mi:∃M,ob ii=some M/\rO M li
 go:g io=go
 gi:g ii=gi
def Jo.mono{H li:Pl}{io ii go gi B:Nat}{g g':Nat->Nat}{ob Y:Obs}(h:Jo H li io ii go gi g ob)(ho:io<B)(hi:ii<B)(a:∀i,i<B->g' i=g i/\Y i=ob i):Jo H li io ii go gi g' Y where
 mo:=by rw[(a io ho).2];exact h.mo
 mi:=by rw[(a ii hi).2];exact h.mi
 go:=by rw[(a io ho).1];exact h.go
 gi:=by rw[(a ii hi).1];exact h.gi
def uG(io ii go gi:Nat):AV:=.agg [.mp io go 208,.mp ii gi 208]
def EP(H li:Pl)(io ii go gi:Nat)(f:FuncId)(xs:List AV)(r:AV):Prop:=∀(B:Nat)(g:Nat->Nat)(ob:Obs),io<B->ii<B->(∀i,B<=i->ob i=N)->Jo H li io ii go gi g ob->
 dj Tryz.prog f (uG io ii go gi::xs) g ob (λq a Y=>a=g/\Y=ob/\q=r) (λ_ _ _=>False)
section
variable{O:Bs}{rd:Option Nat}{p:St->Am.Loc->List Deferred->World->Prop}
def qT{c:fT}{d:Nat}(a6:bp O p){o:Oper}{s:St}{K:St->Prop}{k:Box K}{f:FuncId}{args:Array Operand}{tys:Array TypeId}(ho:o.op=.call ⟨.value (.func f),args,tys⟩){xs:List AV}{r:AV}{H li:Pl}{io ii go gi:Nat}
 (V:EP H li io ii go gi f xs r)(I:args.toList.map s.ev=uG io ii go gi::xs)(b:Nat)(U:io<b)(e:ii<b)(bk:∀i,b<=i->s.obj i=N)(E:Jo H li io ii go gi s.gen s.obj)(j:K (s.put o.dst r)):bC (spF Tryz.prog rd O p d c) o s k:=by
 refine cH (R:=λq a Y=>a=s.gen/\Y=s.obj/\q=r) (L:=λ_ _ _=>False) a6 ho (by rw[I];exact V b s.gen s.obj U e bk E) (λ_ _ _ h=>h.elim) ?_;rintro _ a Y ⟨rfl,rfl,rfl⟩;exact j
end
section
variable{H li:Pl}{io ii go gi:Nat}
def Jp(b:Str):EP H li io ii go gi 70 [sv b] (.agg ((plD (ct H li b)).map .d)):=by
 intro B g ob U j hB E;obtain⟨⟨m,l,mo⟩,⟨u,oi,mi⟩,av,an⟩:=E;unfold uG;refine hdM B [] Tryz.func70 rfl [.cell 4 103] a8 hB λO bn s0 w0=>?_;have n1:∀k,(io=B+k)=False:=λk=>by simp;omega
 have n2:∀k,(ii=B+k)=False:=λk=>by simp;omega
 have a:=mi b;have I:=mo b;unfold ct;cases e:ki li b with
 |some t=>
   rw[e]at a;simp only[A3,plD]at a;simp only[go_sem,n1,n2,an,oi,E4,C9,a];exact K3
 |none=>
   rw[e]at a;simp only[H8]at a;cases q:ki H b with
   |some t=>
     rw[q]at I;simp only[A3,plD]at I;simp only[go_sem,n1,n2,an,av,oi,E4,C9,a,l,I];exact K3
   |none=>
     rw[q]at I;simp only[H8]at I;simp only[go_sem,n1,n2,an,av,oi,E4,C9,a,l,I];refine⟨_,ai.refl _,?_⟩;simp only[go_sem,n1,n2];exact bB.nil (λi hi=>⟨nu,nu⟩) (o:=[.agg ((plD (0,0)).map .d)]) ⟨_,_,rfl,Gq (plD (0,0)),rfl⟩ ⟨rfl,rfl,rfl⟩
def cxC(l:List Lower.Ex):List C:=l.flatMap λa=>(cxD a).map .d
def MR(l:List Lower.Ex):z (cxC l)=z l*6:=by
 induction l with
 |nil=>rfl
 |cons a l b=>simp only[cxC,G8,j8,j7,EM,l4]at b|-;omega
def MS(l m:List Lower.Ex):cxC (l++m)=cxC l++cxC m:=by simp[cxC]
def MT(e:Lower.Ex):cxC [e]=(cxD e).map .d:=by simp[cxC]
def csC(l:List Lower.Stm):List C:=l.flatMap λa=>(csD a).map .d
def MU(l:List Lower.Stm):z (csC l)=z l*6:=by
 induction l with
 |nil=>rfl
 |cons a l b=>simp only[csC,G8,j8,j7,EN,l4]at b|-;omega
def MV(l m:List Lower.Stm):csC (l++m)=csC l++csC m:=by simp[csC]
def MW(e:Lower.Stm):csC [e]=(csD e).map .d:=by simp[csC]
def xR{A β:Type}{f:A->β}{l:List A}{k:Nat}{x:A}(h:l[k]?=S x):(l.take (k+1)).map f=(l.take k).map f++[f x]:=by
 rw[D2,h,Ln,A8];rfl
def MX:∀(al:Nat)(l:List Ex),bw l<=al->al<=1000000000->EP H li io ii go gi 71 [eJ l] (xi (bm H li l)):=by
 intro al
 induction al using Nat.strongRecOn with
 |ind al ih=>
 intro l bd hN B g ob U V hB E;rw[lS];unfold uG;refine hdM B [] Tryz.func71 rfl [.tmp 4] a8 hB λO bn s0 w0=>?_;have bz:=Src.KQ l;unfold eJ;simp only[go_sem,j7]
 refine mQ _ (pL (t:=5) (id:=B+36) (sz:=6) XD) (λm K=>∃k:Nat,m+k=z l/\K.f 2=aj (B+2) (K.gen (B+2)) 0/\K.f 5=dL (B+36) (K.gen (B+36)) 6 0 k/\K.f 9=.one (aq (l.map exD))/\K.f 10=ae (z l)/\K.f 11=ae k/\
   K.obj (B+2)=S [.mp io go 208,.mp ii gi 208]/\K.obj (B+36)=S (cxC ((l.take k).map (dK H li)))/\(∀j,j<B->K.gen j=g j/\K.obj j=ob j)/\(∀j,B+39<=j->K.obj j=N)) (z l) ?_ ?_
 .exact VJ
 rintro m f g1 av ⟨k,hk,q2,u,q9,A,q,o2,b,fr,ar⟩;simp only at q2 u q9 A q o2 b fr ar;have hw:=ah (k:=k) a7;by_cases af:k<z l
 case neg=>
  have Q:¬(k:Int)<(z l:Int):=a7;obtain rfl:k=z l:=a7;rw[s7 (l8 _)]at b;simp only[go_sem,u,A,q,Q];refine⟨_,ai.refl _,?_⟩;simp only[go_sem,u];exact bB.nil fr (o:=[xi (l.map (dK H li))]) ⟨_,_,rfl,.one (jc a7 rfl (l.map (dK H li)) cxD b rfl (λa _=>EM a) (by rw[j7])),rfl⟩ ⟨rfl,rfl,rfl⟩
 have Q:(k:Int)<(z l:Int):=a7;have bf:(0:Int)<=(k:Int):=a7;obtain⟨e,he⟩:=getq af;have Z:=Src.Oz (l7 he);obtain⟨kind,op,num,name,r⟩:=e;rw[szE]at Z;have hE:exD (.mk kind op num name r)=[.int .i64 kind,.int .i64 op,.int .u32 num,.str name,.sl (r.map exD)]:=by simp only[exD,aV]
 have n:=ih (bw r) a7 r (l8 _) a7;simp only[go_sem,q2,u,q9,A,q,o2,Q,bf,he,hE];refine qT aa rfl (Jp name) (by simp only[go_sem,uG]) (B+39) a7 a7 (λi hi=>nt (ar i a7)) ((E.mono U V fr).mono U V λi hi=>⟨nu,nu⟩) ?_;obtain⟨ps,b3⟩:∃x,ct H li name=x:=⟨_,rfl⟩
 rw[b3];have c:dK H li (.mk kind op num name r)=.mk kind op num ps.1 ps.2 (bm H li r):=by rw[dK,b3]
 unfold plD;simp only[go_sem];refine cB aO mixed aa [B+35,B+36] [([5],[0],[],F),([7],[],[],F),([20],[],[],F),([7],[],[],F),([22],[],[],F),([7],[],[],F),([24],[],[],F),([8],[],[],F),([26],[],[],F),([8],[],[],F),([28],[],[],F),([2],[],[],F),([7],[],[],F),([31],[],[],F),([30,32],[],[],F),([21,23,25,27,29,33],[],[],F),([34],[],[0],F),([19,35],[],[1],F),([36],[],[],T)] 2 rfl c9 rfl a8 ?_;simp only[go_sem]
 iterate 10 (apply aw;(case hg=>first|exact y8|exact⟨_,rfl,by decide,rfl⟩);(case U=>intro I ga L K' J;simp only[go_sem,q2,u,o2]at J|-;exact J))
 iterate 4 (apply aw;(case hg=>first|exact y8|exact⟨_,rfl,by decide,rfl⟩);(case U=>intro I ga L K' J;simp only[go_sem,q2,u,o2]at J|-;exact J))
 apply aw (v:=xi (bm H li r))
 case hg=>exact y8
 case U=>
  intro I ga L K' J;simp only[go_sem,xi]at J|-;refine qT aa rfl n Y1 (B+39) a7 a7 (λi hi=>nt (ar i a7)) ((E.mono U V fr).mono U V λi hi=>⟨nu,nu⟩) ?_;unfold xi;exact lv
 (apply aw;(case hg=>first|exact y8|exact⟨_,rfl,by decide,rfl⟩);(case U=>intro I ga L K' J;simp only[go_sem,xi]at J|-;exact J))
 (apply bV;(case hg=>first|exact y8|exact⟨_,rfl,by decide,rfl⟩);(case U=>intro I ga L K' J;simp only[go_sem,ba]at J|-;exact J))
 have b5:=MR ((l.take k).map (dK H li));have Y:z ((l.take k).map (dK H li))=k:=by rw[j7,D3];omega
 rw[Y]at b5;refine bV (a:=1) (v:=dL (B+36) (nxC (apC 213 (g1 (B+36)) 0) (g1 (B+36))) 6 0 (k+1)) (x:=nxC (apC 213 (g1 (B+36)) 0) (g1 (B+36))) (y:=S (cxC ((l.take k).map (dK H li)++[dK H li (.mk kind op num name r)]))) y8 (λI ga L K' J=>?_) ?_
 .have e1:List.take (k*6) (cxC ((l.take k).map (dK H li)))++(cxD (dK H li (.mk kind op num name r))).map .d=cxC ((l.take k).map (dK H li)++[dK H li (.mk kind op num name r)]):=by
   rw[s7 a7,MS,MT]
  rw[c]at e1;simp only[cxD,po,s6,x7]at e1;rw[c]at J;simp only[go_sem,ba,b,b5]at J|-;exact Xp
 exact r8
end
end
section
section
variable{H li:Pl}{io ii go gi:Nat}
def MY:∀(al:Nat)(l:List Stm),aN l<=al->al<=1000000000->EP H li io ii go gi 45 [fH l] (te (bP H li l)):=by
 intro al
 induction al using Nat.strongRecOn with
 |ind al ih=>
 intro l bd hN B g ob U L hB E;rw[lT];unfold uG;refine hdM B [] Tryz.func45 rfl [.tmp 4] a8 hB λO bn s0 w0=>?_;have bz:=Src.KR l;unfold fH;simp only[go_sem,j7]
 refine mQ _ (pL (t:=5) (id:=B+40) (sz:=6) XD) (λm K=>∃k:Nat,m+k=z l/\K.f 2=aj (B+2) (K.gen (B+2)) 0/\K.f 5=dL (B+40) (K.gen (B+40)) 6 0 k/\K.f 9=.one (aq (l.map smD))/\K.f 10=ae (z l)/\K.f 11=ae k/\
   K.obj (B+2)=S [.mp io go 208,.mp ii gi 208]/\K.obj (B+40)=S (csC ((l.take k).map (coreS H li)))/\(∀j,j<B->K.gen j=g j/\K.obj j=ob j)/\(∀j,B+43<=j->K.obj j=N)) (z l) ?_ ?_
 .exact VJ
 rintro m f g1 av ⟨k,hk,q2,q5,q9,A,q,o2,b,fr,ar⟩;simp only at q2 q5 q9 A q o2 b fr ar;have hw:=ah (k:=k) a7;by_cases af:k<z l
 case neg=>
  have Q:¬(k:Int)<(z l:Int):=a7;obtain rfl:k=z l:=a7;rw[s7 (l8 _)]at b;simp only[go_sem,q5,A,q,Q];refine⟨_,ai.refl _,?_⟩;simp only[go_sem,q5];exact bB.nil fr (o:=[te (l.map (coreS H li))]) ⟨_,_,rfl,.one (jc a7 rfl (l.map (coreS H li)) csD b rfl (λa _=>EN a) (by rw[j7])),rfl⟩ ⟨rfl,rfl,rfl⟩
 have Q:(k:Int)<(z l:Int):=a7;have bf:(0:Int)<=(k:Int):=a7;obtain⟨e,he⟩:=getq af;have Z:=Src.OA (l7 he);obtain⟨kind,name,r,I,el⟩:=e;rw[szS]at Z;have hE:smD (.mk kind name r I el)=[.int .i64 kind,.str name,.sl (r.map exD),.sl (I.map smD),.sl (el.map smD)]:=by simp only[smD,aV,ez]
 have G:=ih (aN I) a7 I (l8 _) a7;have a6:=ih (aN el) a7 el (l8 _) a7;have u:=MX (H:=H) (li:=li) (io:=io) (ii:=ii) (go:=go) (gi:=gi) (bw r) r (l8 _) a7;simp only[go_sem,q2,q5,q9,A,q,o2,Q,bf,he,hE];refine qT aa rfl (Jp name) (by simp only[go_sem,uG]) (B+43) a7 a7 (λi hi=>nt (ar i a7)) ((E.mono U L fr).mono U L λi hi=>⟨nu,nu⟩) ?_;obtain⟨ps,b3⟩:∃x,ct H li name=x:=⟨_,rfl⟩
 rw[b3];have c:coreS H li (.mk kind name r I el)=.mk kind ps.1 ps.2 (bm H li r) (bP H li I) (bP H li el):=by rw[coreS,b3]
 unfold plD;simp only[go_sem];refine cB aO mixed aa [B+39,B+40] [([5],[0],[],F),([7],[],[],F),([20],[],[],F),([8],[],[],F),([22],[],[],F),([8],[],[],F),([24],[],[],F),([2],[],[],F),([7],[],[],F),([27],[],[],F),([26,28],[],[],F),([2],[],[],F),([7],[],[],F),([31],[],[],F),([30,32],[],[],F),([2],[],[],F),([7],[],[],F),([35],[],[],F),([34,36],[],[],F),([21,23,25,29,33,37],[],[],F),([38],[],[0],F),([19,39],[],[1],F),([40],[],[],T)] 2 rfl c9 rfl a8 ?_;simp only[go_sem]
 iterate 10 (apply aw;(case hg=>first|exact y8|exact⟨_,rfl,by decide,rfl⟩);(case U=>intro V ga oa K' J;simp only[go_sem,q2,q5,o2]at J|-;exact J))
 apply aw (v:=xi (bm H li r))
 case hg=>exact y8
 case U=>
  intro V ga oa K' J;simp only[go_sem,xi]at J|-;refine qT aa rfl u Y1 (B+43) a7 a7 (λi hi=>nt (ar i a7)) ((E.mono U L fr).mono U L λi hi=>⟨nu,nu⟩) ?_;unfold xi;exact lv
 iterate 3 (apply aw;(case hg=>first|exact y8|exact⟨_,rfl,by decide,rfl⟩);(case U=>intro V ga oa K' J;simp only[go_sem,q2,q5,o2]at J|-;exact J))
 apply aw (v:=te (bP H li I))
 case hg=>exact y8
 case U=>
  intro V ga oa K' J;simp only[go_sem,te]at J|-;refine qT aa rfl G Y1 (B+43) a7 a7 (λi hi=>nt (ar i a7)) ((E.mono U L fr).mono U L λi hi=>⟨nu,nu⟩) ?_;unfold te;exact lv
 iterate 3 (apply aw;(case hg=>first|exact y8|exact⟨_,rfl,by decide,rfl⟩);(case U=>intro V ga oa K' J;simp only[go_sem,q2,q5,o2]at J|-;exact J))
 apply aw (v:=te (bP H li el))
 case hg=>exact y8
 case U=>
  intro V ga oa K' J;simp only[go_sem,te]at J|-;refine qT aa rfl a6 Y1 (B+43) a7 a7 (λi hi=>nt (ar i a7)) ((E.mono U L fr).mono U L λi hi=>⟨nu,nu⟩) ?_;unfold te;exact lv
 (apply aw;(case hg=>first|exact y8|exact⟨_,rfl,by decide,rfl⟩);(case U=>intro V ga oa K' J;simp only[go_sem,xi,te]at J|-;exact J))
 (apply bV;(case hg=>first|exact y8|exact⟨_,rfl,by decide,rfl⟩);(case U=>intro V ga oa K' J;simp only[go_sem,ba]at J|-;exact J))
 have b5:=MU ((l.take k).map (coreS H li));have Y:z ((l.take k).map (coreS H li))=k:=by rw[j7,D3];omega
 rw[Y]at b5;refine bV (a:=1) (v:=dL (B+40) (nxC (apC 152 (g1 (B+40)) 0) (g1 (B+40))) 6 0 (k+1)) (x:=nxC (apC 152 (g1 (B+40)) 0) (g1 (B+40))) (y:=S (csC ((l.take k).map (coreS H li)++[coreS H li (.mk kind name r I el)]))) y8 (λV ga oa K' J=>?_) ?_
 .have e1:List.take (k*6) (csC ((l.take k).map (coreS H li)))++(csD (coreS H li (.mk kind name r I el))).map .d=csC ((l.take k).map (coreS H li)++[coreS H li (.mk kind name r I el)]):=by
   rw[s7 a7,MV,MW]
  rw[c]at e1;simp only[csD,po,pq,s6,x7]at e1;rw[c]at J;simp only[go_sem,ba,b,b5]at J|-;exact Xp
 exact r8
end
end
end
section
open Go Go.Am Go.Asm
open Go.Src (Ex Stm szE bw szS aN Pl ki ct gV gA gF au lP)
attribute[local congr]ite_cc
def dropq{A:Type}{l:List A}{k:Nat}{x:A}(h:l[k]?=S x):l.drop k=x::l.drop (k+1):=by
 have a:=(l6.1 h).1;rw[C3 a,(l6.1 h).2]
def Gu{g:Nat->Nat}{ob:Obs}{p:Src.Prog}(az:szP p<=1000000)(an:∀a∈p.a,0<=a.2/\a.2<=4096):
  dj Tryz.prog 44 [cl p] g ob (λr g' Y=>r=.tup [.one (.mp 1012 (g' 1012) 208),ae (au p).2]/\(0<=(au p).2/\(au p).2<=1000000+4096*1000000)/\(∃M,Y 1012=S M/\rO M (au p).1)/\∀i,i<1000\/1100<=i->g' i=g i/\Y i=ob i) (λ_ _ _=>False):=by
 refine hdX 1000 Tryz.func44 rfl [.tmp 2,.tmp 3] λO bn s0 w0=>?_;obtain⟨vs,b,fs⟩:=p;unfold szP at az;simp only at az an;obtain⟨d,h⟩:∃L,au ⟨vs,b,fs⟩=L:=⟨_,rfl⟩
 obtain⟨L,y⟩:∃L,au ⟨vs,b,fs⟩=L:=⟨_,rfl⟩
 rw[y];unfold au at y;simp only at y;unfold cl jt;simp only[go_sem,j7]
 refine aG (λm K=>∃(k:Nat)(V:Pl)(w:Int),m+k=z vs/\gV (vs.drop k) V w=gV vs [] 0/\0<=w/\w<=k/\K.f 1=aj 1001 (K.gen 1001) 0/\K.f 4=.one (.mp 1012 (K.gen 1012) 208)/\K.f 5=ae w/\K.obj 1001=S (jJ ⟨vs,b,fs⟩)/\(∃M,K.obj 1012=S M/\rO M V)/\K.f 14=.one (aq (vs.map λs=>[.str s]))/\K.f 15=ae (z vs)/\K.f 16=ae k/\
   ∀i,i<1000\/1100<=i->K.gen i=g i/\K.obj i=ob i) (z vs) ?_ ?_
 .refine⟨0,[],0,rfl,by rw[D7],a7,a7,?_⟩
  simp only[go_sem];exact⟨rfl,⟨[],rfl,λs=>rfl⟩,λi G=>⟨nu,nu⟩⟩
 rintro m f g1 av ⟨k,V,w,hk,l,ad,b4,t,j,o,o1,⟨M,oM,u⟩,E,n,A,fr⟩;simp only at t j o o1 oM E n A fr;have J:=ah (k:=k) a7;by_cases U:k<z vs
 .have Q:(k:Int)<(z vs:Int):=a7
  have W:(0:Int)<=(k:Int):=a7;have bo:IntKind.i64.wrap (w+1)=w+1:=by rw[wrap_i64]<;>omega
  obtain⟨v,H⟩:=getq U;rw[dropq H,gV]at l;have e:=u.put v (w,0);unfold plD at e;simp only[go_sem,j,o,E,n,A,Q,W,H,oM,bo,J];refine ao (m-1) a7 ⟨k+1,_,_,a7,l,a7,a7,?_⟩;simp only[go_sem,t,j,E,n,o1];exact⟨⟨_,rfl,e⟩,λi G=>⟨(fr i G).1,nt ((fr i G).2)⟩⟩
 have Q:¬(k:Int)<(z vs:Int):=a7;obtain rfl:k=z vs:=a7;rw[G3,gV]at l;rw[<-l]at y;simp only at y;have B:=o1;unfold jJ jt at o1;simp only[s6,x7]at o1;simp only[go_sem,t,o1,n,A,Q,j7]
 refine aG (λm K=>∃(k:Nat)(Z:Pl)(I:Int),m+k=z b/\gA (b.drop k) Z I=gA b V w/\0<=I/\I<=1000000+4096*k/\K.f 1=aj 1001 (K.gen 1001) 0/\K.f 4=.one (.mp 1012 (K.gen 1012) 208)/\K.f 5=ae I/\K.obj 1001=S (jJ ⟨vs,b,fs⟩)/\(∃M,K.obj 1012=S M/\rO M Z)/\K.f 28=.one (aq (b.map arD))/\K.f 29=ae (z b)/\K.f 30=ae k/\
   ∀i,i<1000\/1100<=i->K.gen i=g i/\K.obj i=ob i) (z b) ?_ ?_
 .refine⟨0,V,w,rfl,by rw[D7],ad,a7,?_⟩
  simp only[go_sem,t,j,o,o1];exact⟨rfl,⟨M,oM,u⟩,fr⟩
 clear t j o o1 B oM E n A fr u M J U Q hk ad b4 l;rintro m f g1 av ⟨k,Z,I,hk,l,ad,b4,t,j,o,o1,⟨M,oM,u⟩,E,n,A,fr⟩;simp only at t j o o1 oM E n A fr;have J:=ah (k:=k) a7;by_cases U:k<z b
 .have Q:(k:Int)<(z b:Int):=a7
  have W:(0:Int)<=(k:Int):=a7;obtain⟨⟨v,X⟩,H⟩:=getq U;have hz:=an _ (l7 H);simp only at hz;have bo:IntKind.i64.wrap (I+X)=I+X:=by rw[wrap_i64]<;>omega
  rw[dropq H,gA]at l;simp only at l;have e:=u.put v (I,X);unfold plD at e;simp only[go_sem,j,o,E,n,A,Q,W,H,arD,oM,bo,J];refine ao (m-1) a7 ⟨k+1,_,_,a7,l,a7,a7,?_⟩;simp only[go_sem,t,j,E,n,o1];exact⟨⟨_,rfl,e⟩,λi G=>⟨nt ((fr i G).1),nt ((fr i G).2)⟩⟩
 have Q:¬(k:Int)<(z b:Int):=a7;obtain rfl:k=z b:=a7;rw[G3,gA]at l;rw[<-l]at y;simp only at y;have B:=o1;unfold jJ jt at o1;simp only[s6,x7]at o1;simp only[go_sem,t,o1,n,A,Q,j7]
 refine aG (λm K=>∃(k:Nat)(c:Pl),m+k=z fs/\gF k (fs.drop k) c=gF 0 fs Z/\K.f 4=.one (.mp 1012 (K.gen 1012) 208)/\K.f 5=ae I/\(∃M,K.obj 1012=S M/\rO M c)/\K.f 47=.one (aq (fs.map fnD))/\K.f 48=ae (z fs)/\K.f 49=ae k/\
   ∀i,i<1000\/1100<=i->K.gen i=g i/\K.obj i=ob i) (z fs) ?_ ?_
 .refine⟨0,Z,rfl,by rw[D7],?_⟩
  simp only[go_sem,j,o];exact⟨⟨M,oM,u⟩,fr⟩
 clear t j o o1 B oM E n A fr u M J U Q hk l;rintro m f g1 av ⟨k,c,hk,l,j,o,⟨M,oM,u⟩,E,n,A,fr⟩;simp only at j o oM E n A fr;have J:=ah (k:=k) a7;by_cases U:k<z fs
 .have Q:(k:Int)<(z fs:Int):=a7
  have W:(0:Int)<=(k:Int):=a7;obtain⟨x,H⟩:=getq U;rw[dropq H,gF]at l;have e:=u.put x.name ((k:Int),0);unfold plD at e;simp only[go_sem,j,o,E,n,A,Q,W,H,fnD,oM,J];refine ao (m-1) a7 ⟨k+1,_,a7,l,?_⟩;simp only[go_sem,j,o,E,n];exact⟨⟨_,rfl,e⟩,λi G=>⟨nt ((fr i G).1),nt ((fr i G).2)⟩⟩
 have Q:¬(k:Int)<(z fs:Int):=a7;obtain rfl:k=z fs:=a7;rw[G3,gF]at l;rw[<-l]at y;subst y;simp only[go_sem,j,o,n,A,Q];refine⟨_,ai.refl _,?_⟩;simp only[go_sem];exact⟨rfl,⟨ad,a7⟩,⟨M,oM,u⟩,fr⟩
end
section
open Go Go.Am Go.Asm
open Go.Src (Ex Stm szE bw szS aN Pl ki ct gV gA gF au lP CFn Core mY dy ab jB bP aZ dP)
attribute[local congr]ite_cc
def cfD(x:CFn):List D:=[.int .i64 x.p,.int .i64 x.slots,.int .i64 x.first,.bool x.word,.sl (x.body.map csD)]
def qz(c:Core):AV:=.agg [ag c.words,aq (c.f.map cfD)]
def cfC(l:List CFn):List C:=l.flatMap λa=>(cfD a).map .d
def MZ(l:List CFn):z (cfC l)=z l*5:=by
 induction l with
 |nil=>rfl
 |cons a l b=>simp only[cfC,G8,j8,j7,cfD,l4,l5]at b|-;omega
def Na(l m:List CFn):cfC (l++m)=cfC l++cfC m:=by simp[cfC]
def Nb(e:CFn):cfC [e]=(cfD e).map .d:=by simp[cfC]
def Rm{o:cT}(ho:kN o)(p:Src.Prog)(az:szP p<=1000000):ck Tryz.prog 1 o 18 [cl p] (·=.tup [qz (jB p).1,ae ((jB p).2:Nat)]):=by
 refine hdG Tryz.func18 rfl [.cell 2 62,.tmp 3] λO bn s0 w0 g=>?_;have G:cl p=.agg [aq (p.v.map λs=>[.str s]),aq (p.a.map arD),aq (p.f.map fnD)]:=rfl;obtain⟨X,hz⟩:∃X,jB p=X:=⟨_,rfl⟩
 rw[hz];unfold jB at hz;have hS:=MQ ho p a7;rw[G]at hS|-;simp only[go_sem];refine cU rfl Ze ?_;rintro _ rfl;by_cases hs:aZ p=0
 case neg=>
  rw[l9 hs]at hz;subst hz;have bz:¬((aZ p:Nat):Int)=0:=a7;simp only[go_sem,bz];exact⟨_,⟨_,⟨_,_,rfl,vY [.int .i64 0,.nsl],_,_,rfl,kM _,rfl⟩,rfl⟩,rfl⟩
 rw[j9 (by simp[hs])]at hz
 have V:dP p=T:=by
  unfold aZ at hs;split at hs
  .cases hs
  .rename_i h;simpa using h
 have an:∀a∈p.a,0<=a.2/\a.2<=4096:=by
  unfold dP at V;simp only[s5,x9]at V;intro a ha;have:=V.2.1 a ha;exact u6
 simp only[go_sem,hs];refine cH aL rfl (by simp only[go_sem];rw[<-G];exact Gu az an) ?_ ?_
 .exact iB
 rintro r g1 av ⟨rfl,⟨ad,b4⟩,⟨M,oM,mM⟩,fr⟩;have e1:=fr 1 (.inl b9);have e2:=fr 2 (.inl b9);simp[upd]at e1 e2;have ar:∀j,1100<=j->av j=N:=λj hj=>by rw[(fr j (.inr a7)).2];(try simp only[upd]);(repeat rw[j9 (by omega)])
 clear fr;unfold ab at hz;obtain⟨om,cm⟩:∃x,(au p).1=x:=⟨_,rfl⟩
 obtain⟨cu,ch⟩:∃x,(au p).2=x:=⟨_,rfl⟩
 rw[cm,ch]at hz;rw[cm]at mM;rw[ch]at ad b4|-;obtain⟨b6,hF⟩:∃b6,dy om p.f cu=b6:=⟨_,rfl⟩
 rw[hF]at hz;unfold szP at az;simp only[go_sem,e1.1,e1.2,j7];refine mQ _ (eP (t:=7) (o:=7) (b:=95) (j:=1) (sz:=5) (off:=0) (cells:=[ag 0,.d .nsl]) XD XD rfl b9) (λm K=>∃(k:Nat)(w:Int)(B:List CFn),m+k=z p.f/\(B++(dy om (p.f.drop k) w).1,(dy om (p.f.drop k) w).2)=b6/\z B=k/\0<=w/\w<=5000000000+1000000*k/\K.f 2=aj 2 (K.gen 2) 0/\K.f 5=.one (.mp 1012 (K.gen 1012) 208)/\K.f 7=aj 7 (K.gen 7) 0/\K.f 28=.one (aq (p.f.map fnD))/\K.f 29=ae (z p.f)/\K.f 30=ae k/\K.f 6=ae w/\K.obj 2=S [ag 0,.d .nsl]/\K.obj 7=S [ag 0,.osl 95 (K.gen 95) 5 0 (z B)]/\K.obj 95=S (cfC B)/\(∃M,K.obj 1012=S M/\rO M om)/\(∀j,1100<=j->K.obj j=N)) (z p.f) ?_ ?_
 .refine⟨0,cu,[],rfl,by rw[D7];exact hF,rfl,ad,a7,?_⟩
  simp only[St.claimAt];simp only[go_sem,e2.1,e2.2];exact⟨rfl,⟨M,oM,mM⟩,λj hj=>nt (ar j hj)⟩
 clear e1 e2 ar oM mM M hF;rintro m f g1 av ⟨k,w,B,hk,b',cy,cz,c0,q2,q5,q7,al,I,L,q6,o2,o7,a1,⟨M,oM,mM⟩,ar⟩;simp only at q2 q5 q7 al I L q6 o2 o7 a1 oM ar;have E:=ah (k:=k) a7;by_cases af:k<z p.f
 .have Q:(k:Int)<(z p.f:Int):=a7
  have bf:(0:Int)<=(k:Int):=a7;obtain⟨x,he⟩:=getq af;have P:=kq (p:=p) (l7 he);unfold szP at P;have a6:fnD x=[.str x.name,.sl (x.p.map λs=>[.str s]),.sl (x.l.map λs=>[.str s]),.bool x.word,.sl (x.body.map smD)]:=rfl;have cb:IntKind.i64.wrap ((z x.p:Int)+(z x.l:Int))=((z x.p+z x.l:Nat):Int):=by rw[wrap_i64]<;>omega
  rw[dropq he,dy]at b';simp only at b';simp only[go_sem,q5,al,I,L,Q,bf,he,a6,j7,cb];refine aG (λm2 K=>∃(n:Nat)(pm:Pl),m2+n=z x.p/\lP w n (x.p.drop n) pm=lP w 0 x.p []/\K.f 45=.one (aq (x.p.map λs=>[.str s]))/\K.f 46=ae (z x.p)/\K.f 47=ae n/\K.f 9=aj 9 (K.gen 9) 0/\K.f 10=aj 10 (K.gen 10) 0/\K.f 11=ae ((z x.p+z x.l:Nat):Int)/\K.obj 9=S ((fnD x).map .d)/\K.obj 10=S [.mp 1012 (K.gen 1012) 208,.mp 35 (K.gen 35) 208]/\(∃M,K.obj 35=S M/\rO M pm)/\K.f 2=aj 2 (K.gen 2) 0/\K.f 5=.one (.mp 1012 (K.gen 1012) 208)/\K.f 7=aj 7 (K.gen 7) 0/\K.f 28=.one (aq (p.f.map fnD))/\K.f 29=ae (z p.f)/\K.f 30=ae k/\K.f 6=ae w/\K.obj 2=S [ag 0,.d .nsl]/\K.obj 7=S [ag 0,.osl 95 (K.gen 95) 5 0 (z B)]/\K.obj 95=S (cfC B)/\(∃M,K.obj 1012=S M/\rO M om)/\(∀j,1100<=j->K.obj j=N)) (z x.p) ?_ ?_
  .refine⟨0,[],rfl,by rw[D7],?_⟩
   simp only[go_sem,q2,q5,q7,al,I,L,q6,o2,o7,a1];exact⟨rfl,⟨[],rfl,λs=>rfl⟩,⟨M,oM,mM⟩,λj hj=>nt (ar j hj)⟩
  clear q2 q5 q7 al I L q6 o2 o7 a1 oM ar mM M;rintro m2 f g1 av ⟨n,pm,hn,cd,b1,W,Y,q9,A,q,o9,bl,⟨M2,b2,ca⟩,q2,q5,q7,al,I,L,q6,o2,o7,a1,⟨M,oM,mM⟩,ar⟩;simp only at b1 W Y q9 A q o9 bl b2 q2 q5 q7 al I L q6 o2 o7 a1 oM ar;have b8:=ah (k:=n) a7;by_cases bs:n<z x.p
  .have u:(n:Int)<(z x.p:Int):=a7
   have bk:(0:Int)<=(n:Int):=a7;obtain⟨v,cc⟩:=getq bs;have bo:IntKind.i64.wrap (w+(n:Int))=w+n:=by rw[wrap_i64]<;>omega
   rw[dropq cc,lP]at cd;have e:=ca.put v (w+n,0);unfold plD at e;simp only[go_sem,b1,W,Y,u,bk,cc,A,bl,b2,q6,bo,b8];refine ao (m2-1) a7 ⟨n+1,_,a7,cd,?_⟩;simp only[go_sem,q2,q5,q7,al,I,L,q6,o2,o7,a1,b1,W,q9,A,q,o9,bl];exact⟨⟨_,rfl,e⟩,⟨M,oM,mM⟩,λj hj=>nt (ar j hj)⟩
  have u:¬(n:Int)<(z x.p:Int):=a7;obtain rfl:n=z x.p:=a7;rw[G3,lP]at cd;have cf:=o9;rw[a6]at cf;simp only[s6,x7]at cf;simp only[go_sem,q9,cf,W,Y,u,j7];refine aG (λm2 K=>∃(n:Nat)(bd:Pl),m2+n=z x.l/\lP (w+z x.p) n (x.l.drop n) bd=lP (w+z x.p) 0 x.l pm/\K.f 61=.one (aq (x.l.map λs=>[.str s]))/\K.f 62=ae (z x.l)/\K.f 63=ae n/\K.f 9=aj 9 (K.gen 9) 0/\K.f 10=aj 10 (K.gen 10) 0/\K.f 11=ae ((z x.p+z x.l:Nat):Int)/\K.obj 9=S ((fnD x).map .d)/\K.obj 10=S [.mp 1012 (K.gen 1012) 208,.mp 35 (K.gen 35) 208]/\(∃M,K.obj 35=S M/\rO M bd)/\K.f 2=aj 2 (K.gen 2) 0/\K.f 5=.one (.mp 1012 (K.gen 1012) 208)/\K.f 7=aj 7 (K.gen 7) 0/\K.f 28=.one (aq (p.f.map fnD))/\K.f 29=ae (z p.f)/\K.f 30=ae k/\K.f 6=ae w/\K.obj 2=S [ag 0,.d .nsl]/\K.obj 7=S [ag 0,.osl 95 (K.gen 95) 5 0 (z B)]/\K.obj 95=S (cfC B)/\(∃M,K.obj 1012=S M/\rO M om)/\(∀j,1100<=j->K.obj j=N)) (z x.l) ?_ ?_
  .refine⟨0,pm,rfl,by rw[D7],?_⟩
   simp only[go_sem,q2,q5,q7,al,I,L,q6,o2,o7,a1,q9,A,q,o9,bl];exact⟨⟨M2,b2,ca⟩,⟨M,oM,mM⟩,ar⟩
  clear q2 q5 q7 al I L q6 o2 o7 a1 oM ar mM M b1 W Y q9 A q o9 cf bl b2 ca M2 b8 bs u hn;rintro m2 f g1 av ⟨n,bd,hn,b7,b1,W,Y,q9,A,q,o9,bl,⟨M2,b2,ca⟩,q2,q5,q7,al,I,L,q6,o2,o7,a1,⟨M,oM,mM⟩,ar⟩;simp only at b1 W Y q9 A q o9 bl b2 q2 q5 q7 al I L q6 o2 o7 a1 oM ar;have b8:=ah (k:=n) a7;rw[a6]at o9;simp only[s6,x7]at o9;by_cases bs:n<z x.l
  .have u:(n:Int)<(z x.l:Int):=a7
   have bk:(0:Int)<=(n:Int):=a7;obtain⟨v,cc⟩:=getq bs;have cv:IntKind.i64.wrap (w+(z x.p:Int))=w+z x.p:=by rw[wrap_i64]<;>omega
   have bo:IntKind.i64.wrap (w+(z x.p:Int)+(n:Int))=w+z x.p+n:=by rw[wrap_i64]<;>omega
   rw[dropq cc,lP]at b7;have e:=ca.put v (w+z x.p+n,0);unfold plD at e;simp only[go_sem,b1,W,Y,u,bk,cc,q9,o9,j7,A,bl,b2,q6,cv,bo,b8];refine ao (m2-1) a7 ⟨n+1,_,a7,b7,?_⟩;simp only[go_sem,q2,q5,q7,al,I,L,q6,o2,o7,a1,b1,W,q9,A,q,o9,bl,a6,s6,x7];exact⟨⟨_,rfl,e⟩,⟨M,oM,mM⟩,λj hj=>nt (ar j hj)⟩
  have u:¬(n:Int)<(z x.l:Int):=a7;obtain rfl:n=z x.l:=a7;rw[G3,lP]at b7;rw[cd]at b7;have b0:=MY (H:=om) (li:=bd) (io:=1012) (ii:=35) (go:=g1 1012) (gi:=g1 35) (aN x.body) x.body (l8 _) a7;simp only[go_sem,W,Y,u];refine cB aO mixed aL [94,95,7] [([7],[0],[],F),([80],[0],[],F),([9],[],[],F),([82],[],[],F),([83],[],[],F),([11],[],[],F),([6],[],[],F),([9],[],[],F),([87],[],[],F),([10],[],[],F),([9],[],[],F),([90],[],[],F),([89,91],[],[],F),([84,85,86,88,92],[],[],F),([93],[],[0],F),([81,94],[],[1],F),([7],[],[],F),([96,95],[],[],T)] 3 rfl c9 rfl b9 ?_;simp only[go_sem]
  iterate 12 (apply aw;(case hg=>first|exact y8|exact⟨_,rfl,by decide,rfl⟩);(case U=>intro fa ga oa K' J;simp only[go_sem,q7,o7,q9,o9,q,q6,A,bl,j7]at J|-;exact J))
  apply aw (v:=te (bP om bd x.body))
  case hg=>exact y8
  case U=>
   intro fa ga oa K' J;simp only[go_sem,te]at J|-;refine qT aL rfl b0 Y1 1100 b9 b9 (λi hi=>nt (ar i a7)) ⟨⟨M,oM,mM⟩,⟨M2,b2,ca⟩,rfl,rfl⟩ ?_;unfold te;exact lv
  (apply aw;(case hg=>first|exact y8|exact⟨_,rfl,by decide,rfl⟩);(case U=>intro fa ga oa K' J;simp only[go_sem,te]at J|-;exact J))
  (apply bV;(case hg=>first|exact y8|exact⟨_,rfl,by decide,rfl⟩);(case U=>intro fa ga oa K' J;simp only[go_sem,ba]at J|-;exact J))
  have b5:=MZ B
  have cx:mY om x w=⟨z x.p,((z x.p+z x.l:Nat):Int),w,x.word,bP om bd x.body⟩:=by
   unfold mY;rw[<-b7];rfl
  refine bV (a:=1) (v:=dL 95 (nxC (apC 107 (g1 95) 0) (g1 95)) 5 0 (z B+1)) (x:=nxC (apC 107 (g1 95) 0) (g1 95)) (y:=S (cfC (B++[mY om x w]))) y8 (λfa ga oa K' J=>?_) ?_
  .have e1:List.take (z B*5) (cfC B)++(cfD (mY om x w)).map .d=cfC (B++[mY om x w]):=by
    rw[s7 a7,Na,Nb]
   rw[cx]at e1 J;simp only[cfD,s6,x7]at e1;simp only[go_sem,ba,a1,b5]at J|-;exact Xp
  (apply aw;(case hg=>first|exact y8|exact⟨_,rfl,by decide,rfl⟩);(case U=>intro fa ga oa K' J;simp only[go_sem,q7,o7]at J|-;exact J))
  refine cC y8 ?_;intro K' a';simp only[go_sem,q7,o7];refine a' _ ?_;clear a' K';have b3:IntKind.i64.wrap (w+((z x.p+z x.l:Nat):Int))=w+((z x.p:Int)+(z x.l:Int)):=by rw[wrap_i64]<;>omega
  simp only[go_sem,q6,q,L,b3,E];refine ao (m-1) a7 ⟨k+1,w+((z x.p:Int)+(z x.l:Int)),B++[mY om x w],a7,by rw[<-b',v7];rfl,by rw[j8];simp;omega,a7,a7,?_⟩;simp only[go_sem,q2,q5,q7,al,I,o2,j8,l4,l5];exact⟨⟨M,oM,mM⟩,λj hj=>nt (ar j hj)⟩
 have Q:¬(k:Int)<(z p.f:Int):=a7;obtain rfl:k=z p.f:=a7;rw[G3,dy]at b';simp only[s9]at b';subst b';simp only at hz;by_cases hw:32768<w
 .rw[l9 hw]at hz
  subst hz;simp only[go_sem,I,L,Q,q6,hw,q2,o2];exact⟨_,⟨_,⟨_,_,rfl,vY [.int .i64 0,.nsl],_,_,rfl,kM _,rfl⟩,rfl⟩,rfl⟩
 rw[j9 hw]at hz;subst hz;simp only[go_sem,I,L,Q,q6,hw,q2,o2,q7,o7];refine⟨_,⟨_,⟨_,_,rfl,⟨[.int .i64 w,.sl (B.map cfD)],rfl,λi c Z=>?_,rfl⟩,_,_,rfl,kM _,rfl⟩,rfl⟩,rfl⟩
 match i,Z with
 |0,Z=>cases Z;exact⟨_,rfl,.d _⟩
 |1,Z=>
   cases Z;refine⟨_,rfl,eu (s:=⟨_,_,_⟩) rfl B cfD ?_ rfl (λa _ y hy=>?_) (λ_ _=>rfl) rfl⟩
   .simp[upd]
    exact a1
   .simp only[cfD,A0,B3,F2]at hy
    rcases hy with rfl|rfl|rfl|rfl|rfl<;>rfl
end
end Go.Proofs.YtlacbjnmkhndiaaGreatDoor
namespace Go.Lower
section
section
variable{w:Int}{ps:Sig}{f:Nat}{word:Bool}{E:Nat->Option Int}
variable{at':Nat}{a b n d:Int}
def iI{x:Ins}{d:Int}(t p:Int)(U:takes ps word x=S (t,p))(g:0<=t)(i:t<=d)(c:x.op≠8/\x.op≠9/\x.op≠11)(j:E (at'+1)=S (d-t+p)):OkI ps word E at' x d:=by
 refine⟨t,p,U,g,i,λh=>absurd h c.2.2,λk e=>?_⟩;simp only[next,c.1,c.2.1,c.2.2,B1,E3]at e;exact⟨at'+1,e,j⟩
def wE(k:Nat)(e:a=(k:Int))(hd:0<=d)(h:E k=S d):OkI ps word E at' ⟨8,a,b,n⟩ d:=by
 refine⟨0,0,rfl,C7 _,hd,λh=>absurd h a8,λg c=>?_⟩;simp only[next,B5,E3]at c;exact⟨k,by rw[c,e],by rw[h];simp⟩
def si(k:Nat)(e:a=(k:Int))(hd:0<=d)(h:E k=S d)(U:E (at'+1)=S d):OkI ps word E at' ⟨9,a,b,n⟩ (d+1):=by
 refine⟨1,0,rfl,b9,a7,λh=>absurd h a8,λg c=>?_⟩;simp only[next,show ¬((9:Int)=8) by decide,B1,B5,A0,B3,F2]at c;rcases c with rfl|rfl
 .exact⟨at'+1,rfl,by rw[U];simp⟩
 .exact⟨k,e,by rw[h];simp⟩
def Oo{q kind op num slot size d:Int}{n:Nat}(h:okE w ps f q kind op num slot size n)(c:¬(kind=8\/kind=9)):z (one kind op num slot size d)=1:=by
 obtain⟨_,_,_,_,_,h⟩:=h;rcases h with⟨h|h,_⟩|⟨h,_⟩|⟨h,_⟩|⟨h,_⟩|⟨h,_⟩|⟨h,_⟩|⟨h,_⟩
 any_goals (subst h;rfl)
 exact absurd h c
def KA{q kind op num slot size d:Int}{n at':Nat}(h:okE w ps f q kind op num slot size n)(c:¬(kind=8\/kind=9))(hd:0<=d)(hT:E (at'+1)=S (d+1)):
  (z (one kind op num slot size (d+n)))=1/\Good ps word E at' (one kind op num slot size (d+n))/\(Seg E at' (one kind op num slot size (d+n))->E at'=S (d+n)):=by
 obtain⟨_,_,_,_,_,h⟩:=h;rcases h with⟨h|h,hn⟩|⟨h,_,hn⟩|⟨h,_,_,_,hn⟩|⟨h,k,e,a,g⟩|⟨h,_,_,hn⟩|⟨h,hn⟩|⟨h,_⟩
 .exact zv
 .exact zv
 .exact zv
 .exact W3
 .subst h e
  refine⟨rfl,⟨iI n 1 ?_ a7 a7 a8 (by rw[hT];congr 1;omega),trivial⟩,λh=>h.1⟩;have:¬((k:Nat):Int)<0:=a7;simp[takes,g,this]
 .subst h hn
  exact⟨rfl,⟨iI 2 1 rfl b9 a7 a8 (by rw[hT];congr 1;omega),trivial⟩,λh=>h.1⟩
 .exact W3
 .exact absurd h c
def DG{kind d:Int}{c0:Code}{g:Nat->Code}(hd:0<=d)
 (q:Seg E at' c0->E (at'+z c0)=S (d+1)->E at'=S d/\Good ps word E at' c0)
 (U:∀r,Seg E r (g r)->E (r+z (g r))=S (d+1)->E r=S d/\Good ps word E r (g r))
 (i:Seg E at' (kG at' d kind c0 g))(hT:E (at'+z (kG at' d kind c0 g))=S (d+1)):E at'=S d/\Good ps word E at' (kG at' d kind c0 g):=by
 unfold kG at i hT|-;simp only at i hT|-;rw[iX,iX]at i;obtain⟨s,a,i⟩:=i;simp only[Seg]at i;obtain⟨c,b,e,i⟩:=i;rw[iX]at i;obtain⟨k,l,m,_⟩:=i
 have o:z (iT kind d)=0/\iT kind d=[]\/z (iT kind d)=1/\iT kind d=[(⟨7,0,0,0⟩,d+1)]:=by
  unfold iT;split
  .exact .inr ⟨rfl,rfl⟩
  .exact .inl ⟨rfl,rfl⟩
 generalize V:at'+z c0+z (iT kind d)=r at *;have p:r+1+1+1=r+3:=a7;rw[p]at k l m;obtain⟨L,t⟩:=U (r+3) k l
 have h:E (r+3+z (g (r+3))+2)=S (d+1):=by
  rw[<-hT];congr 1;simp only[j8,l4,l5];omega
 have J:E (at'+z c0)=S (d+1):=by
  rcases o with⟨hl,_⟩|⟨hl,j⟩
  .rw[<-c];congr 1;omega
  .rw[j]at a;exact a.1
 obtain⟨u,v⟩:=q s J;refine⟨u,?_⟩;rw[gq,gq];refine⟨v,?_,?_⟩
 .rcases o with⟨_,j⟩|⟨hl,j⟩
  .rw[j];trivial
  .rw[j]
   exact⟨iI 1 1 rfl b9 a7 a8 (by rw[show at'+z c0+1=r by omega,c];congr 1;omega),trivial⟩
 .rw[V]
  refine⟨si (r+3) rfl hd L b,iI 0 1 rfl b9 hd a8 (by rw[e];congr 1;omega),wE (r+3+z (g (r+3))+2) rfl a7 h,?_⟩;rw[p,gq];exact⟨t,iI 1 1 rfl b9 a7 a8 (by rw[m];congr 1;omega),iI 1 1 rfl b9 a7 a8 (by rw[show r+3+z (g (r+3))+1+1=r+3+z (g (r+3))+2 by omega,h];congr 1;omega),trivial⟩
mutual
theorem zA:∀(e:Ex){q d:Int}{at':Nat},rE w ps f q e->0<=d->Seg E at' (cE at' d e)->E (at'+z (cE at' d e))=S (d+1)->E at'=S d/\Good ps word E at' (cE at' d e)
 |.mk kind op num slot size kids,q,d,at',h,hd,c,hT=>by
   rw[rE]at h;rw[cE]at c hT|-;by_cases g:kind=8\/kind=9
   .rw[l9 g]at c hT|-
    have i:z kids=2:=by
     obtain⟨⟨_,_,_,_,_,h⟩,_⟩:=h;omega
    exact KB kids i h.2 hd c hT
   .rw[j9 g]at c hT|-
    rw[iX]at c;obtain⟨hl,j,P⟩:=KA (E:=E) (word:=word) (at':=at'+z (cEs at' d kids)) h.1 g hd (by rw[<-hT,j8,Oo h.1 g,C2]);have:=wF kids h.2 hd c.1 (P c.2);exact⟨this.1,gq.2 ⟨this.2,j⟩⟩
theorem wF:∀(l:List Ex){q d:Int}{at':Nat},rEs w ps f q l->0<=d->Seg E at' (cEs at' d l)->E (at'+z (cEs at' d l))=S (d+z l)->E at'=S d/\Good ps word E at' (cEs at' d l)
 |[],q,d,at',h,hd,g,c=>by
   rw[cEs]at c|-;exact⟨by simpa using c,trivial⟩
 |e::l,q,d,at',h,hd,g,c=>by
   rw[rEs]at h;rw[cEs]at g c|-;rw[iX]at g;obtain⟨i,j⟩:=wF l h.2 a7 g.2 (by rw[j8,<-C2]at c;rw[c];congr 1;simp only[l4];omega);obtain⟨t0,k⟩:=zA e h.1 hd g.1 i;exact⟨t0,gq.2 ⟨k,j⟩⟩
theorem KB:∀(l:List Ex){q d kind:Int}{at':Nat},z l=2->rEs w ps f q l->0<=d->Seg E at' (cAO at' d kind l)->E (at'+z (cAO at' d kind l))=S (d+1)->E at'=S d/\Good ps word E at' (cAO at' d kind l)
 |[],q,d,kind,at',c,h,hd,g,i=>by cases c
 |e::l,q,d,kind,at',c,h,hd,g,i=>by
   rw[rEs]at h;rw[cAO]at g i|-;exact DG hd (λs t=>zA e h.1 hd s t) (λr s t=>yi l (by simpa using c) h.2 hd s t) g i
theorem yi:∀(l:List Ex){q d:Int}{at':Nat},z l=1->rEs w ps f q l->0<=d->Seg E at' (kh at' d l)->E (at'+z (kh at' d l))=S (d+1)->E at'=S d/\Good ps word E at' (kh at' d l)
 |[],q,d,at',i,h,hd,c,g=>by cases i
 |e::l,q,d,at',i,h,hd,c,g=>by
   rw[rEs]at h;rw[kh]at c g|-;exact zA e h.1 hd c g
end
end
section
variable{w:Int}{ps:Sig}{f:Nat}{word:Bool}{E:Nat->Option Int}
def leave(word:Bool):Code:=if word then [(⟨1,0,0,0⟩,0),(⟨11,0,0,0⟩,1)]else [(⟨11,0,0,0⟩,0)]
def iJ(at':Nat)(c0:Code)(a:Nat->Code):Code:=
 c0++(⟨9,(at'+z c0+1+(a (at'+z c0+1)).length+1:Nat),0,0⟩,1)::(a (at'+z c0+1)++[(⟨8,(at':Int),0,0⟩,0)])
def ifC(at':Nat)(b:Nat->Code)(a:Bool)(c:Nat->Code):Code:=
 if a then
  let r:=at'+1+z (b (at'+1))+1
  (⟨9,(r:Int),0,0⟩,1)::(b (at'+1)++(⟨8,(r+z (c r):Nat),0,0⟩,0)::c r)
 else(⟨9,(at'+1+z (b (at'+1)):Nat),0,0⟩,1)::b (at'+1)
def ri(word:Bool)(kind slot size:Int)(n:Nat):Code:=
 if kind=1 then [(⟨3,slot,0,0⟩,n)]else if kind=2 then [(⟨5,slot,size,0⟩,n)]else if kind=3 then [(⟨13,0,0,0⟩,n)]
 else if kind=6 then [(⟨10,slot,0,0⟩,n)]else if kind=7 then(if n=0 then leave word else [(⟨11,0,0,0⟩,n)])else []
mutual
def cS(word:Bool)(at':Nat):Stm->Code
 |.mk kind slot size e a el=>
   if kind=5 then iJ at' (kh at' 0 e) (λr=>cSs word r a)
   else cEs at' 0 e++(if kind=4 then ifC (at'+z (cEs at' 0 e)) (λr=>cSs word r a) (!el.isEmpty) (λr=>cSs word r el)else ri word kind slot size (z e))
def cSs(word:Bool)(at':Nat):List Stm->Code
 |[]=>[]
 |e::l=>cS word at' e++cSs word (at'+z (cS word at' e)) l
end
variable{at':Nat}
def wG(b:Seg E at' (leave word)):E at'=S 0/\Good ps word E at' (leave word):=by
 cases word with
 |true=>
   obtain⟨U,c,_⟩:=b;exact⟨U,iI 0 1 rfl b9 b9 a8 c,⟨1,0,rfl,b9,b9,λ_=>rfl,λk a=>by simp[next]at a⟩,trivial⟩
 |false=>
   obtain⟨U,_⟩:=b;exact⟨U,⟨0,0,rfl,b9,b9,λ_=>rfl,λk a=>by simp[next]at a⟩,trivial⟩
def GY{q kind slot size:Int}{n nt ne at':Nat}(h:okS w ps f word q kind slot size n nt ne)(d:kind≠4)(e:kind≠5)(c:Seg E at' (ri word kind slot size n))(hT:E (at'+z (ri word kind slot size n))=S 0):
  E at'=S (n:Int)/\Good ps word E at' (ri word kind slot size n):=by
 obtain⟨_,_,_,_,_,h⟩:=h;rcases h with⟨h,_,b⟩|⟨h,_,_,_,b⟩|⟨h,b⟩|⟨h,k,g,a,i⟩|⟨h,b⟩
 .subst h b
  exact⟨c.1,iI 1 0 rfl b9 b9 a8 hT,trivial⟩
 .subst h b
  exact⟨c.1,iI 2 0 rfl b9 b9 a8 hT,trivial⟩
 .subst b
  rcases h with h|h|h
  .subst h
   exact⟨c.1,iI 1 0 rfl b9 b9 a8 hT,trivial⟩
  .exact absurd h d
  .exact absurd h e
 .subst h g
  refine⟨c.1,iI n 0 ?_ a7 a7 a8 (by rw[show at'+1=at'+z (ri word 6 (k:Int) size n)from rfl,hT];congr 1;omega),trivial⟩;have:¬((k:Nat):Int)<0:=a7;simp[takes,i,this]
 .subst h
  rcases b with b|⟨j,b⟩
  .subst b
   exact wG c
  .subst j b
   exact⟨c.1,⟨1,0,rfl,b9,b9,λ_=>rfl,λk l=>by simp[next]at l⟩,trivial⟩
def BF{c0:Code}{a:Nat->Code}
 (g:Seg E at' c0->E (at'+z c0)=S 1->E at'=S 0/\Good ps word E at' c0)
 (U:∀r,Seg E r (a r)->E (r+z (a r))=S 0->E r=S 0/\Good ps word E r (a r))
 (b:Seg E at' (iJ at' c0 a))(hT:E (at'+z (iJ at' c0 a))=S 0):E at'=S 0/\Good ps word E at' (iJ at' c0 a):=by
 unfold iJ at b hT|-;rw[iX]at b;obtain⟨i,c,b⟩:=b;rw[iX]at b;obtain⟨j,e,_⟩:=b;obtain⟨d,k⟩:=g i c;obtain⟨V,l⟩:=U _ j e;refine⟨d,gq.2 ⟨k,si _ rfl b9 ?_ V,gq.2 ⟨l,wE at' rfl b9 d,trivial⟩⟩⟩;rw[<-hT];congr 1;simp only[j8,l4,l5];omega
def KC{a:Bool}{d i:Nat->Code}
 (U:∀r,Seg E r (d r)->E (r+z (d r))=S 0->E r=S 0/\Good ps word E r (d r))
 (l:∀r,Seg E r (i r)->E (r+z (i r))=S 0->E r=S 0/\Good ps word E r (i r))
 (g:Seg E at' (ifC at' d a i))(hT:E (at'+z (ifC at' d a i))=S 0):E at'=S 1/\Good ps word E at' (ifC at' d a i):=by
 unfold ifC at g hT|-;cases a with
 |false=>
   simp only[E0,B1]at g hT|-;obtain⟨c,j⟩:=g;have b:E (at'+1+z (d (at'+1)))=S 0:=by rw[<-hT];congr 1;simp only[l4];omega
   obtain⟨V,k⟩:=U _ j b;exact⟨c,si _ rfl b9 b V,k⟩
 |true=>
   simp only[B5]at g hT|-;obtain⟨c,g⟩:=g;rw[iX]at g;obtain⟨j,e,m⟩:=g;generalize V:at'+1+z (d (at'+1))+1=r at *;have b:E (r+z (i r))=S 0:=by rw[<-hT];congr 1;simp only[l4,j8];omega
   obtain⟨n,k⟩:=U _ j e;obtain⟨Q,o⟩:=l _ m b;refine⟨c,si _ rfl b9 Q n,gq.2 ⟨k,wE _ rfl b9 b,?_⟩⟩;rw[V];exact o
mutual
theorem Oq:∀(s:Stm){q:Int}{at':Nat},rS w ps f word q s->Seg E at' (cS word at' s)->E (at'+z (cS word at' s))=S 0->E at'=S 0/\Good ps word E at' (cS word at' s)
 |.mk kind slot size e d el,q,at',h,a,hT=>by
   rw[rS]at h;obtain⟨g,l,G,a6⟩:=h;rw[cS]at a hT|-;by_cases i:kind=5
   .rw[l9 i]at a hT|-
    have j:z e=1:=by
     obtain⟨_,_,_,_,_,h⟩:=g;omega
    exact BF (λs t=>yi e j l b9 s t) (λr s t=>pK d G s t) a hT
   .rw[j9 i]at a hT|-
    rw[iX]at a;obtain⟨m,c⟩:=a;rw[j8,<-C2]at hT
    have b:E (at'+z (cEs at' 0 e))=S (z e:Int)/\Good ps word E (at'+z (cEs at' 0 e)) (if kind=4 then ifC (at'+z (cEs at' 0 e)) (λr=>cSs word r d) (!el.isEmpty) (λr=>cSs word r el)else ri word kind slot size (z e)):=by
     by_cases k:kind=4
     .rw[l9 k]at c hT|-
      have j:z e=1:=by
       obtain⟨_,_,_,_,_,h⟩:=g;omega
      rw[j];exact KC (λr s t=>pK d G s t) (λr s t=>pK el a6 s t) c hT
     .rw[j9 k]at c hT|-
      exact GY g k i c hT
    obtain⟨t0,n⟩:=wF e l (C7 0) m (by rw[b.1];congr 1;omega);exact⟨t0,gq.2 ⟨n,b.2⟩⟩
theorem pK:∀(l:List Stm){q:Int}{at':Nat},rSs w ps f word q l->Seg E at' (cSs word at' l)->E (at'+z (cSs word at' l))=S 0->E at'=S 0/\Good ps word E at' (cSs word at' l)
 |[],q,at',h,b,a=>by
   rw[cSs]at a|-;exact⟨by simpa using a,trivial⟩
 |e::l,q,at',h,b,a=>by
   rw[rSs]at h;rw[cSs]at b a|-;rw[iX]at b;rw[j8,<-C2]at a;obtain⟨c,d⟩:=pK l h.2 b.2 a;obtain⟨t0,g⟩:=Oq e h.1 b.1 c;exact⟨t0,gq.2 ⟨g,d⟩⟩
end
def codeOf(word:Bool)(body:List Stm):Code:=cSs word 0 body++leave word
def BG:∀(c pre:Code),Seg (λk=>((pre++c)[k]?).map Prod.snd) (z pre) c
 |[],_=>trivial
 |(x,d)::c,pre=>by
   refine⟨a8,?_⟩;have:=BG c (pre++[(x,d)]);exact Vt
def BH{body:List Stm}(h:rSs w ps f word 1 body):
  let E:=λk=>((codeOf word body)[k]?).map Prod.snd
  E 0=S 0/\Good ps word E 0 (codeOf word body):=by
 intro E;have a:Seg E 0 (codeOf word body):=BG (codeOf word body) [];unfold codeOf at a|-;rw[iX]at a;obtain⟨hl,gl⟩:=wG (ps:=ps) a.2;obtain⟨b,c⟩:=pK body h a.1 hl;exact⟨b,gq.2 ⟨c,gl⟩⟩
end
section
variable{w:Int}{ps:Sig}{f:Nat}{word:Bool}{E:Nat->Option Int}
def gu:∀{c:Code}{at' i:Nat}{x:Ins}{d:Int},Good ps word E at' c->c[i]?=S (x,d)->OkI ps word E (at'+i) x d
 |(y,e)::c,at',0,x,d,h,hi=>by cases hi;exact h.1
 |(y,e)::c,at',i+1,x,d,h,hi=>by
   have:=gu (i:=i) h.2 YV
   rwa [show at'+(i+1)=at'+1+i by omega]
def Ot{body:List Stm}(h:rSs w ps f word 1 body){i:Nat}{x:Ins}{d:Int}(j:(codeOf word body)[i]?=S (x,d))(e:x.op=8\/x.op=9):0<=x.a/\x.a<(z (codeOf word body):Int):=by
 obtain⟨t,p,_,_,_,_,l⟩:=gu (BH h).2 j;obtain⟨k,m,g⟩:=l x.a (by unfold next;rcases e with e|e<;>simp[e])
 have n:k<z (codeOf word body):=by
  rcases U3 k (z (codeOf word body))with h|h
  .exact h
  .simp only[F3 h,H8]at g;cases g
 omega
def Inv(E:Nat->Option Int)(n:Nat)(out:List Int)(c:List Nat):Prop:=
 (z out)=n/\(∀k v,out[k]?=S v->v = -1\/(E k=S v/\0<=v))/\∀a∈c,∃v,out[a]?=S v/\E a=S v/\0<=v
def left(out:List Int):Nat:=out.countP (· < 0)
def mr:∀{out:List Int}{k:Nat}{v x:Int},out[k]?=S v->v<0->0<=x->left (out.set k x)+1=left out
 |a::out,0,v,x,h,d,I=>by
   cases h;have:¬x<0:=a7;simp[left,d,this]
 |a::out,k+1,v,x,h,d,I=>by
   have:=mr (out:=out) (k:=k) YU d I;simp only[left,P4,U0]at *;omega
variable{out:List Int}{c:List Nat}{b v:Int}
def Inv.seen{n k:Nat}(h:Inv E n out c)(hT:E k=S b)(a:out[k]?=S v):v<0\/v=b:=by
 rcases h.2.1 k v a with h|⟨h,_⟩
 .exact .inl a7
 .rw[h]at hT;cases hT;exact .inr rfl
def Inv.find{n k:Nat}(h:Inv E n out c)(hT:E k=S b)(l:0<=b)(i:out[k]?=S v)(o:v<0):
  Inv E n (out.set k b) (c++[k])/\left (out.set k b)+z (c++[k])=left out+z c:=by
 have m:=(l6.1 i).1;refine⟨⟨by simp[h.1],λj u e=>?_,λa g=>?_⟩,?_⟩
 .rw[C0]at e
  by_cases t:k=j
  .subst t;rw[l9 rfl,l9 m]at e;cases e;exact .inr ⟨hT,l⟩
  .rw[j9 t]at e;exact h.2.1 j u e
 .rcases C1.1 g with g|g
  .obtain⟨u,L,p,q⟩:=h.2.2 a g
   by_cases d:k=a
   .subst d;rw[L]at i;cases i;omega
   .exact⟨u,by rw[C0,j9 d];exact L,p,q⟩
  .obtain rfl:a=k:=by simpa using g
   exact⟨b,by rw[C0,l9 rfl,l9 m],hT,l⟩
 .have:=mr i o l
  simp only[j8,l4,l5];omega
end
end
end Go.Lower
namespace Go.Proofs.YtlacbjnmkhndiaaGreatDoor.Low
section
open Go Go.Am Go.Lower
mutual
def mR:Ex->Nat
 |.mk _ _ _ _ _ kids=>ji kids
def ji:List Ex->Nat
 |[]=>0
 |e::l=>1+mR e+ji l
end
def nz:∀l:List Ex,ji l=z l+(l.map mR).sum
 |[]=>by simp[ji]
 |e::l=>by simp only[ji,nz l,l4,s6,D8];omega
def qU(l:List Ex)(k:Nat):Nat:=z l+((l.take k).map mR).sum
def Gw(l:List Ex)(k:Nat):qU l k<=ji l:=by
 rw[nz,qU]
 conv=>rhs;rw[<-H7 k l]
 simp only[A8,M4,j8,D3,G0];omega
def AT{l:List Ex}{k:Nat}{e:Ex}(h:l[k]?=S e):qU l (k+1)=qU l k+mR e:=by
 simp only[qU,D2,h,Ln,A8,M4,s6,x7,D8,SY];omega
mutual
def nT:Stm->Nat
 |.mk _ _ _ e a el=>ji e+fq a+fq el
def fq:List Stm->Nat
 |[]=>0
 |e::l=>1+nT e+fq l
end
def qV:∀l:List Stm,fq l=z l+(l.map nT).sum
 |[]=>by simp[fq]
 |e::l=>by simp only[fq,qV l,l4,s6,D8];omega
def Db(l:List Stm)(k:Nat):Nat:=z l+((l.take k).map nT).sum
def Ng(l:List Stm)(k:Nat):Db l k<=fq l:=by
 rw[qV,Db]
 conv=>rhs;rw[<-H7 k l]
 simp only[A8,M4,j8,D3,G0];omega
def Gx{l:List Stm}{k:Nat}{e:Stm}(h:l[k]?=S e):Db l (k+1)=Db l k+nT e:=by
 simp only[Db,D2,h,Ln,A8,M4,s6,x7,D8,SY];omega
def Jr(l:List Stm):z (qS l)=z l:=by rw[pq,j7]
end
section
open Go Go.Am Go.Lower
attribute[local congr]ite_cc
section
def zi(x:Ins):List C:=[ag x.op,ag x.a,ag x.b,.d (.int .u32 x.n)]
def fQ(l:List Ins):List C:=l.flatMap zi
def GC:fQ []=[]:=rfl
def qX(x:Ins)(l:List Ins):fQ (x::l)=zi x++fQ l:=rfl
def GD(a b:List Ins):fQ (a++b)=fQ a++fQ b:=by simp[fQ]
def jw:∀l:List Ins,z (fQ l)=z l*4
 |[]=>rfl
 |x::l=>by rw[qX,j8,jw l];simp only[zi,l4,l5];omega
def xZ:∀(pre:List Ins)(x:Ins)(post:List Ins)(n:Int),(fQ (pre++x::post)).set (z pre*4+1) (ag n)=fQ (pre ++ {x with a:=n}::post)
 |[],x,post,n=>rfl
 |y::pre,x,post,n=>by
   rw[C6,qX,C6,qX,<-xZ pre x post n];rw[J0 _ _ (by simp only[zi,l4,l5];omega)];congr 2;simp only[zi,l4,l5];omega
variable{word:Bool}{code:List Ins}{g0 g:Nat->Nat}{b ob:Obs}{s:St}{K K2 E B:Nat}{d:List Nat}{R:AV->(Nat->Nat)->Obs->Prop}{f:Nat->AV}{args:Array Operand}{tys:Array TypeId}{K':St->Prop}
def oU(p:Nat->Bool):ai s ⟨s.f,s.gen,λi=>if p i=T then N else s.obj i⟩:=by
 exact tI
def bY(p:Nat->Bool)(h:R (nP s.f d) s.gen (λi=>if p i=T then N else s.obj i)):zK d R .normal s:=⟨_,oU p,h⟩
def jq(p:Nat->Bool)(h:R (nP s.f d) s.gen (λi=>if p i=T then N else s.obj i)):zK d R .ret s:=⟨_,oU p,h⟩
structure Tape (E B:Nat) (word:Bool) (code:List Ins) (g:Nat->Nat) (ob:Obs):Prop where
 t:ob E=some [bE word,.osl B (g B) 4 0 code.length]
 b:ob B=some (fQ code)
 ne:E≠B
def Tape.same{E B:Nat}{g g':Nat->Nat}{ob Y:Obs}(h:Tape E B word code g ob)(hg:g' B=g B)(U:Y E=ob E)(a:Y B=ob B):Tape E B word code g' Y:=
 ⟨by rw[U,hg];exact h.t,by rw[a];exact h.b,h.ne⟩
structure Bj (K E B:Nat) (word:Bool) (code:List Ins) (g:Nat->Nat) (ob:Obs) (g':Nat->Nat) (Y:Obs):Prop where
 tape:Tape E B word code g' Y
 gen:∀i,i<K->i≠B->g' i=g i
 obj:∀i,i≠E->i≠B->Y i=ob i
def fv(f:FuncId)(rest:List AV)(a:Bool->Nat->List Ins):Prop:=
 ∀(K E B:Nat)(word:Bool)(code:List Ins)(g:Nat->Nat)(ob:Obs)(H:Nat),Tape E B word code g ob->g E=H->E<K->B<K->(∀i,K<=i->ob i=N)->z code+(a word (z code)).length<=1000000000->
  gY Tryz.prog f (aj E H 0::rest) g ob (λr c Y=>r=uv/\Bj K E B word (code++a word (z code)) g ob c Y)
def Wo{E B V H gV n:Nat}{code xs:List Ins}{g:Nat->Nat}{ob:Obs}(j:Tape E B word code g ob)(m:g E=H)(k:ob V=S (fQ xs))(al:g V=gV)(hn:z xs=n)(hT:V≠E)(hB:V≠B)(hl:z code+z xs<=1000000000):
  gY Tryz.prog 140 [aj E H 0,dL V gV 4 0 n] g ob (λr g' Y=>r=uv/\Tape E B word (code++xs) g' Y/\(∀i,i≠B->g' i=g i)/\∀i,i≠E->i≠B->Y i=ob i):=by
 refine hdF 0 Tryz.func140 rfl [] ?_;obtain⟨U,l,a⟩:=j;subst m al hn;simp only[go_sem,U,l,k,a,jw];refine⟨l8 _,l8 _,⟨b9,a7⟩,⟨_,ai.refl _,rfl,⟨?_,?_,a⟩,λi e=>?_,λi e o=>?_⟩⟩
 .simp only[upd,B5,j8]
 .simp only[upd,B5,j9 (B7 a)]
  rw[s7 (by rw[jw];omega),s7 (by rw[jw];omega),GD]
 .simp only[upd,j9 e]
 .simp only[upd,j9 e,j9 o]
structure Prog (K K2 E B:Nat) (word:Bool) (code:List Ins) (g0:Nat->Nat) (b:Obs) (g:Nat->Nat) (ob:Obs):Prop where
 tape:Tape E B word code g ob
 gen:∀i,i<K->i≠B->g i=g0 i
 obj:∀i,i<K->i≠E->i≠B->ob i=b i
 top:∀i,K2<=i->ob i=none
 tk:E<K
 bk:B<K
 kk:K<=K2
def Prog.start{g:Nat->Nat}{ob:Obs}(h:Tape E B word code g ob)(hT:E<K)(hB:B<K)(J:∀i,K<=i->ob i=N)(a:K<=K2):Prog K K2 E B word code g ob g ob:=
 ⟨h,λ_ _ _=>rfl,λ_ _ _ _=>rfl,λi c=>J i a7,hT,hB,a⟩
def Prog.fin(h:Prog K K2 E B word code g0 b g ob)(J:∀i,K<=i->b i=N):Bj K E B word code g0 b g (λi=>if decide (K<=i)=T then N else ob i):=by
 refine⟨h.tape.same rfl ?_ ?_,h.gen,λi U c=>?_⟩
 .have:=h.tk;simp[show ¬K<=E by omega]
 .have:=h.bk;simp[show ¬K<=B by omega]
 .by_cases a:K<=i
  .simp[a,J i a]
  .simp only[a,L7,E0,B1]
   exact h.obj i a7 U c
def Prog.new{K K2 E B V x:Nat}{y:Option (List C)}(h:Prog K K2 E B word code g0 b g ob)(U:K<=V)(k:V<K2):Prog K K2 E B word code g0 b (upd g V x) (upd ob V y):=by
 have e:¬E=V:=by have:=h.tk;omega
 have hB:¬B=V:=by have:=h.bk;omega
 refine⟨h.tape.same (by simp[upd,hB]) (by simp[upd,e]) (by simp[upd,hB]),λi a c=>?_,λi a j c=>?_,λi a=>?_,h.tk,h.bk,h.kk⟩
 .simp only[upd,j9 (show ¬i=V by omega)];exact h.gen i a c
 .simp only[upd,j9 (show ¬i=V by omega)];exact h.obj i a j c
 .simp only[upd,j9 (show ¬i=V by omega)];exact h.top i a
def Prog.genT(h:Prog K K2 E B word code g0 b g ob):g E=g0 E:=h.gen E h.tk h.tape.ne
def cR{K K2 E B V H gV n:Nat}(xs:List Ins)(h:Prog K K2 E B word code g0 b g ob){o:Oper}{k:Box K'}{Bs:Nat}
 (ho:o.op=.call ⟨.value (.func 140),args,tys⟩)(m:g0 E=H)(U:K<=V)(u:V<K2)(v:z xs=n)(w:args.toList.map (St.ev ⟨f,upd g V gV,upd ob V (S (fQ xs))⟩)=[aj E H 0,dL V gV 4 0 n])(hl:z code+z xs<=1000000000)
 (A:∀g' Y,Prog K K2 E B word (code++xs) g0 b g' Y->(∀i,i≠B->i≠V->g' i=g i)->(∀i,i≠E->i≠B->i≠V->Y i=ob i)->K' (St.put ⟨f,g',Y⟩ o.dst uv)):bC (spB Tryz.prog Bs) o ⟨f,upd g V gV,upd ob V (S (fQ xs))⟩ k:=by
 have c:=h.new (x:=gV) (y:=S (fQ xs)) U u;have G:V≠E:=by have:=h.tk;omega
 have hB:V≠B:=by have:=h.bk;omega
 refine cJ ho (R:=λr g' Y=>r=uv/\Tape E B word (code++xs) g' Y/\(∀i,i≠B->g' i=upd g V gV i)/\∀i,i≠E->i≠B->Y i=upd ob V (S (fQ xs)) i) ?_ ?_
 .rw[w]
  exact Wo c.tape (c.genT.trans m) XL XL v G hB hl
 .rintro _ g' Y ⟨rfl,t,q,l⟩
  refine A g' Y ⟨t,λi e a=>?_,λi e j a=>?_,λi e=>?_,h.tk,h.bk,h.kk⟩ (λi a p=>?_) (λi j a p=>?_)
  .rw[q i a];exact c.gen i e a
  .rw[l i j a];exact c.obj i e j a
  .have:=h.tk;have:=h.bk;have:=h.kk
   rw[l i a7 a7];exact c.top i e
  .rw[q i a];simp only[upd,j9 p]
  .rw[l i j a];simp only[upd,j9 p]
def cq{K K2 E B H:Nat}{l:FuncId}{rest:List AV}{a:Bool->Nat->List Ins}(q:fv l rest a)(h:Prog K K2 E B word code g0 b g ob){o:Oper}{k:Box K'}{Bs:Nat}
 (ho:o.op=.call ⟨.value (.func l),args,tys⟩)(m:g0 E=H)(u:args.toList.map (St.ev ⟨f,g,ob⟩)=aj E H 0::rest)(hl:z code+(a word (z code)).length<=1000000000)
 (v:∀g' Y,Prog K K2 E B word (code++a word (z code)) g0 b g' Y->(∀i,i<K2->i≠B->g' i=g i)->(∀i,i≠E->i≠B->Y i=ob i)->K' (St.put ⟨f,g',Y⟩ o.dst uv)):bC (spB Tryz.prog Bs) o ⟨f,g,ob⟩ k:=by
 have U:=h.tk;have w:=h.bk;have x:=h.kk;refine cJ ho (R:=λr g' Y=>r=uv/\Bj K2 E B word (code++a word (z code)) g ob g' Y) ?_ ?_
 .rw[u]
  exact q K2 E B word code g ob H h.tape (h.genT.trans m) a7 a7 h.top hl
 .rintro _ g' Y ⟨rfl,t,n,j⟩
  refine v g' Y ⟨t,λi c e=>?_,λi c p e=>?_,λi c=>?_,U,w,x⟩ n j
  .rw[n i a7 e];exact h.gen i c e
  .rw[j i p e];exact h.obj i c p e
  .rw[j i a7 a7];exact h.top i c
def EV:fv 78 [] (λword _=>(leave word).map Prod.fst):=by
 intro K E B word code g ob H e m u v J hl;have j:=Prog.start (K2:=K+14) e u v J a7;refine hdF K Tryz.func78 rfl [] ?_;have U:=e.t;cases word with
 |false=>
   have x:z code+1<=1000000000:=hl;simp only[go_sem,U,m];refine cR [⟨11,0,0,0⟩] j rfl m a7 a7 rfl rfl (by exact x) ?_;intro l n a _ _;simp only[go_sem];refine bY (λi=>decide (K<=i)) ?_;exact⟨rfl,a.fin J⟩
 |true=>
   have x:z code+2<=1000000000:=hl;simp only[go_sem,U,m];refine cR [⟨1,0,0,0⟩] j rfl m a7 a7 rfl rfl (by show z code+1<=1000000000;omega) ?_;intro l n a _ _;simp only[go_sem,a.tape.t,a.genT,m];refine cR [⟨11,0,0,0⟩] a rfl m a7 a7 rfl rfl (by simp only[j8,l4,l5];omega) ?_;intro o p k _ _;rw[v7]at k;simp only[go_sem];refine bY (λi=>decide (K<=i)) ?_;exact⟨rfl,k.fin J⟩
def NA{E B I J H l W:Nat}{pre post:List Ins}{x:Ins}{g:Nat->Nat}{ob:Obs}(j:Tape E B word (pre++x::post) g ob)(m:g E=H)(k:ob I=S [.ptr E H 0])(h:g I=l)
 (n:ob J=S [ag (z pre)])(b:g J=W)(hl:z (pre++x::post)<=1000000000):
  gY Tryz.prog 199 [aj I l 0,aj J W 0] g ob (λr g' Y=>r=uv/\g'=g/\Tape E B word (pre ++ {x with a:=(z (pre++x::post):Int)}::post) g Y/\∀i,i≠B->Y i=ob i):=by
 refine hdF 0 Tryz.func199 rfl [] ?_;obtain⟨U,o,e⟩:=j;subst m h b;simp only[go_sem];refine cp c9 ?_;have p:z pre<z (pre++x::post):=by simp only[j8,l4];omega
 simp only[go_sem,U,o,k,n,e,jw,p];refine⟨a7,_,ai.refl _,rfl,rfl,⟨?_,?_,e⟩,λi q=>by simp[upd,q]⟩
 .simp only[upd,j9 e,U,j8,l4]
 .simp only[upd,B5]
  exact congrArg S (xZ pre x post _)
structure Bk (I J:Nat) (E H at':Nat) (g:Nat->Nat) (ob:Obs) (v:AV):Prop where
 v:v=.one (.clo 199 [.ptr I (g I) 0,.ptr J (g J) 0])
 i:ob I=some [.ptr E H 0]
 j:ob J=some [ag at']
def Bk.same{I J E H at':Nat}{g g':Nat->Nat}{ob Y:Obs}{v:AV}(h:Bk I J E H at' g ob v)(U:g' I=g I)(a:g' J=g J)(c:Y I=ob I)(e:Y J=ob J):Bk I J E H at' g' Y v:=
 ⟨by rw[U,a];exact h.v,by rw[c];exact h.i,by rw[e];exact h.j⟩
def RI{K E B H:Nat}{op:Int}{g:Nat->Nat}{ob:Obs}(a:Tape E B word code g ob)(m:g E=H)(u:E<K)(v:B<K)(J:∀i,K<=i->ob i=N)(hl:z code+1<=1000000000):
  gY Tryz.prog 177 [aj E H 0,ae op] g ob (λr g' Y=>Bk (K+2) (K+5) E H (z code) g' Y r/\Tape E B word (code++[⟨op,0,0,0⟩]) g' Y/\(∀i,i<K->i≠B->g' i=g i)/\(∀i,i<K->i≠E->i≠B->Y i=ob i)/\∀i,K+6<=i->Y i=N):=by
 refine hdF K Tryz.func177 rfl [4] ?_;have Q:=Prog.start (K2:=K+17) a u v J a7;have U:=a.t;have X:=a.b;have t1:¬E=K+2:=a7;have t2:¬E=K+5:=a7;have b1:¬B=K+2:=a7;have b2:¬B=K+5:=a7;have dd:=Q.new (V:=K+2) (x:=nxC 233 (g (K+2))) (y:=S [.ptr E H 0]) a7 a7;have Z:=dd.new (V:=K+5) (x:=nxC 4 (g (K+5))) (y:=S [ag 0]) a7 a7
 have e9:Prog K (K+17) E B word code g ob (upd (upd g (K+2) (nxC 233 (g (K+2)))) (K+5) (nxC 4 (g (K+5)))) (upd (upd (upd ob (K+2) (S [.ptr E H 0])) (K+5) (S [ag 0])) (K+5) (S [ag (z code)])):=by
  have:=Z.new (V:=K+5) (x:=(upd (upd g (K+2) (nxC 233 (g (K+2)))) (K+5) (nxC 4 (g (K+5)))) (K+5)) (y:=S [ag (z code)]) a7 a7;have e:∀(f:Nat->Nat)(i:Nat),upd f i (f i)=f:=λf i=>by funext j;simp only[upd];split<;>simp_all
  rw[e]at this;exact this
 simp only[go_sem,U,X,m,t1,t2,b1,b2];refine cR [⟨op,0,0,0⟩] e9 rfl m a7 a7 rfl rfl (by exact hl) ?_;intro o p k q A;have I:o (K+2)=nxC 233 (g (K+2)):=by rw[q _ a7 a7];simp[upd]
 have L:o (K+5)=nxC 4 (g (K+5)):=by rw[q _ a7 a7];simp[upd]
 have e3:p (K+2)=S [.ptr E H 0]:=by rw[A _ a7 a7 a7];simp[upd]
 have e4:p (K+5)=S [ag (z code)]:=by rw[A _ a7 a7 a7];simp[upd]
 simp only[go_sem,I,L];refine jq (λi=>decide (K+6<=i)) ?_;refine⟨⟨?_,?_,?_⟩,k.tape.same rfl ?_ ?_,k.gen,λi l hT hB=>?_,λi l=>?_⟩
 .simp only[go_sem,nP,I,L]
 .simp[e3]
 .simp[e4]
 .simp[show ¬K+6<=E by omega]
 .simp[show ¬K+6<=B by omega]
 .simp only[show ¬K+6<=i by omega,L7,E0,B1];exact k.obj i l hT hB
 .simp[l]
end
section
variable{word:Bool}{g0 g:Nat->Nat}{b ob:Obs}{code:List Ins}{f:Nat->AV}{args:Array Operand}{tys:Array TypeId}{K':St->Prop}{op num slot size:Int}
def Prog.more{K K2 L E B:Nat}(h:Prog K K2 E B word code g0 b g ob)(a:K2<=L):Prog K L E B word code g0 b g ob:=
 ⟨h.tape,h.gen,h.obj,λi c=>h.top i a7,h.tk,h.bk,by have:=h.kk;omega⟩
structure Open (I J E H at' l W:Nat) (g:Nat->Nat) (ob:Obs):Prop where
 gi:g I=l
 gj:g J=W
 i:ob I=some [.ptr E H 0]
 j:ob J=some [ag at']
def Open.same{I J E H at' l W:Nat}{g g':Nat->Nat}{ob Y:Obs}(h:Open I J E H at' l W g ob)(U:g' I=g I)(a:g' J=g J)(c:Y I=ob I)(d:Y J=ob J):Open I J E H at' l W g' Y:=
 ⟨U.trans h.gi,a.trans h.gj,c.trans h.i,d.trans h.j⟩
def jx{K K2 E B H:Nat}{op:Int}(h:Prog K K2 E B word code g0 b g ob){o:Oper}{k:Box K'}{Bs:Nat}
 (ho:o.op=.call ⟨.value (.func 177),args,tys⟩)(m:g0 E=H)(n:args.toList.map (St.ev ⟨f,g,ob⟩)=[aj E H 0,ae op])(hl:z code+1<=1000000000)
 (p:∀g' Y l W,Prog K (K2+6) E B word (code++[⟨op,0,0,0⟩]) g0 b g' Y->Open (K2+2) (K2+5) E H (z code) l W g' Y->(∀i,i<K2->i≠B->g' i=g i)->(∀i,i<K2->i≠E->i≠B->Y i=ob i)->K' (St.put ⟨f,g',Y⟩ o.dst (.one (.clo 199 [.ptr (K2+2) l 0,.ptr (K2+5) W 0])))):bC (spB Tryz.prog Bs) o ⟨f,g,ob⟩ k:=by
 have U:=h.tk;have q:=h.bk;have u:=h.kk;refine cJ ho (R:=λr g' Y=>Bk (K2+2) (K2+5) E H (z code) g' Y r/\Tape E B word (code++[⟨op,0,0,0⟩]) g' Y/\(∀i,i<K2->i≠B->g' i=g i)/\(∀i,i<K2->i≠E->i≠B->Y i=ob i)/\∀i,K2+6<=i->Y i=N) ?_ ?_
 .rw[n]
  exact RI h.tape (h.genT.trans m) a7 a7 h.top hl
 .rintro _ g' Y ⟨⟨rfl,l2,y⟩,t,d,e,s⟩
  refine p g' Y _ _ ⟨t,λi c a=>?_,λi c j a=>?_,s,U,q,a7⟩ ⟨rfl,rfl,l2,y⟩ d e
  .rw[d i a7 a];exact h.gen i c a
  .rw[e i a7 j a];exact h.obj i c j a
def ir{K K2 E B H I J l W t:Nat}{pre post:List Ins}{x:Ins}(h:Prog K K2 E B word (pre++x::post) g0 b g ob)(u:Open I J E H (z pre) l W g ob){o:Oper}{k:Box K'}{Bs:Nat}
 (ho:o.op=.call ⟨.value (.tmp t),args,tys⟩)(m:g0 E=H)(hf:f t=.one (.clo 199 [.ptr I l 0,.ptr J W 0]))(n:args.toList.map (St.ev ⟨f,g,ob⟩)=[])(hl:z (pre++x::post)<=1000000000)
 (hk:∀Y,Prog K K2 E B word (pre ++ {x with a:=(z (pre++x::post):Int)}::post) g0 b g Y->(∀i,i≠B->Y i=ob i)->K' (St.put ⟨f,g,Y⟩ o.dst uv)):bC (spB Tryz.prog Bs) o ⟨f,g,ob⟩ k:=by
 have U:=h.tk;have h2:=h.bk;have h3:=h.kk;refine Hs ho hf (R:=λr g' Y=>r=uv/\g'=g/\Tape E B word (pre ++ {x with a:=(z (pre++x::post):Int)}::post) g Y/\∀i,i≠B->Y i=ob i) ?_ ?_
 .rw[n]
  exact NA h.tape (h.genT.trans m) u.i u.gi u.j u.gj hl
 .rintro _ g' Y ⟨rfl,rfl,t,q⟩
  refine hk Y ⟨t,h.gen,λi hi p d=>?_,λi hi=>?_,U,h2,h3⟩ q
  .rw[q i d];exact h.obj i hi p d
  .rw[q i a7];exact h.top i hi
def bq(e:Ex):z (cxD e)=6:=by cases e;simp[cxD]
abbrev ipE(e:Ex):AV:=.one (.d (.iptr (cxD e)))
abbrev bJ(d:Int)(e:Ex):Bool->Nat->List Ins:=λ_ at'=>(cE at' d e).map Prod.fst
def Bl{A:Type}(f:Nat->A)(i:Nat):upd f i (f i)=f:=by funext j;simp only[upd];split<;>simp_all
def GF{a b:Ex}{d:Int}(ha:fv 176 [ipE a] (bJ d a))(hb:fv 176 [ipE b] (bJ d b)):
  fv 198 [ipE (.mk 8 op num slot size [a,b])] (bJ d (.mk 8 op num slot size [a,b])):=by
 intro K E B word code g ob H L m u v J hl
 have bd:z code+((cE (z code) d a).length+4+(cE (z code+(cE (z code) d a).length+1+3) d b).length+2)<=1000000000:=by
  have:(bJ d (.mk 8 op num slot size [a,b]) word (z code)).length=_:=rfl;simp only[bJ,cE,cAO,kG,iT,kh,j7,B5,Vk,j8,l4,l5]at hl;simp only[C2,Nat.reduceAdd]at hl|-;omega
 have hp:=Prog.start (K2:=K+50) L u v J a7;refine hdF K Tryz.func198 rfl [] ?_;have dd:=hp.new (V:=K+4) (x:=nxC 222 (g (K+4))) (y:=S [ag 0,ag 0,ag 0,.d (.int .u32 0)]) a7 a7;have Z:=dd.new (V:=K+4) (x:=(upd g (K+4) (nxC 222 (g (K+4)))) (K+4)) (y:=S (zi ⟨7,0,0,0⟩)) a7 a7;rw[Bl]at Z;have U:=L.t;have h2:=L.b;have hE:cxD (.mk 8 op num slot size [a,b])=[.int .i64 8,.int .i64 op,.int .u32 num,.int .i64 slot,.int .i64 size,.sl [cxD a,cxD b]]:=by simp only[cxD,zc]
 unfold ipE;rw[hE];simp only[go_sem,U,h2,m,bq];refine cq ha Z rfl m rfl (by simp only[bJ,j7];omega) ?_;intro g1 av p1 q1 r1;have A:av (K+4)=S [ag 7,ag 0,ag 0,.d (.int .u32 0)]:=by rw[r1 _ a7 a7];simp[upd,zi]
 have g4:g1 (K+4)=nxC 222 (g (K+4)):=by rw[q1 _ a7 a7];simp[upd]
 simp only[go_sem,A,g4];refine cR [⟨7,0,0,0⟩] p1 rfl m a7 a7 rfl rfl Yz ?_;intro g2 bo p2 q2 r2;have A:bo (K+4)=S [ag 7,ag 0,ag 0,.d (.int .u32 0)]:=by rw[r2 _ a7 a7 a7];exact A
 have g4:g2 (K+4)=nxC 222 (g (K+4)):=by rw[q2 _ a7 a7];exact g4
 simp only[go_sem,A,g4];refine jx p2 rfl m rfl Yz ?_;intro g3 b7 q r p3 o1 q3 r3;have A:b7 (K+4)=S [ag 7,ag 0,ag 0,.d (.int .u32 0)]:=by rw[r3 _ a7 a7 a7];exact A
 have g4:g3 (K+4)=nxC 222 (g (K+4)):=by rw[q3 _ a7 a7];exact g4
 simp only[go_sem,A,g4];refine cR [⟨1,0,0,0⟩] p3 rfl m a7 a7 rfl rfl Yz ?_;intro c bf p4 Q r4;have A:bf (K+4)=S [ag 7,ag 0,ag 0,.d (.int .u32 0)]:=by rw[r4 _ a7 a7 a7];exact A
 have g4:c (K+4)=nxC 222 (g (K+4)):=by rw[Q _ a7 a7];exact g4
 have o1:=o1.same (g':=c) (Y:=bf) (Q _ a7 a7) (Q _ a7 a7) (r4 _ a7 a7 a7) (r4 _ a7 a7 a7);simp only[go_sem,A,g4];refine jx p4 rfl m rfl Yz ?_;intro g5 b' b0 b1 p5 I q5 r5;have A:b' (K+4)=S [ag 7,ag 0,ag 0,.d (.int .u32 0)]:=by rw[r5 _ a7 a7 a7];exact A
 have g4:g5 (K+4)=nxC 222 (g (K+4)):=by rw[q5 _ a7 a7];exact g4
 have o1:=o1.same (g':=g5) (Y:=b') (q5 _ a7 a7) (q5 _ a7 a7) (r5 _ a7 a7 a7) (r5 _ a7 a7 a7);simp only[go_sem,A,g4];rw[v7,v7]at p5;have j:(code++bJ d a word (z code)++[(⟨7,0,0,0⟩:Ins)]).length=z code+(cE (z code) d a).length+1:=by simp only[bJ,j8,j7,l4,l5]
 have o:(code++bJ d a word (z code)++[(⟨7,0,0,0⟩:Ins)]++(⟨9,0,0,0⟩:Ins)::[⟨1,0,0,0⟩,⟨8,0,0,0⟩]).length=z code+(cE (z code) d a).length+1+3:=by rw[j8,j];rfl
 have e3:(code++bJ d a word (z code)++[(⟨7,0,0,0⟩:Ins)]++(⟨9,0,0,0⟩:Ins)::[⟨1,0,0,0⟩]).length=z code+(cE (z code) d a).length+1+2:=by rw[j8,j];rfl
 refine ir (pre:=code++bJ d a word (z code)++[⟨7,0,0,0⟩]) (x:=⟨9,0,0,0⟩) (post:=[⟨1,0,0,0⟩,⟨8,0,0,0⟩]) p5 o1 rfl m rfl rfl (by rw[o];omega) ?_;intro P p6 r6;have A:P (K+4)=S [ag 7,ag 0,ag 0,.d (.int .u32 0)]:=by rw[r6 _ a7];exact A
 have I:=I.same (g':=g5) (Y:=P) rfl rfl (r6 _ a7) (r6 _ a7);rw[o]at p6;generalize hX:code++bJ d a word (z code)++[(⟨7,0,0,0⟩:Ins)]=X at *;have O:(X++(⟨9,((z code+(cE (z code) d a).length+1+3:Nat):Int),0,0⟩:Ins)::[⟨1,0,0,0⟩,⟨8,0,0,0⟩]).length=z code+(cE (z code) d a).length+1+3:=by rw[j8,j];rfl
 simp only[go_sem,A,g4,bq];refine cq hb p6 rfl m rfl (by simp only[O,bJ,j7];omega) ?_;intro l ar p7 q7 r7;rw[O]at p7;have A:ar (K+4)=S [ag 7,ag 0,ag 0,.d (.int .u32 0)]:=by rw[r7 _ a7 a7];exact A
 have g4:l (K+4)=nxC 222 (g (K+4)):=by rw[q7 _ a7 a7];exact g4
 have I:=I.same (g':=l) (Y:=ar) (q7 _ a7 a7) (q7 _ a7 a7) (r7 _ a7 a7) (r7 _ a7 a7);simp only[go_sem,A,g4];refine cR [⟨7,0,0,0⟩,⟨7,0,0,0⟩] p7 rfl m a7 a7 rfl rfl (by simp only[j8,j,bJ,j7,l4,l5];omega) ?_;intro s h k q8 n;have I:=I.same (g':=s) (Y:=h) (q8 _ a7 a7) (q8 _ a7 a7) (n _ a7 a7 a7) (n _ a7 a7 a7)
 have k:Prog K (K+50+6+6) E B word ((X++[⟨9,((z code+(cE (z code) d a).length+1+3:Nat):Int),0,0⟩,⟨1,0,0,0⟩])++⟨8,0,0,0⟩::(bJ d b word (z code+(cE (z code) d a).length+1+3)++[⟨7,0,0,0⟩,⟨7,0,0,0⟩])) g ob s h:=by
  have:=k;exact ys
 have ad:(X++[(⟨9,((z code+(cE (z code) d a).length+1+3:Nat):Int),0,0⟩:Ins),(⟨1,0,0,0⟩:Ins)]).length=z (X++[(⟨9,0,0,0⟩:Ins)]++[(⟨1,0,0,0⟩:Ins)]):=a8
 have f:((X++[(⟨9,((z code+(cE (z code) d a).length+1+3:Nat):Int),0,0⟩:Ins),⟨1,0,0,0⟩])++(⟨8,0,0,0⟩:Ins)::(bJ d b word (z code+(cE (z code) d a).length+1+3)++[⟨7,0,0,0⟩,⟨7,0,0,0⟩])).length=z code+(cE (z code) d a).length+1+3+(cE (z code+(cE (z code) d a).length+1+3) d b).length+2:=by
  simp only[j8,l4,l5,j,bJ,j7];omega
 rw[<-ad]at I;simp only[go_sem];refine ir k I rfl m rfl rfl (by rw[f];omega) ?_;intro w p r9;rw[f]at p;simp only[go_sem];refine bY (λi=>decide (K<=i)) ?_;refine⟨rfl,?_⟩
 have e:code++bJ d (.mk 8 op num slot size [a,b]) word (z code)=(X++[(⟨9,((z code+(cE (z code) d a).length+1+3:Nat):Int),0,0⟩:Ins),⟨1,0,0,0⟩])++⟨8,((z code+(cE (z code) d a).length+1+3+(cE (z code+(cE (z code) d a).length+1+3) d b).length+2:Nat):Int),0,0⟩::(bJ d b word (z code+(cE (z code) d a).length+1+3)++[⟨7,0,0,0⟩,⟨7,0,0,0⟩]):=by
  rw[<-hX];simp only[bJ,cE,cAO,kG,iT,kh,B5,Vk,A8,s6,x7,v7,C6,A7,l4,l5,C5]
 rw[e];exact p.fin J
def GG{a b:Ex}{d:Int}(ha:fv 176 [ipE a] (bJ d a))(hb:fv 176 [ipE b] (bJ d b)):
  fv 198 [ipE (.mk 9 op num slot size [a,b])] (bJ d (.mk 9 op num slot size [a,b])):=by
 intro K E B word code g ob H L m u v J hl
 have bd:z code+((cE (z code) d a).length+3+(cE (z code+(cE (z code) d a).length+3) d b).length+2)<=1000000000:=by
  have:(bJ d (.mk 9 op num slot size [a,b]) word (z code)).length=_:=rfl;simp only[bJ,cE,cAO,kG,iT,kh,j7,show ¬(9:Int)=8 by decide,B1,B5,Vl,j8,l4,l5]at hl;simp only[C2,LN,Nat.reduceAdd]at hl|-;omega
 have hp:=Prog.start (K2:=K+50) L u v J a7;refine hdF K Tryz.func198 rfl [] ?_;have dd:=hp.new (V:=K+4) (x:=nxC 222 (g (K+4))) (y:=S [ag 0,ag 0,ag 0,.d (.int .u32 0)]) a7 a7;have Z:=dd.new (V:=K+4) (x:=(upd g (K+4) (nxC 222 (g (K+4)))) (K+4)) (y:=S (zi ⟨7,0,0,0⟩)) a7 a7;rw[Bl]at Z;have U:=L.t;have h2:=L.b;have hE:cxD (.mk 9 op num slot size [a,b])=[.int .i64 9,.int .i64 op,.int .u32 num,.int .i64 slot,.int .i64 size,.sl [cxD a,cxD b]]:=by simp only[cxD,zc]
 unfold ipE;rw[hE];simp only[go_sem,U,h2,m,bq];refine cq ha Z rfl m rfl (by simp only[bJ,j7];omega) ?_;intro g1 av p1 q1 r1;have A:av (K+4)=S [ag 7,ag 0,ag 0,.d (.int .u32 0)]:=by rw[r1 _ a7 a7];simp[upd,zi]
 have g4:g1 (K+4)=nxC 222 (g (K+4)):=by rw[q1 _ a7 a7];simp[upd]
 simp only[go_sem,A,g4];refine jx p1 rfl m rfl Yz ?_;intro g3 b7 q r p3 o1 q3 r3;have A:b7 (K+4)=S [ag 7,ag 0,ag 0,.d (.int .u32 0)]:=by rw[r3 _ a7 a7 a7];exact A
 have g4:g3 (K+4)=nxC 222 (g (K+4)):=by rw[q3 _ a7 a7];exact g4
 simp only[go_sem,A,g4];refine cR [⟨1,0,0,1⟩] p3 rfl m a7 a7 rfl rfl Yz ?_;intro c bf p4 Q r4;have A:bf (K+4)=S [ag 7,ag 0,ag 0,.d (.int .u32 0)]:=by rw[r4 _ a7 a7 a7];exact A
 have g4:c (K+4)=nxC 222 (g (K+4)):=by rw[Q _ a7 a7];exact g4
 have o1:=o1.same (g':=c) (Y:=bf) (Q _ a7 a7) (Q _ a7 a7) (r4 _ a7 a7 a7) (r4 _ a7 a7 a7);simp only[go_sem,A,g4];refine jx p4 rfl m rfl Yz ?_;intro g5 b' b0 b1 p5 I q5 r5;have A:b' (K+4)=S [ag 7,ag 0,ag 0,.d (.int .u32 0)]:=by rw[r5 _ a7 a7 a7];exact A
 have g4:g5 (K+4)=nxC 222 (g (K+4)):=by rw[q5 _ a7 a7];exact g4
 have o1:=o1.same (g':=g5) (Y:=b') (q5 _ a7 a7) (q5 _ a7 a7) (r5 _ a7 a7 a7) (r5 _ a7 a7 a7);simp only[go_sem,A,g4];rw[v7,v7]at p5;have j:(code++bJ d a word (z code)).length=z code+(cE (z code) d a).length:=by simp only[bJ,j8,j7,l4,l5]
 have o:(code++bJ d a word (z code)++(⟨9,0,0,0⟩:Ins)::[⟨1,0,0,1⟩,⟨8,0,0,0⟩]).length=z code+(cE (z code) d a).length+3:=by rw[j8,j];rfl
 have e3:(code++bJ d a word (z code)++(⟨9,0,0,0⟩:Ins)::[⟨1,0,0,1⟩]).length=z code+(cE (z code) d a).length+2:=by rw[j8,j];rfl
 refine ir (pre:=code++bJ d a word (z code)) (x:=⟨9,0,0,0⟩) (post:=[⟨1,0,0,1⟩,⟨8,0,0,0⟩]) p5 o1 rfl m rfl rfl (by rw[o];omega) ?_;intro P p6 r6;have A:P (K+4)=S [ag 7,ag 0,ag 0,.d (.int .u32 0)]:=by rw[r6 _ a7];exact A
 have I:=I.same (g':=g5) (Y:=P) rfl rfl (r6 _ a7) (r6 _ a7);rw[o]at p6;generalize hX:code++bJ d a word (z code)=X at *;have O:(X++(⟨9,((z code+(cE (z code) d a).length+3:Nat):Int),0,0⟩:Ins)::[⟨1,0,0,1⟩,⟨8,0,0,0⟩]).length=z code+(cE (z code) d a).length+3:=by rw[j8,j];rfl
 simp only[go_sem,A,g4,bq];refine cq hb p6 rfl m rfl (by simp only[O,bJ,j7];omega) ?_;intro l ar p7 q7 r7;rw[O]at p7;have A:ar (K+4)=S [ag 7,ag 0,ag 0,.d (.int .u32 0)]:=by rw[r7 _ a7 a7];exact A
 have g4:l (K+4)=nxC 222 (g (K+4)):=by rw[q7 _ a7 a7];exact g4
 have I:=I.same (g':=l) (Y:=ar) (q7 _ a7 a7) (q7 _ a7 a7) (r7 _ a7 a7) (r7 _ a7 a7);simp only[go_sem,A,g4];refine cR [⟨7,0,0,0⟩,⟨7,0,0,0⟩] p7 rfl m a7 a7 rfl rfl (by simp only[j8,j,bJ,j7,l4,l5];omega) ?_;intro s h k q8 n;have I:=I.same (g':=s) (Y:=h) (q8 _ a7 a7) (q8 _ a7 a7) (n _ a7 a7 a7) (n _ a7 a7 a7)
 have k:Prog K (K+50+6+6) E B word ((X++[⟨9,((z code+(cE (z code) d a).length+3:Nat):Int),0,0⟩,⟨1,0,0,1⟩])++⟨8,0,0,0⟩::(bJ d b word (z code+(cE (z code) d a).length+3)++[⟨7,0,0,0⟩,⟨7,0,0,0⟩])) g ob s h:=by
  have:=k;exact ys
 have ad:(X++[(⟨9,((z code+(cE (z code) d a).length+3:Nat):Int),0,0⟩:Ins),(⟨1,0,0,1⟩:Ins)]).length=z (X++[(⟨9,0,0,0⟩:Ins)]++[(⟨1,0,0,1⟩:Ins)]):=a8
 have f:((X++[(⟨9,((z code+(cE (z code) d a).length+3:Nat):Int),0,0⟩:Ins),⟨1,0,0,1⟩])++(⟨8,0,0,0⟩:Ins)::(bJ d b word (z code+(cE (z code) d a).length+3)++[⟨7,0,0,0⟩,⟨7,0,0,0⟩])).length=z code+(cE (z code) d a).length+3+(cE (z code+(cE (z code) d a).length+3) d b).length+2:=by
  simp only[j8,l4,l5,j,bJ,j7];omega
 rw[<-ad]at I;simp only[go_sem];refine ir k I rfl m rfl rfl (by rw[f];omega) ?_;intro w p r9;rw[f]at p;simp only[go_sem];refine bY (λi=>decide (K<=i)) ?_;refine⟨rfl,?_⟩
 have e:code++bJ d (.mk 9 op num slot size [a,b]) word (z code)=(X++[(⟨9,((z code+(cE (z code) d a).length+3:Nat):Int),0,0⟩:Ins),⟨1,0,0,1⟩])++⟨8,((z code+(cE (z code) d a).length+3+(cE (z code+(cE (z code) d a).length+3) d b).length+2:Nat):Int),0,0⟩::(bJ d b word (z code+(cE (z code) d a).length+3)++[⟨7,0,0,0⟩,⟨7,0,0,0⟩]):=by
  rw[<-hX];simp only[bJ,cE,cAO,kG,iT,kh,show ¬(9:Int)=8 by decide,B1,B5,Vl,A8,s6,x7,v7,C6,A7,l4,l5,LN]
 rw[e];exact p.fin J
end
def wh:∀(l:List Ex)(k:Nat)(e:Ex)(at':Nat)(d:Int),l[k]?=S e->cEs at' d (l.take (k+1))=cEs at' d (l.take k)++cE (at'+z (cEs at' d (l.take k))) (d+k) e
 |[],k,e,at',d,h=>by simp at h
 |x::l,0,e,at',d,h=>by
   simp at h;subst h;simp[cEs]
 |x::l,k+1,e,at',d,h=>by
   have q:l[k]?=S e:=by simpa using h
   have a:=wh l k e (at'+z (cE at' d x)) (d+1) q;rw[Hl,Hl,cEs,cEs,a,v7,j8,C2];rw[show d+1+(k:Int)=d+((k+1:Nat):Int) by omega]
def tr(l:List Ex)(k:Nat)(at':Nat)(d:Int):z (cEs at' d (l.take k))<=z (cEs at' d l):=by
 have:∀(l:List Ex)(k at':Nat)(d:Int),z (cEs at' d (l.take k))<=z (cEs at' d l):=by
  intro l
  induction l with
  |nil=>intro k at' d;simp[cEs]
  |cons x l a=>
    intro k at' d;cases k with
    |zero=>simp[cEs]
    |succ k=>
      rw[Hl,cEs,cEs,j8,j8];have:=a k (at'+z (cE at' d x)) (d+1);omega
 exact this l k at' d
def rU{w:Int}{ps:Sig}{f:Nat}{q:Int}:∀{l:List Ex}{k:Nat}{e:Ex},rEs w ps f q l->l[k]?=S e->rE w ps f q e
 |[],k,e,_,h=>by simp at h
 |x::l,0,e,V,h=>by simp at h;subst h;rw[rEs]at V;exact V.1
 |x::l,k+1,e,V,h=>by rw[rEs]at V;exact rU V.2 YU
def mV{l:List Ex}{k:Nat}{e:Ex}(h:l[k]?=S e):mR e<ji l:=by
 have a:=AT h;have b:=Gw l (k+1);have c:=(l6.1 h).1;have d:z l<=qU l k:=by unfold qU;omega
 omega
def RJ{w:Int}{ps:Sig}{fi:Nat}:∀(al:Nat)(e:Ex)(q d:Int),mR e<=al->al<=1000000000000->rE w ps fi q e->fv 176 [ipE e] (bJ d e):=by
 intro al
 induction al using Nat.strongRecOn with
 |ind al U=>
 intro e q d hN b6 V;obtain⟨kind,op,num,slot,size,G⟩:=e;have az:mR (.mk kind op num slot size G)=ji G:=rfl;rw[rE]at V;obtain⟨an,p⟩:=V;have W:cxD (.mk kind op num slot size G)=[.int .i64 kind,.int .i64 op,.int .u32 num,.int .i64 slot,.int .i64 size,.sl (G.map cxD)]:=by simp only[cxD,po]
 intro K E B word code g ob H ht m u v J hl;have X:=Prog.start (K2:=K+107) ht u v J a7;refine hdF K Tryz.func176 rfl [] ?_;unfold ipE;rw[W];by_cases r:kind=8\/kind=9
 .have y:z G=2:=by
   rcases r with rfl|rfl
   .exact VP
   .exact VP
  obtain⟨a,b,rfl⟩:∃a b,G=[a,b]:=by
   match G,y with
   |[a,b],_=>exact⟨a,b,rfl⟩
  have ha:fv 176 [ipE a] (bJ d a):=U (mR a) (by have:=mV (l:=[a,b]) (k:=0) rfl;omega) a (q+1) d (l8 _) (by have:=mV (l:=[a,b]) (k:=0) rfl;omega) (rU (k:=0) p rfl);have hb:fv 176 [ipE b] (bJ d b):=U (mR b) (by have:=mV (l:=[a,b]) (k:=1) rfl;omega) b (q+1) d (l8 _) (by have:=mV (l:=[a,b]) (k:=1) rfl;omega) (rU (k:=1) p rfl);rcases r with rfl|rfl
  .simp only[go_sem]
   refine cq (GF (op:=op) (num:=num) (slot:=slot) (size:=size) ha hb) X rfl m (by unfold ipE;rw[W];rfl) hl ?_;exact w5
  .simp only[go_sem]
   refine cq (GG (op:=op) (num:=num) (slot:=slot) (size:=size) ha hb) X rfl m (by unfold ipE;rw[W];rfl) hl ?_;exact w5
 .have h8:¬kind=8:=λh=>r (.inl h)
  have h9:¬kind=9:=λh=>r (.inr h);have A:cE (z code) d (.mk kind op num slot size G)=cEs (z code) d G++one kind op num slot size (d+z G):=by rw[cE,j9 r]
  have ch:z code+(cEs (z code) d G).length+(one kind op num slot size (d+z G)).length<=1000000000:=by
   have:(bJ d (.mk kind op num slot size G) word (z code)).length=_:=rfl;simp only[bJ,A,j7,j8]at hl;omega
  simp only[go_sem,h8,h9,j7]
  refine eI (λn s=>∃k:Nat,n+k=z G/\s.f 0=aj E H 0/\s.f 1=.one (.d (.iptr [.int .i64 kind,.int .i64 op,.int .u32 num,.int .i64 slot,.int .i64 size,.sl (G.map cxD)]))/\s.f 24=ae (z G)/\s.f 25=ae k/\
   Prog K (K+107) E B word (code++(cEs (z code) d (G.take k)).map Prod.fst) g ob s.gen s.obj) (z G) ?_ ?_
  .refine⟨0,rfl,?_⟩
   rw[M1,cEs,x7,s9];simp only[go_sem];exact X
  .rintro n f g1 av ⟨k,hk,f0,f1,c,j,p1⟩
   simp only at f0 f1 c j p1;have b5:z G<=ji G:=by rw[nz];omega
   have hw:=ah (k:=k) a7;by_cases O:k<z G
   .obtain⟨e,Q⟩:=getq O
    have P:=mV Q;have t:=wh G k e (z code) d Q;have a1:=tr G (k+1) (z code) d
    have cd:(cEs (z code) d (G.take k)).length+(cE (z code+(cEs (z code) d (G.take k)).length) (d+k) e).length<=(cEs (z code) d G).length:=by
     rw[t,j8]at a1;exact a1
    have L:(code++(cEs (z code) d (G.take k)).map Prod.fst).length=z code+(cEs (z code) d (G.take k)).length:=by rw[j8,j7]
    simp only[go_sem,f0,f1,c,j,O,Q,j7,bq];refine cq (U (mR e) a7 e (q+1) (d+k) (l8 _) a7 (rU p Q)) p1 rfl m rfl (by rw[L];simp only[bJ,j7];omega) ?_;intro g2 bo p2 q2 r2;rw[L]at p2;simp only[go_sem,f0,f1,c,j,hw];refine ee (n-1) a7 ⟨k+1,a7,?_⟩;simp only[go_sem,f0,f1,c,j,hw];rw[t,A8,<-v7];exact p2
   .have bs:k=z G:=a7
    subst bs;rw[I1]at p1;have L:(code++(cEs (z code) d G).map Prod.fst).length=z code+(cEs (z code) d G).length:=by rw[j8,j7]
    have bl:∀(x:Ins),one kind op num slot size (d+z G)=[(x,d+z G)]->∀g' Y,Prog K (K+107) E B word (code++(cEs (z code) d G).map Prod.fst++[x]) g ob g' Y->Bj K E B word (code++bJ d (.mk kind op num slot size G) word (z code)) g ob g' (λi=>if decide (K<=i)=T then N else Y i):=by
     intro x I g' Y Z
     have:code++bJ d (.mk kind op num slot size G) word (z code)=code++(cEs (z code) d G).map Prod.fst++[x]:=by
      simp only[bJ,A,I,A8,s6,x7,v7]
     rw[this];exact Z.fin J
    obtain⟨_,_,_,_,_,h⟩:=an
    have o:kind=1\/kind=2\/kind=3\/kind=4\/kind=5\/kind=6\/kind=7:=by
     rcases h with⟨h|h,_⟩|⟨h,_⟩|⟨h,_⟩|⟨h,_⟩|⟨h,_⟩|⟨h,_⟩|⟨h|h,_⟩<;>omega
    have c2:(one kind op num slot size (d+z G)).length=1:=by
     rcases o with rfl|rfl|rfl|rfl|rfl|rfl|rfl<;>rfl
    rcases o with rfl|rfl|rfl|rfl|rfl|rfl|rfl
    .simp only[go_sem,f0,f1,c,j,O,j7]
     refine cR [⟨1,0,0,num⟩] p1 rfl m a7 a7 rfl rfl YB ?_;exact ib
    .simp only[go_sem,f0,f1,c,j,O,j7]
     refine cR [⟨2,slot,0,0⟩] p1 rfl m a7 a7 rfl rfl YB ?_;exact ib
    .simp only[go_sem,f0,f1,c,j,O,j7]
     refine ie aO mixed [K+73] [([0],[0],[],F),([1],[],[],F),([64],[],[],F),([65],[],[],F),([66],[],[],F),([1],[],[],F),([68],[],[],F),([69],[],[],F),([70],[],[],F),([67,71],[],[],F),([72],[],[0],F),([63,73],[],[],T)] 1 c9 rfl a8 ?_;simp only[go_sem]
     iterate 10 (apply aT;· (intro fa ga oa K' J;simp only[go_sem,f0,f1]at J|-;exact J))
     (apply db;· (intro fa ga oa K' J;simp only[go_sem,f0,f1]at J|-;exact J))
     apply di;intro K' a';simp only[go_sem];refine cR [⟨4,slot,size,0⟩] p1 rfl m a7 a7 rfl rfl YB ?_;intro g2 bo p2 q2 r2;refine a' _ ?_;simp only[go_sem];refine bY (λi=>decide (K<=i)) ?_;exact⟨rfl,bl _ rfl _ _ p2⟩
    .simp only[go_sem,f0,f1,c,j,O,j7]
     refine cR [⟨10,slot,0,0⟩] p1 rfl m a7 a7 rfl rfl YB ?_;exact ib
    .simp only[go_sem,f0,f1,c,j,O,j7]
     refine cR [⟨12,0,0,0⟩] p1 rfl m a7 a7 rfl rfl YB ?_;exact ib
    .simp only[go_sem,f0,f1,c,j,O,j7]
     refine cR [⟨6,op,0,0⟩] p1 rfl m a7 a7 rfl rfl YB ?_;exact ib
    .simp only[go_sem,f0,f1,c,j,O,j7]
     refine cR [⟨7,0,0,0⟩] p1 rfl m a7 a7 rfl rfl YB ?_;exact ib
section
abbrev ipS(s:Stm):AV:=.one (.d (.iptr (csD s)))
abbrev slS(l:List Stm):AV:=.one (aq (qS l))
abbrev pr(s:Stm):Bool->Nat->List Ins:=λword at'=>(cS word at' s).map Prod.fst
abbrev cn(l:List Stm):Bool->Nat->List Ins:=λword at'=>(cSs word at' l).map Prod.fst
def AU{word:Bool}:∀(l:List Stm)(k:Nat)(e:Stm)(at':Nat),l[k]?=S e->cSs word at' (l.take (k+1))=cSs word at' (l.take k)++cS word (at'+z (cSs word at' (l.take k))) e
 |[],k,e,at',h=>by simp at h
 |x::l,0,e,at',h=>by
   simp at h;subst h;simp[cSs]
 |x::l,k+1,e,at',h=>by
   have q:l[k]?=S e:=by simpa using h
   have a:=AU (word:=word) l k e (at'+z (cS word at' x)) q;rw[Hl,Hl,cSs,cSs,a,v7,j8,C2]
def pt{word:Bool}:∀(l:List Stm)(k at':Nat),z (cSs word at' (l.take k))<=z (cSs word at' l):=by
 intro l
 induction l with
 |nil=>intro k at';simp[cSs]
 |cons x l a=>
   intro k at';cases k with
   |zero=>simp[cSs]
   |succ k=>
     rw[Hl,cSs,cSs,j8,j8];have:=a k (at'+z (cS word at' x));omega
def uP{w:Int}{ps:Sig}{f:Nat}{word:Bool}{q:Int}:∀{l:List Stm}{k:Nat}{e:Stm},rSs w ps f word q l->l[k]?=S e->rS w ps f word q e
 |[],k,e,_,h=>by simp at h
 |x::l,0,e,V,h=>by simp at h;subst h;rw[rSs]at V;exact V.1
 |x::l,k+1,e,V,h=>by rw[rSs]at V;exact uP V.2 YU
variable{l:List Stm}
def pw{k:Nat}{e:Stm}(h:l[k]?=S e):nT e<fq l:=by
 have a:=Gx h;have b:=Ng l (k+1);have c:=(l6.1 h).1;have d:z l<=Db l k:=by unfold Db;omega
 omega
def me(e:Stm):z (csD e)=6:=by cases e;simp[csD]
def wc(y:fq l<=1000000000000)(q:∀(k:Nat)(e:Stm),l[k]?=S e->fv 139 [ipS e] (pr e)):fv 77 [slS l] (cn l):=by
 intro K E B word code g ob H r m u v J hl;have w:=Prog.start (K2:=K+16) r u v J a7;have x:z code+(cSs word (z code) l).length<=1000000000:=by simpa only[cn,j7]using hl
 refine hdF K Tryz.func77 rfl [] ?_;unfold slS;rw[pq];simp only[go_sem,j7]
 refine eI (λn s=>∃k:Nat,n+k=z l/\s.f 0=aj E H 0/\s.f 1=.one (aq (l.map csD))/\s.f 6=ae (z l)/\s.f 7=ae k/\
  Prog K (K+16) E B word (code++(cSs word (z code) (l.take k)).map Prod.fst) g ob s.gen s.obj) (z l) ?_ ?_
 .refine⟨0,rfl,?_⟩
  rw[M1,cSs,x7,s9];simp only[go_sem];exact w
 .rintro n f A G ⟨k,I,f0,f1,f6,a,b⟩
  simp only at f0 f1 f6 a b;have O:z l<=fq l:=by rw[qV];omega
  have o:=ah (k:=k) a7;by_cases d:k<z l
  .obtain⟨e,j⟩:=getq d
   have t:=AU (word:=word) l k e (z code) j;have a1:=pt (word:=word) l (k+1) (z code)
   have Q:(cSs word (z code) (l.take k)).length+(cS word (z code+(cSs word (z code) (l.take k)).length) e).length<=(cSs word (z code) l).length:=by
    rw[t,j8]at a1;exact a1
   have L:(code++(cSs word (z code) (l.take k)).map Prod.fst).length=z code+(cSs word (z code) (l.take k)).length:=by rw[j8,j7]
   simp only[go_sem,f0,f1,f6,a,d,j,j7,me];refine cq (q k e j) b rfl m rfl (by rw[L];simp only[pr,j7];omega) ?_;intro U V p W X;rw[L]at p;simp only[go_sem,f0,f1,f6,a,o];refine ee (n-1) a7 ⟨k+1,a7,?_⟩;simp only[go_sem,f0,f1,f6,a,o];rw[t,A8,<-v7];exact p
  .have bs:k=z l:=a7
   subst bs;rw[I1]at b;simp only[go_sem,f0,f1,f6,a,d,j7];refine bY (λi=>decide (K<=i)) ?_;exact⟨rfl,b.fin J⟩
def Nh{slot size:Int}{c:Ex}{a el:List Stm}(Z:fv 176 [ipE c] (bJ 0 c))(G:fv 77 [slS a] (cn a)):
  fv 175 [ipS (.mk 5 slot size [c] a el)] (pr (.mk 5 slot size [c] a el)):=by
 intro K E B word code g ob H d m u v J hl;have V:=Prog.start (K2:=K+33) d u v J a7;have bk:(pr (.mk 5 slot size [c] a el) word (z code))=(iJ (z code) (cE (z code) 0 c) (λr=>cSs word r a)).map Prod.fst:=by simp only[pr,cS,B5,kh]
 have bd:z code+((cE (z code) 0 c).length+1+(cSs word (z code+(cE (z code) 0 c).length+1) a).length+1)<=1000000000:=by
  simp only[bk,iJ,j7,j8,l4,l5]at hl;omega
 refine hdF K Tryz.func175 rfl [] ?_;have U:=d.t;have X:=d.b;have hE:csD (.mk 5 slot size [c] a el)=[.int .i64 5,.int .i64 slot,.int .i64 size,.sl [cxD c],.sl (qS a),.sl (qS el)]:=by simp only[csD,zc]
 unfold ipS;rw[hE];simp only[go_sem,U,X,m,bq];refine cq Z V rfl m rfl (by simp only[bJ,j7];omega) ?_;intro g1 av p1 q1 r1;have j:(code++bJ 0 c word (z code)).length=z code+(cE (z code) 0 c).length:=by simp only[bJ,j8,j7]
 generalize hA:code++bJ 0 c word (z code)=A at *;simp only[go_sem];refine jx p1 rfl m rfl a7 ?_;intro g2 bo l W p2 o1 q2 r2;have o:z (A++[(⟨9,0,0,0⟩:Ins)])=z code+(cE (z code) 0 c).length+1:=by rw[j8,j];rfl
 simp only[go_sem];refine cq G p2 rfl m rfl ZM ?_;intro g3 b7 p q x;rw[o]at p;have o1:=o1.same (g':=g3) (Y:=b7) (q _ a7 a7) (q _ a7 a7) (x _ a7 a7) (x _ a7 a7);simp only[go_sem];refine cR [⟨8,z code,0,0⟩] p rfl m a7 a7 rfl rfl (by rw[j8,o];simp only[cn,j7,l4,l5];omega) ?_;intro g4 y k I L;have o1:=o1.same (g':=g4) (Y:=y) (I _ a7 a7) (I _ a7 a7) (L _ a7 a7 a7) (L _ a7 a7 a7)
 have k:Prog K (K+33+6) E B word (A++(⟨9,0,0,0⟩:Ins)::(cn a word (z code+(cE (z code) 0 c).length+1)++[(⟨8,z code,0,0⟩:Ins)])) g ob g4 y:=by
  have:=k;exact ys
 have f:(A++(⟨9,0,0,0⟩:Ins)::(cn a word (z code+(cE (z code) 0 c).length+1)++[(⟨8,z code,0,0⟩:Ins)])).length=z code+(cE (z code) 0 c).length+1+(cSs word (z code+(cE (z code) 0 c).length+1) a).length+1:=by
  simp only[j8,l4,l5,j,cn,j7];omega
 simp only[go_sem];refine ir k o1 rfl m rfl rfl (by rw[f];omega) ?_;intro b' Q r5;rw[f]at Q;simp only[go_sem];refine bY (λi=>decide (K<=i)) ?_;refine⟨rfl,?_⟩
 have e:code++pr (.mk 5 slot size [c] a el) word (z code)=A++(⟨9,((z code+(cE (z code) 0 c).length+1+(cSs word (z code+(cE (z code) 0 c).length+1) a).length+1:Nat):Int),0,0⟩:Ins)::(cn a word (z code+(cE (z code) 0 c).length+1)++[(⟨8,z code,0,0⟩:Ins)]):=by
  rw[bk,<-hA];simp only[bJ,cn,iJ,A8,s6,x7,v7,C6,A7]
 rw[e];exact Q.fin J
end
def Ro{w:Int}{ps:Sig}{fi:Nat}{fw:Bool}:∀(al:Nat)(s:Stm)(q:Int),nT s<=al->al<=100000000000->rS w ps fi fw q s->fv 139 [ipS s] (pr s):=by
 intro al
 induction al using Nat.strongRecOn with
 |ind al ih=>
 intro s q hN b6 V;obtain⟨kind,slot,size,e,th,el⟩:=s;have az:nT (.mk kind slot size e th el)=ji e+fq th+fq el:=rfl;rw[rS]at V;obtain⟨an,b8,ca,X⟩:=V;have G:fv 77 [slS th] (cn th):=wc a7 λk s hs=>ih (nT s) ZC s (q+1) (l8 _) ZC (uP ca hs);have a6:fv 77 [slS el] (cn el):=wc a7 λk s hs=>ih (nT s) ZC s (q+1) (l8 _) ZC (uP X hs);have b3:∀(k:Nat)(x:Ex)(d:Int),e[k]?=S x->fv 176 [ipE x] (bJ d x):=λk x d I=>RJ (mR x) x (q+1) d (l8 _) (by have:=mV I;omega) (rU b8 I);have hE:csD (.mk kind slot size e th el)=[.int .i64 kind,.int .i64 slot,.int .i64 size,.sl (e.map cxD),.sl (qS th),.sl (qS el)]:=by simp only[csD,po]
 intro K E B word code g ob H ht m u v J hl;have hp:=Prog.start (K2:=K+120) ht u v J a7;refine hdF K Tryz.func139 rfl [] ?_;unfold ipS;rw[hE];by_cases h5:kind=5
 .subst h5
  have hn:z e=1:=by
   obtain⟨_,_,_,_,_,h⟩:=an;rcases h with⟨h,_⟩|⟨h,_⟩|⟨_,h⟩|⟨h,_⟩|⟨h,_⟩<;>omega
  obtain⟨c,rfl⟩:∃c,e=[c]:=by
   match e,hn with
   |[c],_=>exact⟨c,rfl⟩
  simp only[go_sem];refine cq (Nh (slot:=slot) (size:=size) (el:=el) (b3 0 c 0 rfl) G) hp rfl m (by unfold ipS;rw[hE];rfl) hl ?_;exact w5
 .generalize a:(if kind=4 then ifC (z code+(cEs (z code) 0 e).length) (λr=>cSs word r th) (!el.isEmpty) (λr=>cSs word r el)else ri word kind slot size (z e))=rest
  have bk:pr (.mk kind slot size e th el) word (z code)=(cEs (z code) 0 e).map Prod.fst++rest.map Prod.fst:=by
   simp only[pr,cS,j9 h5,A8,a]
  have bd:z code+(cEs (z code) 0 e).length+z rest<=1000000000:=by
   simp only[bk,j7,j8]at hl;omega
  simp only[go_sem,h5,j7]
  refine eI (λn s=>∃k:Nat,n+k=z e/\s.f 0=aj E H 0/\s.f 1=.one (.d (.iptr [.int .i64 kind,.int .i64 slot,.int .i64 size,.sl (e.map cxD),.sl (qS th),.sl (qS el)]))/\s.f 19=ae (z e)/\s.f 20=ae k/\
   Prog K (K+120) E B word (code++(cEs (z code) 0 (e.take k)).map Prod.fst) g ob s.gen s.obj) (z e) ?_ ?_
  .refine⟨0,rfl,?_⟩
   rw[M1,cEs,x7,s9];simp only[go_sem];exact hp
  .rintro n f g1 av ⟨k,hk,f0,f1,b,p,p1⟩
   simp only at f0 f1 b p p1;have b5:z e<=ji e:=by rw[nz];omega
   have hw:=ah (k:=k) a7;by_cases af:k<z e
   .obtain⟨x,I⟩:=getq af
    have t:=wh e k x (z code) 0 I;have a1:=tr e (k+1) (z code) 0
    have cd:(cEs (z code) 0 (e.take k)).length+(cE (z code+(cEs (z code) 0 (e.take k)).length) (0+k) x).length<=(cEs (z code) 0 e).length:=by
     rw[t,j8]at a1;exact a1
    have L:(code++(cEs (z code) 0 (e.take k)).map Prod.fst).length=z code+(cEs (z code) 0 (e.take k)).length:=by rw[j8,j7]
    simp only[go_sem,f0,f1,b,p,af,I,j7,bq];refine cq (b3 k x (0+k) I) p1 rfl m rfl (by rw[L];simp only[bJ,j7];omega) ?_;intro g2 bo p2 q2 r2;rw[L]at p2;simp only[go_sem,f0,f1,b,p,hw];refine ee (n-1) a7 ⟨k+1,a7,?_⟩;simp only[go_sem,f0,f1,b,p,hw];rw[t,A8,<-v7];exact p2
   .have bs:k=z e:=a7
    subst bs;rw[I1]at p1;have j:(code++(cEs (z code) 0 e).map Prod.fst).length=z code+(cEs (z code) 0 e).length:=by rw[j8,j7]
    have bl:∀g' Y K2,Prog K K2 E B word (code++(cEs (z code) 0 e).map Prod.fst++rest.map Prod.fst) g ob g' Y->Bj K E B word (code++pr (.mk kind slot size e th el) word (z code)) g ob g' (λi=>if decide (K<=i)=T then N else Y i):=by
     intro g' Y K2 Z;have:code++pr (.mk kind slot size e th el) word (z code)=code++(cEs (z code) 0 e).map Prod.fst++rest.map Prod.fst:=by rw[bk,v7]
     rw[this];exact Z.fin J
    generalize code++(cEs (z code) 0 e).map Prod.fst=A at *
    have hk:kind=1\/kind=2\/kind=3\/kind=6\/kind=7\/kind=4:=by
     obtain⟨_,_,_,_,_,h⟩:=an;rcases h with⟨h,_⟩|⟨h,_⟩|⟨h|h|h,_⟩|⟨h,_⟩|⟨h,_⟩<;>omega
    rcases hk with rfl|rfl|rfl|rfl|rfl|rfl
    .obtain rfl:[(⟨3,slot,0,0⟩,(z e:Int))]=rest:=a
     have bd:z A+1<=1000000000:=by rw[j];exact bd
     simp only[go_sem,f0,f1,b,p,af,j7];refine cR [⟨3,slot,0,0⟩] p1 rfl m a7 a7 rfl rfl bd ?_;exact k0
    .obtain rfl:[(⟨5,slot,size,0⟩,(z e:Int))]=rest:=a
     have bd:z A+1<=1000000000:=by rw[j];exact bd
     simp only[go_sem,f0,f1,b,p,af,j7];refine ie aO mixed [K+58] [([0],[0],[],F),([1],[],[],F),([49],[],[],F),([50],[],[],F),([51],[],[],F),([1],[],[],F),([53],[],[],F),([54],[],[],F),([55],[],[],F),([52,56],[],[],F),([57],[],[0],F),([48,58],[],[],T)] 1 c9 rfl a8 ?_;simp only[go_sem]
     iterate 10 (apply aT;· (intro fa ga oa K' J;simp only[go_sem,f0,f1]at J|-;exact J))
     (apply db;· (intro fa ga oa K' J;simp only[go_sem,f0,f1]at J|-;exact J))
     apply di;intro K' a';simp only[go_sem];refine cR [⟨5,slot,size,0⟩] p1 rfl m a7 a7 rfl rfl bd ?_;intro g2 bo p2 q2 r2;refine a' _ ?_;simp only[go_sem];refine bY (λi=>decide (K<=i)) ?_;exact⟨rfl,bl _ _ _ p2⟩
    .obtain rfl:[(⟨13,0,0,0⟩,(z e:Int))]=rest:=a
     have bd:z A+1<=1000000000:=by rw[j];exact bd
     simp only[go_sem,f0,f1,b,p,af,j7];refine cR [⟨13,0,0,0⟩] p1 rfl m a7 a7 rfl rfl bd ?_;exact k0
    .obtain rfl:[(⟨10,slot,0,0⟩,(z e:Int))]=rest:=a
     have bd:z A+1<=1000000000:=by rw[j];exact bd
     simp only[go_sem,f0,f1,b,p,af,j7];refine cR [⟨10,slot,0,0⟩] p1 rfl m a7 a7 rfl rfl bd ?_;exact k0
    .by_cases hz:0<z e
     .obtain rfl:[(⟨11,0,0,0⟩,(z e:Int))]=rest:=by
       rw[<-a];unfold ri;simp only[show ¬((7:Int)=4) by decide,show ¬((7:Int)=1) by decide,show ¬((7:Int)=2) by decide,show ¬((7:Int)=3) by decide,show ¬((7:Int)=6) by decide,B1,B5];rw[j9 a7]
      have bd:z A+1<=1000000000:=by rw[j];exact bd
      simp only[go_sem,f0,f1,b,p,af,j7,Int.natCast_pos,hz];refine cR [⟨11,0,0,0⟩] p1 rfl m a7 a7 rfl rfl bd ?_;exact k0
     .obtain rfl:leave word=rest:=by
       rw[<-a];unfold ri;simp only[show ¬((7:Int)=4) by decide,show ¬((7:Int)=1) by decide,show ¬((7:Int)=2) by decide,show ¬((7:Int)=3) by decide,show ¬((7:Int)=6) by decide,B1,B5];rw[l9 a7]
      have bd:z A+z (leave word)<=1000000000:=by rw[j];exact bd
      simp only[go_sem,f0,f1,b,p,af,j7,Int.natCast_pos,hz];refine cq EV p1 rfl m rfl (by simpa using bd) ?_;exact k0
    .simp only[B5]at a
     cases U:el with
     |nil=>
       subst U
       obtain rfl:(⟨9,(z A+1+(cSs word (z A+1) th).length:Nat),0,0⟩,1)::cSs word (z A+1) th=rest:=by
        rw[<-a,<-j];rfl
       have bd:z A+(1+(cSs word (z A+1) th).length)<=1000000000:=by
        rw[l4,<-j]at bd;omega
       have o:z (A++[(⟨9,0,0,0⟩:Ins)])=z A+1:=by rw[j8];rfl
       simp only[go_sem,f0,f1,b,p,af,j7];refine jx p1 rfl m rfl a7 ?_;intro g2 bo l W p2 o1 q2 r2;simp only[go_sem,f0,f1];refine cq G p2 rfl m rfl ZM ?_;intro g3 b7 p3 q3 r3;rw[o]at p3
       have p3:Prog K (K+120+6) E B word (A++(⟨9,0,0,0⟩:Ins)::cn th word (z A+1)) g ob g3 b7:=by
        have:=p3;exact ys
       have o1:=o1.same (g':=g3) (Y:=b7) (q3 _ a7 a7) (q3 _ a7 a7) (r3 _ a7 a7) (r3 _ a7 a7);simp only[go_sem,f1,qS,l5];refine ir p3 o1 rfl m rfl rfl (by simp only[j8,l4,cn,j7,l5];omega) ?_;intro bf p4 r4;simp only[go_sem];refine jq (λi=>decide (K<=i)) ?_;refine⟨rfl,bl _ _ (K+120+6) ?_⟩
       have e1:(A++(⟨9,0,0,0⟩:Ins)::cn th word (z A+1)).length=z A+1+(cSs word (z A+1) th).length:=by
        simp only[j8,l4,cn,j7,l5];omega
       rw[e1]at p4;exact p4
     |cons y Q=>
       rw[<-U];have b4:el.isEmpty=F:=by rw[U];rfl
       have bz:0<z el:=by rw[U];simp
       have bn:¬(z el:Int)=0:=a7
       obtain rfl:(⟨9,(z A+1+(cSs word (z A+1) th).length+1:Nat),0,0⟩,1)::(cSs word (z A+1) th++(⟨8,(z A+1+(cSs word (z A+1) th).length+1+(cSs word (z A+1+(cSs word (z A+1) th).length+1) el).length:Nat),0,0⟩,0)::cSs word (z A+1+(cSs word (z A+1) th).length+1) el)=rest:=by
        rw[<-a,<-j,b4];rfl
       have bd:z A+(1+(cSs word (z A+1) th).length+1+(cSs word (z A+1+(cSs word (z A+1) th).length+1) el).length)<=1000000000:=by
        simp only[l4,j8,<-j]at bd;omega
       have o:z (A++[(⟨9,0,0,0⟩:Ins)])=z A+1:=by rw[j8];rfl
       simp only[go_sem,f0,f1,b,p,af,j7];refine jx p1 rfl m rfl a7 ?_;intro g2 bo l W p2 o1 q2 r2;simp only[go_sem,f0,f1];refine cq G p2 rfl m rfl ZM ?_;intro g3 b7 p3 q3 r3;rw[o]at p3;have o1:=o1.same (g':=g3) (Y:=b7) (q3 _ a7 a7) (q3 _ a7 a7) (r3 _ a7 a7) (r3 _ a7 a7);have e3:(A++[(⟨9,0,0,0⟩:Ins)]++cn th word (z A+1)).length=z A+1+(cSs word (z A+1) th).length:=by rw[j8,o];simp only[cn,j7]
       simp only[go_sem,f0,f1,Jr,bn];refine jx p3 rfl m rfl a7 ?_;intro g4 bf b0 b1 p4 o2 q4 r4;have o1:=o1.same (g':=g4) (Y:=bf) (q4 _ a7 a7) (q4 _ a7 a7) (r4 _ a7 a7 a7) (r4 _ a7 a7 a7)
       have p4:Prog K (K+120+6+6) E B word (A++(⟨9,0,0,0⟩:Ins)::(cn th word (z A+1)++[(⟨8,0,0,0⟩:Ins)])) g ob g4 bf:=by
        have:=p4;exact ys
       have O:(A++(⟨9,0,0,0⟩:Ins)::(cn th word (z A+1)++[(⟨8,0,0,0⟩:Ins)])).length=z A+1+(cSs word (z A+1) th).length+1:=by
        simp only[j8,l4,l5,cn,j7];omega
       simp only[go_sem];refine ir p4 o1 rfl m rfl rfl (by rw[O];omega) ?_;intro b' p5 r5;rw[O]at p5;have o2:=o2.same (g':=g4) (Y:=b') rfl rfl (r5 _ a7) (r5 _ a7)
       have ad:(A++(⟨9,((z A+1+(cSs word (z A+1) th).length+1:Nat):Int),0,0⟩:Ins)::(cn th word (z A+1)++[(⟨8,0,0,0⟩:Ins)])).length=z A+1+(cSs word (z A+1) th).length+1:=by
        simp only[j8,l4,l5,cn,j7];omega
       simp only[go_sem,f0,f1];refine cq a6 p5 rfl m rfl (by rw[ad];simp only[cn,j7];omega) ?_;intro g6 P p6 q6 r6;rw[ad]at p6;have o2:=o2.same (g':=g6) (Y:=P) (q6 _ a7 a7) (q6 _ a7 a7) (r6 _ a7 a7) (r6 _ a7 a7)
       have p6:Prog K (K+120+6+6) E B word ((A++(⟨9,((z A+1+(cSs word (z A+1) th).length+1:Nat):Int),0,0⟩:Ins)::cn th word (z A+1))++(⟨8,0,0,0⟩:Ins)::cn el word (z A+1+(cSs word (z A+1) th).length+1)) g ob g6 P:=by
        have:=p6;exact ys
       have cb:(A++(⟨9,((z A+1+(cSs word (z A+1) th).length+1:Nat):Int),0,0⟩:Ins)::cn th word (z A+1)).length=(A++[(⟨9,0,0,0⟩:Ins)]++cn th word (z A+1)).length:=a8
       have b2:((A++(⟨9,((z A+1+(cSs word (z A+1) th).length+1:Nat):Int),0,0⟩:Ins)::cn th word (z A+1))++(⟨8,0,0,0⟩:Ins)::cn el word (z A+1+(cSs word (z A+1) th).length+1)).length=z A+1+(cSs word (z A+1) th).length+1+(cSs word (z A+1+(cSs word (z A+1) th).length+1) el).length:=by
        simp only[j8,l4,l5,cn,j7];omega
       rw[<-cb]at o2;simp only[go_sem];refine ir p6 o2 rfl m rfl rfl (by rw[b2];omega) ?_;intro ar p7 r7;rw[b2]at p7;simp only[go_sem];refine bY (λi=>decide (K<=i)) ?_;refine⟨rfl,bl _ _ (K+120+6+6) ?_⟩
       have e1:A++List.map Prod.fst (((⟨9,((z A+1+(cSs word (z A+1) th).length+1:Nat):Int),0,0⟩:Ins),(1:Int))::(cSs word (z A+1) th++(⟨8,((z A+1+(cSs word (z A+1) th).length+1+(cSs word (z A+1+(cSs word (z A+1) th).length+1) el).length:Nat):Int),0,0⟩,0)::cSs word (z A+1+(cSs word (z A+1) th).length+1) el)) =
         (A++(⟨9,((z A+1+(cSs word (z A+1) th).length+1:Nat):Int),0,0⟩:Ins)::cn th word (z A+1))++(⟨8,((z A+1+(cSs word (z A+1) th).length+1+(cSs word (z A+1+(cSs word (z A+1) th).length+1) el).length:Nat):Int),0,0⟩:Ins)::cn el word (z A+1+(cSs word (z A+1) th).length+1):=by
        simp only[cn,A8,s6,v7,C6]
       rw[e1];exact p7
section
def xU(fs:List Src.CFn):Nat:=(fs.map λx=>fq x.body).sum
def rP(fs:List Src.CFn)(k:Nat):Nat:=xU (fs.take k)
def Dc(fs:List Src.CFn)(k:Nat):rP fs k<=xU fs:=by
 conv=>rhs;rw[<-H7 k fs]
 simp only[rP,xU,A8,M4];omega
variable{w:Int}{ps:Sig}{fs:List Src.CFn}{x:Src.CFn}
def zd{k:Nat}(h:fs[k]?=S x):rP fs (k+1)=rP fs k+fq x.body:=by
 simp only[rP,xU,D2,h,Ln,A8,M4,s6,x7,D8,SY];omega
def bU(x:Ins):List D:=[.int .i64 x.op,.int .i64 x.a,.int .i64 x.b,.int .u32 x.n]
abbrev uH(l:Lower.Code):D:=.sl ((l.map Prod.fst).map bU)
def Ni{fi:Nat}{a:Bool}{l:List Stm}{q:Int}(c:fq l<=100000000000)(V:rSs w ps fi a q l):fv 77 [slS l] (cn l):=
 wc a7 λk s hs=>Ro (nT s) s q (l8 _) ZC (uP V hs)
def Rp{fi:Nat}{n:Bool}(V:rSs w ps fi n 1 x.body)(q:fq x.body<=100000000000)(hl:z (codeOf x.word x.body)<=1000000000):
  aJ Tryz.prog 49 [.agg ((cfD x).map .d)] (·=.one (.d (uH (codeOf x.word x.body)))):=by
 refine hdP Tryz.func49 rfl [2] λg=>?_;have r:z (cSs x.word 0 x.body)+z (leave x.word)<=1000000000:=by rw[codeOf,j8]at hl;exact hl
 simp only[go_sem,cfD,j7];refine DU _ (eP (t:=3) (o:=3) (b:=20) (j:=1) (sz:=4) (off:=0) rfl rfl rfl b9) ?_;simp only[St.claimAt]
 have u:Prog 21 21 3 20 x.word [] (upd (upd (upd g 1 (nxC 108 (g 1))) 3 (nxC 165 (g 3))) 20 (g 20+1)) _ _ _:=Prog.start (ob:=upd (upd (upd (upd (upd (λ_=>N) 1 (S [ag x.p,ag x.slots,ag x.first,bE x.word,aq (x.body.map csD)])) 3 (S [bE F,.d .nsl])) 3 (S [bE x.word,.d .nsl])) 3 (S [bE x.word,.osl 20 (g 20+1) 4 0 0])) 20 (S []))
  ⟨by simp[upd],by simp[upd,GC],b9⟩ b9 b9 (λi hi=>by simp only[upd];rw[j9 a7,j9 a7,j9 a7,j9 a7,j9 a7]) (l8 _)
 refine cq (Ni q V) u rfl (H:=nxC 165 (g 3)) XL (by simp only[slS,pq];rfl) (by simp only[cn,j7,l5,C5];omega) ?_;intro J av v A K;have L:([]++cn x.body x.word (z ([]:List Ins))).length=z (cSs x.word 0 x.body):=by simp only[cn,A7,j7,l5]
 simp only[go_sem];refine cq EV v rfl XL rfl (by rw[L,j7];exact r) ?_;intro E bo k G O;have e:[]++cn x.body x.word (z ([]:List Ins))++(leave x.word).map Prod.fst=(codeOf x.word x.body).map Prod.fst:=by simp only[cn,codeOf,A7,A8,l5]
 rw[e]at k;have I:E 3=nxC 165 (g 3):=by rw[G 3 b9 b9,A 3 b9 b9];simp[upd]
 simp only[go_sem,k.tape.t,I];refine⟨_,⟨_,eu (s:=⟨_,_,_⟩) rfl ((codeOf x.word x.body).map Prod.fst) bU k.tape.b j4 (λa _ y l=>?_) (λ_ _=>rfl) (j7 _),rfl⟩,rfl⟩;simp only[bU,A0,B3,F2]at l;rcases l with rfl|rfl|rfl|rfl<;>rfl
def sfD(x:Src.CFn):List D:=[.int .i64 x.p,.int .i64 x.slots,.int .i64 x.first,.bool x.word,uH (codeOf x.word x.body)]
def jK(w:Int)(fs:List Src.CFn):AV:=.agg [ag w,aq (fs.map sfD)]
def Nj(x:Src.CFn):z (sfD x)=5:=rfl
def PU(fs:List Src.CFn):Prop:=∀x∈fs,z (codeOf x.word x.body)<=1000000000
def Rq(X:xU fs<=100000000000)(hF:z fs<=1000000)(p:PU fs)(V:∀(k:Nat)(x:Src.CFn),fs[k]?=S x->rSs w ps k x.word 1 x.body):aJ Tryz.prog 22 [qz ⟨w,fs⟩] (·=jK w fs):=by
 refine hdR Tryz.func22 rfl [.cell 2 69] λg=>?_;unfold qz;simp only[go_sem,j7]
 refine zL _ (eP (t:=3) (o:=3) (b:=30) (j:=1) (sz:=5) (off:=0) rfl rfl rfl b9) (λn s=>∃k:Nat,n+k=z fs/\s.f 2=aj 2 (s.gen 2) 0/\s.f 3=aj 3 (s.gen 3) 0/\s.f 10=.one (aq (fs.map cfD))/\s.f 11=ae (z fs)/\s.f 12=ae k/\s.obj 2=S [ag 0,.d .nsl]/\s.obj 3=S [ag w,.osl 30 (s.gen 30) 5 0 k]/\
  s.obj 30=S ((fs.take k).flatMap λx=>(sfD x).map .d)) (z fs) ?_ ?_
 .refine⟨0,rfl,?_⟩
  simp only[St.claimAt];simp only[go_sem,List.flatMap_nil]
  try rfl
 .clear g
  rintro n f g ob ⟨k,hk,v,q,e,A,h,E,B,m⟩;simp only at v q e A h E B m;have L:=ah (k:=k) a7
  have O:∀l:List Src.CFn,z (l.flatMap λx=>(sfD x).map C.d)=z l*5:=by
   intro l
   induction l with
   |nil=>rfl
   |cons a l U=>simp only[G8,j8,U,j7,Nj,l4];omega
  by_cases K:k<z fs
  .obtain⟨x,I⟩:=getq K
   have r:fq x.body<=100000000000:=by
    have h2:=zd I;have h3:=Dc fs (k+1);omega
   have Y:z (fs.take k)=k:=by rw[D3];omega
   simp only[go_sem,v,q,e,A,h,E,B,m,K,I,j7,cfD];refine ie aO mixed [29,30,3] [([3],[0],[],F),([16],[0],[],F),([5],[],[],F),([18],[],[],F),([5],[],[],F),([20],[],[],F),([5],[],[],F),([22],[],[],F),([5],[],[],F),([24],[],[],F),([5],[],[],F),([26],[],[],F),([19,21,23,25,27],[],[],F),([28],[],[0],F),([17,29],[],[1],F),([3],[],[],F),([31,30],[],[],T)] 3 c9 rfl b9 ?_;simp only[go_sem]
   iterate 11 (apply aT;· (intro G ga H u J;simp only[go_sem,q,B,setAt]at J|-;exact J))
   apply aT
   .intro G ga H u J
    simp only[go_sem]at J|-;refine xr rfl (Rp (V k x I) r (p x (l7 I))) j4 ?_;exact S3
   (apply aT;· (intro G ga H u J;simp only[go_sem,q,B]at J|-;exact J))
   (apply db;· (intro G ga H u J;simp only[go_sem,q,B]at J|-;exact J))
   apply db
   .intro G ga H u J
    simp only[go_sem,m,O,Y]at J|-;refine⟨?_,?_,J⟩
    .omega
    .exact⟨b9,a7⟩
   (apply aT;· (intro G ga H u J;simp only[go_sem,q,B]at J|-;exact J))
   apply di;intro u W;simp only[go_sem,q,B];refine W _ ?_;simp only[go_sem,v,q,e,A,h,E,L];refine ee (n-1) a7 ⟨k+1,a7,?_⟩;simp only[go_sem,v,q,e,A,h,E,L];rw[D2,I,P0,s7 (by rw[O,Y];exact l8 _)];rfl
  .have bs:k=z fs:=a7
   subst bs;simp only[go_sem,v,q,e,A,h,E,B,K,j7];rw[I1]at m;refine⟨_,⟨[.int .i64 w,.sl (fs.map sfD)],rfl,λi c Z=>?_,rfl⟩,rfl⟩
   match i,Z with
   |0,Z=>cases Z;exact⟨_,rfl,.d _⟩
   |1,Z=>
     cases Z;refine⟨_,rfl,eu (s:=⟨_,_,_⟩) rfl fs sfD ?_ rfl (λa _ y Q=>?_) (λ_ _=>rfl) rfl⟩
     .simp only[upd];exact m
     .simp only[sfD,A0,B3,F2]at Q
      rcases Q with rfl|rfl|rfl|rfl|rfl<;>rfl
end
end
end Go.Proofs.YtlacbjnmkhndiaaGreatDoor.Low
namespace Go.Src
section
open Go.Asm (Str)
open Go.Lower (Sig within callee rE rEs rS rSs)
section
def sigs(fs:List Fn):Sig:=fs.map λf=>((z f.p:Int),f.word)
structure qm (fs:List Fn) (W:Int) (k:Nat) (g:Str->Option (Nat×Nat)) (pl:Str->Int×Int):Prop where
 no:pl []=(0,0)
 var:∀s kd n,g s=some (kd,n)->kd=1\/kd=2->within W (pl s).1 1/\(pl s).2=0
 arr:∀s n,g s=some (3,n)->1<=(pl s).2/\(pl s).2<=4096/\within W (pl s).1 (pl s).2
 fn:∀s n,g s=some (4,n)->n<k->(pl s).1=n/\(pl s).2=0/\∃f,fs[n]?=some f/\bW fs s=some f
section
variable{fs:List Fn}{W:Int}{k:Nat}{o i:Pl}{g:Str->Option (Nat×Nat)}
def wL:∀l:List Ex,z (bm o i l)=z l:=λl=>by rw[lS,j7]
def wN:∀l:List Stm,z (bP o i l)=z l:=λl=>by rw[lT,j7]
def mO(H:qm fs W k g (ct o i)){name:Str}{args:Nat}{w:Bool}(U:bb g k 4 name=T)(a:eV g fs k 4 name args=T)(b:fM fs name=w):callee (sigs fs) k (ct o i name).1 args w/\(ct o i name).2=0:=by
 unfold bb at U;cases c:g name with
 |none=>rw[c]at U;cases U
 |some t=>
   obtain⟨l,n⟩:=t;rw[c]at U;simp only[show ¬(4:Nat)=2 by decide,show ¬(4:Nat)=3 by decide,B1,s5,I7,B4]at U;obtain⟨rfl,d⟩:=U;obtain⟨e,h,f,E,j⟩:=H.fn name n c d;unfold eV at a;rw[c]at a;simp[d,E]at a;unfold fM at b;rw[j]at b;simp only at b;refine⟨⟨n,e,d,?_⟩,h⟩;unfold sigs;rw[w9,E,A3,a,b]
mutual
theorem BQ(H:qm fs W k g (ct o i)):∀(e:Ex)(q:Nat),fL q e=T->okE (λa b _=>bb g k a b) e=T->okE (λa b c=>eV g fs k a b c) e=T->dm fs e≠0->rE W (sigs fs) k q (dK o i e)
 |.mk kind op num name kids,q,U,y,A,l=>by
   rw[fL]at U;rw[okE]at y A;rw[dm]at l;simp only[s5,B4]at U y A;obtain⟨j,d,x⟩:=U;rw[dK,rE];have f:(q:Int)<=24:=a7;have bd:=wL (o:=o) (i:=i) kids;unfold Lower.okE;rw[bd];have B:kids=[]->rEs W (sigs fs) k (q+1) (bm o i kids):=λe=>by rw[e,bm,rEs];trivial
   have r:∀t,cI fs t kids=T->t≠0->rEs W (sigs fs) k (q+1) (bm o i kids):=λt I V=>by
    have:=nN H kids (q+1) t x y.2 A.2 I V;exact Vt
   have u:name=[]->ct o i name=(0,0):=λe=>by rw[e];exact H.no
   unfold bS ay at d;by_cases k1:kind=1
   .subst k1
    simp at d;obtain⟨⟨ho,p⟩,hl⟩:=d;have s:kids=[]:=by first|exact hl|exact Hk.1 hl
    rw[u p];exact⟨⟨f,.inl rfl,.inr ho,.inr rfl,.inr (.inr (.inr rfl)),.inl ⟨.inl rfl,by rw[s];rfl⟩⟩,B s⟩
   by_cases J:kind=2
   .subst J
    simp at d;obtain⟨⟨⟨ho,w⟩,p⟩,hl⟩:=d;have s:kids=[]:=by first|exact hl|exact Hk.1 hl
    have m:=y.1;simp only[B5]at m;unfold bb at m;cases v:g name with
    |none=>rw[v]at m;cases m
    |some t=>
      obtain⟨O,n⟩:=t;rw[v]at m;simp at m;obtain⟨X,Z⟩:=H.var name O n v m;exact⟨⟨f,.inr w,.inr ho,.inr Z,.inl rfl,.inr (.inl ⟨rfl,X,by rw[s];rfl⟩)⟩,B s⟩
   by_cases K:kind=5
   .subst K
    simp at d;obtain⟨⟨⟨ho,w⟩,p⟩,hl⟩:=d;have s:kids=[]:=by first|exact hl|exact Hk.1 hl
    rw[u p];exact⟨⟨f,.inr w,.inr ho,.inr rfl,.inr (.inr (.inr rfl)),.inl ⟨.inr rfl,by rw[s];rfl⟩⟩,B s⟩
   by_cases E:kind=3
   .subst E
    simp at d;obtain⟨⟨⟨ho,w⟩,p⟩,hl⟩:=d;have m:=y.1;simp at m;unfold bb at m;simp at l;cases v:g name with
    |none=>rw[v]at m;cases m
    |some t=>
      obtain⟨O,n⟩:=t;rw[v]at m;simp at m;subst m;obtain⟨a1,a2,a3⟩:=H.arr name n v;exact⟨⟨f,.inr w,.inr ho,.inl rfl,.inr (.inl rfl),.inr (.inr (.inl ⟨rfl,a1,a2,a3,hl⟩))⟩,r 1 l b9⟩
   by_cases G:kind=4
   .subst G
    simp at d;obtain⟨⟨⟨ho,w⟩,p⟩,hl⟩:=d;have m:=y.1;have Q:=A.1;simp at m Q l;obtain⟨c1,c2⟩:=mO H m Q l.1;exact⟨⟨f,.inr w,.inr ho,.inr c2,.inr (.inr (.inl rfl)),.inr (.inr (.inr (.inl ⟨rfl,c1⟩)))⟩,r 1 l.2 b9⟩
   by_cases P:kind=6
   .subst P
    simp at d;obtain⟨⟨⟨ho,w⟩,p⟩,hl⟩:=d;simp at l;rw[u p];exact⟨⟨f,.inr w,.inl rfl,.inr rfl,.inr (.inr (.inr rfl)),.inr (.inr (.inr (.inr (.inl ⟨rfl,ho.1,ho.2,hl⟩))))⟩,r 1 l.1 b9⟩
   by_cases Y:kind=7
   .subst Y
    simp at d;obtain⟨⟨⟨ho,w⟩,p⟩,hl⟩:=d;simp at l;rw[u p];exact⟨⟨f,.inr w,.inr ho,.inr rfl,.inr (.inr (.inr rfl)),.inr (.inr (.inr (.inr (.inr (.inl ⟨rfl,hl⟩)))))⟩,r 2 l b9⟩
   by_cases L:kind=8\/kind=9
   .simp[k1,J,E,G,K,P,Y,L]at d
    obtain⟨⟨⟨ho,w⟩,p⟩,hl⟩:=d
    have I:cI fs 2 kids=T:=by
     rw[j9 a7,j9 a7,j9 E,j9 G,j9 P]at l;simpa using l
    rw[u p];exact⟨⟨f,.inr w,.inr ho,.inr rfl,.inr (.inr (.inr rfl)),.inr (.inr (.inr (.inr (.inr (.inr ⟨L,hl⟩)))))⟩,r 2 I b9⟩
   .simp[k1,J,E,G,K,P,Y,L]at d
theorem nN(H:qm fs W k g (ct o i)):∀(l:List Ex)(q:Nat)(t:Int),bA q l=T->cL (λa b _=>bb g k a b) l=T->cL (λa b c=>eV g fs k a b c) l=T->cI fs t l=T->t≠0->rEs W (sigs fs) k q (bm o i l)
 |[],q,t,_,_,_,_,_=>by rw[bm,rEs];trivial
 |e::l,q,t,U,d,f,h,j=>by
   rw[bA,s5]at U;rw[cL,s5]at d f;rw[cI,s5,B4]at h;rw[bm,rEs];exact⟨BQ H e q U.1 d.1 f.1 (by rw[h.1];exact j),nN H l q t U.2 d.2 f.2 h.2 j⟩
end
mutual
theorem BS{w:Bool}(H:qm fs W k g (ct o i)):∀(s:Stm)(q:Nat),fy q s=T->okS (λa b _=>bb g k a b) s=T->okS (λa b c=>eV g fs k a b c) s=T->gQ fs w s=T->rS W (sigs fs) k w q (coreS o i s)
 |.mk kind name e E el,q,U,p,y,A=>by
   rw[fy]at U;rw[okS]at p y;rw[gQ]at A;simp only[s5,B4]at U p y A;obtain⟨⟨j,d,x⟩,G,a6⟩:=U;obtain⟨⟨⟨I,B⟩,bs⟩,r,b2⟩:=A;rw[coreS,rS];have f:(q:Int)<=24:=a7;unfold Lower.okS;rw[wL,wN,wN]
   have r1:rEs W (sigs fs) k (q+1) (bm o i e):=by
    have:=nN H e (q+1) _ x p.1.1.2 y.1.1.2 bs (by split<;>decide);exact Vt
   have r2:rSs W (sigs fs) k w (q+1) (bP o i E):=by
    have:=lh H E (q+1) G p.1.2 y.1.2 r;exact Vt
   have r3:rSs W (sigs fs) k w (q+1) (bP o i el):=by
    have:=lh H el (q+1) a6 p.2 y.2 b2;exact Vt
   refine⟨?_,r1,r2,r3⟩;have u:name=[]->ct o i name=(0,0):=λe=>by rw[e];exact H.no
   have l:bb g k 2 name=T->within W (ct o i name).1 1/\(ct o i name).2=0:=λh=>by
    unfold bb at h;cases v:g name with
    |none=>rw[v]at h;cases h
    |some t=>
      obtain⟨J,n⟩:=t;rw[v]at h;simp at h;exact H.var name J n v h
   unfold cN ay at d;by_cases K:kind=1
   .subst K
    simp at d;have m:=p.1.1.1;simp at m;obtain⟨w1,w2⟩:=l m;exact⟨f,.inr w2,.inl rfl,.inr YJ,.inr (.inr YK),.inl ⟨rfl,w1,d.2.1⟩⟩
   by_cases L:kind=2
   .subst L
    simp at d;have m:=p.1.1.1;simp at m;unfold bb at m;cases v:g name with
    |none=>rw[v]at m;cases m
    |some t=>
      obtain⟨J,n⟩:=t;rw[v]at m;simp at m;subst m;obtain⟨a1,a2,a3⟩:=H.arr name n v;exact⟨f,.inl rfl,.inr (.inl rfl),.inr YJ,.inr (.inr YK),.inr (.inl ⟨rfl,a1,a2,a3,d.2.1⟩)⟩
   by_cases O:kind=3
   .subst O
    simp at d;rw[u d.1];exact⟨f,.inr rfl,.inr (.inr (.inr rfl)),.inr YJ,.inr (.inr YK),.inr (.inr (.inl ⟨.inl rfl,d.2.1⟩))⟩
   by_cases V:kind=4
   .subst V
    simp at d;rw[u d.1];exact⟨f,.inr rfl,.inr (.inr (.inr rfl)),.inl rfl,.inl rfl,.inr (.inr (.inl ⟨.inr (.inl rfl),d.2⟩))⟩
   by_cases X:kind=5
   .subst X
    simp at d;rw[u d.1];exact⟨f,.inr rfl,.inr (.inr (.inr rfl)),.inr (by first|exact d.2.2|(simp[d.2.2])),.inr (.inl rfl),.inr (.inr (.inl ⟨.inr (.inr rfl),d.2.1⟩))⟩
   by_cases P:kind=6
   .subst P
    simp at d;have m:=p.1.1.1;have Q:=y.1.1.1;simp at m Q I;obtain⟨d1,d2⟩:=mO H m Q I;exact⟨f,.inr d2,.inr (.inr (.inl rfl)),.inr YJ,.inr (.inr YK),.inr (.inr (.inr (.inl ⟨rfl,d1⟩)))⟩
   by_cases Y:kind=7
   .subst Y
    simp at d B;rw[u d.1];refine⟨f,.inr rfl,.inr (.inr (.inr rfl)),.inr YJ,.inr (.inr YK),.inr (.inr (.inr (.inr ⟨rfl,?_⟩)))⟩;by_cases h0:z e=0
    .exact .inl h0
    .have Z:0<z e:=a7
     exact .inr ⟨by first|exact B Z|exact B (N1.1 Z)|(simp_all),by omega⟩
   .simp[K,L,O,V,X,P,Y]at d
theorem lh{w:Bool}(H:qm fs W k g (ct o i)):∀(l:List Stm)(q:Nat),br q l=T->cW (λa b _=>bb g k a b) l=T->cW (λa b c=>eV g fs k a b c) l=T->aX fs w l=T->rSs W (sigs fs) k w q (bP o i l)
 |[],q,_,_,_,_=>by rw[bP,rSs];trivial
 |s::l,q,U,d,e,f=>by
   rw[br,s5]at U;rw[cW,s5]at d e;rw[aX,s5]at f;rw[bP,rSs];exact⟨BS H s q U.1 d.1 e.1 f.1,lh H l q U.2 d.2 e.2 f.2⟩
end
end
end
section
def mg{A β b:Type}(f:Nat->A->β)(g:β->b)(l:List A):(l.mapIdx f).map g=l.mapIdx λi a=>g (f i a):=by
 apply L0;intro i;rw[w9,J3,J3];cases l[i]?<;>rfl
def KE:∀(l:List Str)(m:Pl)(w:Int),gV l m w=((l.mapIdx λi n=>((n,w+(i:Int),0):Str×Int×Int)).reverse++m,w+z l)
 |[],m,w=>by simp[gV]
 |n::l,m,w=>by
   rw[gV,KE l,M0];simp only[OZ,v7,I9,l4,I3];refine⟨?_,by push_cast;omega⟩;congr 1
   .congr 1
    congr 1;funext i n;simp only[I3,M6,T8]
    push_cast;omega
   .simp
def KF:∀(l:List (Str×Int))(m:Pl)(w:Int),gA l m w=((l.mapIdx λi a=>((a.1,w+((l.take i).map (·.2)).sum,a.2):Str×Int×Int)).reverse++m,w+(l.map (·.2)).sum)
 |[],m,w=>by simp[gA]
 |n::l,m,w=>by
   rw[gA,KF l,M0];simp only[OZ,v7,I9,s6,D8,I3];refine⟨?_,a7⟩;congr 1
   .congr 1
    congr 1;funext i n;simp only[Hl,s6,D8,I3,M6,T8];omega
   .simp
def Qb:∀(l:List Fn)(j:Nat)(m:Pl),gF j l m=(l.mapIdx λi f=>((f.name,((j+i:Nat):Int),0):Str×Int×Int)).reverse++m
 |[],j,m=>by simp[gF]
 |n::l,j,m=>by
   rw[gF,Qb l,M0];simp only[OZ,v7,I9];congr 1
   .congr 1
    congr 1;funext i n;simp only[I3,M6,T8]
    push_cast;omega
def KG(w:Int):∀(l:List Str)(j:Nat)(m:Pl),lP w j l m=(l.mapIdx λi n=>((n,w+((j+i:Nat):Int),0):Str×Int×Int)).reverse++m
 |[],j,m=>by simp[lP]
 |n::l,j,m=>by
   rw[lP,KG w l,M0];simp only[OZ,v7,I9];congr 1
   .congr 1
    congr 1;funext i n;simp only[I3,M6,T8]
    push_cast;omega
def wJ(enc:Nat×Nat->Int×Int)(s:Str):∀(n:Nat)(E:List Th),z E=n->bD [] E=T->ki ((E.map λt=>(t.1,enc t.2)).reverse) s=(aH E s).map enc:=by
 intro n
 induction n with
 |zero=>intro E a _;rw[Hk.1 a];rfl
 |succ n d=>
   intro E a L;obtain⟨l,t,rfl⟩:∃l t,E=l++[t]:=⟨E.dropLast,E.getLast (by intro h;rw[h]at a;cases a),(N8 _).symm⟩
   rw[sk,s5]at L;have hl:z l=n:=by rw[j8]at a;simpa using a
   have c:aH l t.1=N:=by simpa using L.2
   rw[A8,R9,jA];simp only[s6,x7,OZ,List.reverse_nil,A7,I9,ki];by_cases b:t.1=s
   .rw[l9 b]
    rw[b]at c;rw[c];simp[aH,b]
   .rw[j9 b,d l hl L.1]
    cases aH l s with
    |some x=>rfl
    |none=>simp[aH,b]
def ff(p:Prog)(n:Nat):Int:=z p.v+((p.a.take n).map (·.2)).sum
def lf(p:Prog)(n:Nat):Int:=((p.a[n]?).map (·.2)).getD 0
def kH(p:Prog)(w:Int)(t:Nat×Nat):Int×Int:=if t.1=3 then(ff p t.2,lf p t.2)else if t.1=1 then(w+t.2,0)else((t.2:Int),0)
def wK(p:Prog)(w:Int):(au p).1=((aI p).map λt=>(t.1,kH p w t.2)).reverse:=by
 unfold au aI;simp only;rw[Qb,KF,KE];simp only[A8,R9,s9];congr 1
 .congr 1
  unfold thF;rw[mg];congr 1;funext i f;simp[kH]
 .congr 1
  .congr 1
   apply L0;intro i;unfold thA;rw[w9,J3,J3];cases b:p.a[i]? with
   |none=>rfl
   |some a=>simp[kH,ff,lf,b]
  .congr 1
   unfold thV;rw[mg];congr 1;funext i f;simp[kH]
def xn(p:Prog)(f:Fn)(w:Int):lP (w+z f.p) 0 f.l (lP w 0 f.p [])=((aM f).map λt=>(t.1,kH p w t.2)).reverse:=by
 unfold aM;rw[KG,KG];simp only[A8,R9,s9];congr 1
 .congr 1
  unfold thL;rw[mg];congr 1;funext i f;simp[kH];omega
 .congr 1
  unfold thL;rw[mg];congr 1
def sj(p:Prog)(f:Fn)(w:Int)(U:bD [] (aI p)=T)(a:bD [] (aM f)=T)(s:Str):
  ct (au p).1 (lP (w+z f.p) 0 f.l (lP w 0 f.p [])) s=((aR (aI p) (aM f) s).map (kH p w)).getD (0,0):=by
 unfold ct aR;rw[wK p w,xn p f w,wJ _ s _ _ rfl U,wJ _ s _ _ rfl a];cases aH (aM f) s<;>rfl
def yk(s:Str):∀(fs:List Fn)(j n:Nat),aH (fs.mapIdx λi f=>((f.name,4,j+i):Th)) s=S (4,n)->∃m f,n=j+m/\fs[m]?=S f/\bW fs s=S f
 |[],j,n,h=>by simp[aH]at h
 |f::fs,j,n,h=>by
   rw[M0]at h;simp only[aH,bW]at h|-;by_cases a:f.name=s
   .rw[l9 a]at h
    cases h;exact⟨0,f,rfl,rfl,by rw[l9 a]⟩
   .rw[j9 a]at h
    have e:(fs.mapIdx λi f=>((f.name,4,j+(i+1)):Th))=fs.mapIdx λi f=>((f.name,4,(j+1)+i):Th):=by
     congr 1;funext i f;simp only[I3,T8];omega
    rw[e]at h;obtain⟨m,g,U,b,c⟩:=yk s fs (j+1) n h;exact⟨m+1,g,a7,b,by rw[j9 a];exact c⟩
variable{t:Th}{vs:List Str}{v:List (Str×Int)}
def KH{s:Str}{k n:Nat}(h:(s,k,n)∈thA v):∃a,v[n]?=S a/\k=3:=by
 simp only[thA,K9]at h;obtain⟨i,b,e⟩:=h;cases e;exact⟨_,v8 b,rfl⟩
def KI{s:Str}{k n:Nat}(h:(s,k,n)∈thV vs):n<z vs/\k=2:=by
 simp only[thV,K9]at h;obtain⟨i,a,e⟩:=h;cases e;exact⟨a,rfl⟩
def Su(h:t∈thV vs):t.1∈vs:=by
 simp only[thV,K9]at h;obtain⟨i,a,rfl⟩:=h;exact J4 a
def Sv(h:t∈thA v):∃a∈v,t.1=a.1:=by
 simp only[thA,K9]at h;obtain⟨i,b,rfl⟩:=h;exact⟨_,J4 b,rfl⟩
def Sw{fs:List Fn}(h:t∈thF fs):∃f∈fs,t.1=f.name:=by
 simp only[thF,K9]at h;obtain⟨i,a,rfl⟩:=h;exact⟨_,J4 a,rfl⟩
def KJ{j:Nat}(h:t∈thL j vs):t.1∈vs:=by
 simp only[thL,K9]at h;obtain⟨i,a,rfl⟩:=h;exact J4 a
def ep:bg []=F:=by simp[bg]
def KK{p:Prog}{f:Fn}(V:dP p=T)(hf:f∈p.f):aR (aI p) (aM f) []=N:=by
 unfold dP at V;simp only[s5,x9]at V;obtain⟨⟨_,e⟩,g,A⟩:=V;have c:=A f hf;unfold fF at c;simp only[s5,x9]at c;unfold aR
 have i:aH (aM f) []=N:=by
  cases h:aH (aM f) []with
  |none=>rfl
  |some x=>
    exfalso;have b:=dF h;unfold aM at b;rcases C1.1 b with b|b
    .have:=c.2.1.1 _ (KJ b);simp only[ep]at this;cases this
    .have:=c.2.1.2 _ (KJ b);simp only[ep]at this;cases this
 have j:aH (aI p) []=N:=by
  cases h:aH (aI p) []with
  |none=>rfl
  |some x=>
    exfalso;have b:=dF h;unfold aI at b;rcases C1.1 b with b|b
    .rcases C1.1 b with b|b
     .have:=e _ (Su b);simp only[ep]at this;cases this
     .obtain⟨a,d,bz⟩:=Sv b
      have:=g a d;unfold iY at this;exact VM
    .obtain⟨a,d,bz⟩:=Sw b
     have:=A a d;unfold fF at this;exact VM
 rw[i,j]
def nM(o:Pl):∀(l:List Fn)(w:Int)(k:Nat)(f:Fn),l[k]?=S f->∃G,w<=G/\(dy o l w).1[k]?=S (mY o f G)/\G+(z f.p+z f.l)<=(dy o l w).2
 |[],w,k,f,h=>by simp at h
 |g::l,w,0,f,h=>by
   simp at h;subst h;refine⟨w,C7 _,rfl,?_⟩;simp only[dy]
   have:∀(l:List Fn)(w:Int),w<=(dy o l w).2:=by
    intro l
    induction l with
    |nil=>intro w;exact C7 _
    |cons a l b=>intro w;simp only[dy];have:=b (w+(z a.p+z a.l));omega
   exact this _ _
 |g::l,w,k+1,f,h=>by
   obtain⟨G,U,c,d⟩:=nM o l (w+(z g.p+z g.l)) k f YU;refine⟨G,a7,?_,?_⟩
   .simp only[dy,u7];exact c
   .simp only[dy];exact d
def yl(o:Pl):∀(l:List Fn)(w:Int),w<=(dy o l w).2
 |[],w=>C7 _
 |a::l,w=>by simp only[dy];have:=yl o l (w+(z a.p+z a.l));omega
def lR(o:Pl):∀(l:List Fn)(w:Int),z (dy o l w).1=z l
 |[],w=>rfl
 |a::l,w=>by simp only[dy,l4,lR o l]
def um:∀(l:List (Str×Int))(n:Nat)(a:Str×Int),(∀x∈l,1<=x.2)->l[n]?=S a->((l.take n).map (·.2)).sum+a.2<=(l.map (·.2)).sum/\0<=((l.take n).map (·.2)).sum
 |[],n,a,_,h=>by simp at h
 |x::l,0,a,b,h=>by
   simp at h;subst h
   have:∀m:List (Str×Int),(∀x∈m,1<=x.2)->0<=(m.map (·.2)).sum:=by
    intro m c
    induction m with
    |nil=>simp
    |cons y m d=>have U:=d (λX hz=>c X ZJ);have e:=c y a8;simp only[s6,D8];omega
   have f:=this l (λX hz=>b X ZJ);simp only[M1,x7,SY,s6,D8];omega
 |x::l,n+1,a,b,h=>by
   have d:=um l n a (λX hz=>b X ZJ) YU;have:=b x a8;simp only[Hl,s6,D8];omega
def KL{p:Prog}{f:Fn}{k:Nat}{w W:Int}(V:dP p=T)(U:bD [] (aI p)=T)(r:bD [] (aM f)=T)(hf:f∈p.f)(ad:(au p).2<=w)(hW:w+(z f.p+z f.l)<=W):
  qm p.f W k (aR (aI p) (aM f)) (ct (au p).1 (lP (w+z f.p) 0 f.l (lP w 0 f.p []))):=by
 have K:(au p).2=z p.v+(p.a.map (·.2)).sum:=by
  unfold au;simp only;rw[KF,KE];simp
 have u:∀a∈p.a,1<=a.2/\a.2<=4096:=by
  unfold dP at V;simp only[s5,x9]at V;intro a o;have:=V.2.1 a o;unfold iY at this;simp at this;omega
 have b:∀a∈p.a,1<=a.2:=λa o=>(u a o).1
 have d:0<=(p.a.map (·.2)).sum:=by
  have:∀m:List (Str×Int),(∀x∈m,1<=x.2)->0<=(m.map (·.2)).sum:=by
   intro m j
   induction m with
   |nil=>simp
   |cons y m G=>have U:=G (λX hz=>j X ZJ);have r:=j y a8;simp only[s6,D8];omega
  exact this _ b
 have J:∀{s:Str}{t:Nat×Nat},aH (aM f) s=S t->t.1=1/\t.2<z f.p+z f.l:=λ{s t}h=>by
  have j:=dF h;unfold aM at j;rcases C1.1 j with j|j
  .have:=BP j;exact⟨this.1,a7⟩
  .have:=BP j;exact⟨this.1,a7⟩
 have bl:∀{s:Str}{t:Nat×Nat},aH (aI p) s=S t->(t.1=2/\t.2<z p.v)\/(t.1=3/\∃a,p.a[t.2]?=S a)\/t.1=4:=λ{s t}h=>by
  have j:=dF h;unfold aI at j;rcases C1.1 j with j|j
  .rcases C1.1 j with j|j
   .have:=KI j;exact .inl ⟨this.2,this.1⟩
   .obtain⟨a,o,A⟩:=KH j;exact .inr (.inl ⟨A,a,o⟩)
  .exact .inr (.inr (KT j).1)
 refine⟨?_,λs L n hs A=>?_,λs n hs=>?_,λs n hs O=>?_⟩
 .rw[sj p f w U r,KK V hf];rfl
 .rw[sj p f w U r,hs]
  simp only[A3,A6];unfold aR at hs;cases hq:aH (aM f) s with
  |some t=>
    rw[hq]at hs;cases hs;have:=J hq;simp only at this;obtain⟨rfl,Q⟩:=this;simp only[kH,show ¬(1:Nat)=3 by decide,B1,B5];exact⟨⟨a7,a7,a7,a7⟩,trivial⟩
  |none=>
    rw[hq]at hs;simp only at hs;rcases bl hs with⟨q,B⟩|⟨q,_⟩|q
    .simp only at q B
     subst q;simp only[kH,show ¬(2:Nat)=3 by decide,show ¬(2:Nat)=1 by decide,B1];exact⟨⟨a7,a7,a7,a7⟩,trivial⟩
    .simp only at q;omega
    .simp only at q;omega
 .rw[sj p f w U r,hs]
  simp only[A3,A6];unfold aR at hs;cases hq:aH (aM f) s with
  |some t=>
    exact Xy
  |none=>
    rw[hq]at hs;simp only at hs;rcases bl hs with⟨q,B⟩|⟨_,a,o⟩|q
    .simp only at q;omega
    .simp only at o
     simp only[kH,B5,ff,lf,o,A3,A6];have E:=u a (l7 o);have bz:=um p.a n a b o;exact⟨E.1,E.2,a7,a7,a7,a7⟩
    .simp only at q;omega
 .rw[sj p f w U r,hs]
  simp only[A3,A6,kH,show ¬(4:Nat)=3 by decide,show ¬(4:Nat)=1 by decide,B1,T8];unfold aR at hs;cases hq:aH (aM f) s with
  |some t=>
    exact Xy
  |none=>
    rw[hq]at hs;simp only at hs;unfold aI at hs;rw[jA]at hs;cases c:aH (thV p.v++thA p.a) s with
    |some t=>
      rw[c]at hs;cases hs;have j:=dF c;rcases C1.1 j with j|j
      .have:=(KI j).2;omega
      .obtain⟨_,_,h⟩:=KH j;omega
    |none=>
      rw[c]at hs;simp only at hs;unfold thF at hs
      have e:(p.f.mapIdx λi f=>((f.name,4,i):Th))=p.f.mapIdx λi f=>((f.name,4,0+i):Th):=by
       congr 1;funext i f;simp
      rw[e]at hs;obtain⟨m,g,Y,H,I⟩:=yk s p.f 0 n hs;obtain rfl:n=m:=a7;exact⟨g,H,I⟩
end
section
def rm{A:Type}{c:Nat->A->Bool}:∀{l:List A}{j k:Nat}{x:A},bt c j l=T->l[k]?=S x->c (j+k) x=T
 |[],j,k,x,_,h=>by simp at h
 |a::l,j,0,x,U,b=>by
   simp at b;subst b;rw[bt,s5]at U;exact U.1
 |a::l,j,k+1,x,U,b=>by
   rw[bt,s5]at U;have:=rm U.2 (k:=k) (x:=x) (by simpa using b);rw[show j+(k+1)=j+1+k by omega];exact this
variable{p:Prog}
def uq(h:aZ p=0):dP p=T/\eZ p=0/\mu p=0:=by
 unfold aZ at h;split at h
 .cases h
 .rename_i V
  split at h
  .rename_i a;exact absurd h a
  .rename_i a
   exact⟨by simpa using V,by simpa using a,h⟩
def BJ(h:eZ p=0)(hl:1<=z p.f):bD [] (aI p)=T/\bt (fA p) 0 p.f=T/\bt (tG p) 0 p.f=T:=by
 unfold eZ at h;split at h
 .cases h
 .rename_i c
  have a:(bD [] (aI p)&&bt (fA p) 0 p.f)=T:=by simpa using c
  rw[s5]at a;split at h
  .rename_i b
   rw[List.getLast?_eq_none_iff]at b;rw[b]at hl;simp at hl
  .split at h
   .rename_i Z;exact⟨a.1,a.2,Z.1⟩
   .cases h
def DH(h:aZ p=0){k:Nat}{x:CFn}(I:(ab p).f[k]?=S x):rSs (ab p).words (sigs p.f) k x.word 1 x.body:=by
 obtain⟨V,l,d⟩:=uq h;have hl:1<=z p.f:=by unfold dP at V;simp at V;exact V.1.1.1
 obtain⟨L,c,a⟩:=BJ l hl;unfold ab at I|-;simp only at I|-
 have m:k<z p.f:=by
  have:=(l6.1 I).1;rw[lR]at this;exact this
 obtain⟨f,g⟩:∃f,p.f[k]?=S f:=⟨_,v8 m⟩
 obtain⟨G,U,j,q⟩:=nM (au p).1 p.f (au p).2 k f g;rw[I]at j;cases j;have t:=l7 g;have e:=rm c g;have i:=rm a g;rw[C5]at e i;unfold fA at e;rw[s5]at e;unfold tG at i
 have E:fF f=T:=by
  unfold dP at V;simp only[s5,x9]at V;exact V.2.2 f t
 have b:br 1 f.body=T:=by
  unfold fF at E;simp only[s5]at E;exact E.2.2
 have bl:aX p.f f.word f.body=T:=by
  unfold mu at d;split at d
  .cases d
  .split at d
   .cases d
   .rename_i n
    have:(p.f.all λf=>aX p.f f.word f.body)=T:=by simpa using n
    rw[x9]at this;exact this f t
 have o:=KL (p:=p) (f:=f) (k:=k) (w:=G) (W:=(dy (au p).1 p.f (au p).2).2) V L e.1 t U a7;unfold mY;simp only;have:=lh (w:=f.word) o f.body 1 b e.2 i bl;exact Vt
end
end
section
open Go.Lower (cE cEs cAO kh cS cSs one kG iT leave iJ ifC ri codeOf)
mutual
def cnE:Lower.Ex->Nat
 |.mk _ _ _ _ _ kids=>qt kids+1
def qt:List Lower.Ex->Nat
 |[]=>0
 |e::l=>cnE e+qt l
end
mutual
def cnS:Lower.Stm->Nat
 |.mk _ _ _ e a el=>qt e+oh a+oh el+1
def oh:List Lower.Stm->Nat
 |[]=>0
 |s::l=>cnS s+oh l
end
mutual
theorem KM(o i:Pl):∀e:Ex,cnE (dK o i e)=szE e
 |.mk kind op num name kids=>by rw[dK,cnE,szE,tF o i kids]
theorem tF(o i:Pl):∀l:List Ex,qt (bm o i l)=bw l
 |[]=>by rw[bm,qt,bw]
 |e::l=>by rw[bm,qt,bw,KM o i e,tF o i l]
end
mutual
theorem KN(o i:Pl):∀e:Stm,cnS (coreS o i e)=szS e
 |.mk kind name e a el=>by rw[coreS,cnS,szS,tF,ql o i a,ql o i el]
theorem ql(o i:Pl):∀l:List Stm,oh (bP o i l)=aN l
 |[]=>by rw[bP,oh,aN]
 |e::l=>by rw[bP,oh,aN,KN o i e,ql o i l]
end
def one_le{kind op num slot size d:Int}:z (Lower.one kind op num slot size d)<=1:=by
 unfold Lower.one
 repeat' split
 all_goals simp
def KO{kind d:Int}:z (iT kind d)<=1:=by unfold iT;split<;>simp
mutual
theorem KP:∀(e:Lower.Ex)(at':Nat)(d:Int),z (cE at' d e)<=6*cnE e
 |.mk kind op num slot size kids,at',d=>by
   rw[cE,cnE];split
   .exact Sx kids at' d kind
   .rw[j8]
    have:=tr kids at' d;have:=one_le (kind:=kind) (op:=op) (num:=num) (slot:=slot) (size:=size) (d:=d+z kids);omega
theorem tr:∀(l:List Lower.Ex)(at':Nat)(d:Int),z (cEs at' d l)<=6*qt l
 |[],at',d=>by rw[cEs];simp
 |e::l,at',d=>by
   rw[cEs,qt,j8];have:=KP e at' d;have:=tr l (at'+z (cE at' d e)) (d+1);omega
theorem Sx:∀(l:List Lower.Ex)(at':Nat)(d kind:Int),z (cAO at' d kind l)<=6*(qt l+1)
 |[],at',d,kind=>by rw[cAO];simp
 |e::l,at',d,kind=>by
   rw[cAO,qt];unfold kG;simp only[j8,l4,l5];have U:=KP e at' d;have a:=Fm l (at'+z (cE at' d e)+z (iT kind d)+3) d;have b:=KO (kind:=kind) (d:=d);omega
theorem Fm:∀(l:List Lower.Ex)(at':Nat)(d:Int),z (kh at' d l)<=6*qt l
 |[],at',d=>by rw[kh];simp
 |e::l,at',d=>by
   rw[kh,qt];have:=KP e at' d;omega
end
def BK{w:Bool}:z (leave w)<=2:=by unfold leave;split<;>simp
def Ox{w:Bool}{kind slot size:Int}{n:Nat}:z (ri w kind slot size n)<=2:=by
 unfold ri;have:=BK (w:=w)
 repeat' split
 all_goals first|assumption|simp
mutual
theorem WM(w:Bool):∀(s:Lower.Stm)(at':Nat),z (cS w at' s)<=6*cnS s
 |.mk kind slot size e a el,at'=>by
   rw[cS,cnS];split
   .unfold iJ
    simp only[j8,l4,l5];have U:=Fm e at' 0;have b:=pt w a (at'+z (kh at' 0 e)+1);omega
   .rw[j8]
    have U:=tr e at' 0;split
    .unfold ifC
     split
     .simp only[j8,l4,l5]
      have b:=pt w a (at'+z (cEs at' 0 e)+1);have c:=pt w el (at'+z (cEs at' 0 e)+1+(cSs w (at'+z (cEs at' 0 e)+1) a).length+1);omega
     .simp only[l4]
      have b:=pt w a (at'+z (cEs at' 0 e)+1);omega
    .have:=Ox (w:=w) (kind:=kind) (slot:=slot) (size:=size) (n:=z e)
     omega
theorem pt(w:Bool):∀(l:List Lower.Stm)(at':Nat),z (cSs w at' l)<=6*oh l
 |[],at'=>by rw[cSs];simp
 |e::l,at'=>by
   rw[cSs,oh,j8];have:=WM w e at';have:=pt w l (at'+z (cS w at' e));omega
end
def TN(w:Bool)(l:List Lower.Stm):z (codeOf w l)<=6*oh l+2:=by
 unfold codeOf;rw[j8];have:=pt w l 0;have:=BK (w:=w);omega
def Oy{A:Type}(f:A->Nat):∀{l:List A}{x:A},x∈l->f x<=(l.map f).sum
 |a::l,x,h=>by
   simp only[s6,D8];rcases A0.1 h with rfl|h
   .omega
   .have:=Oy f h;omega
def BL(o:Pl):∀(l:List Fn)(w:Int),((dy o l w).1.map λx=>oh x.body).sum=(l.map λf=>aN f.body).sum
 |[],w=>rfl
 |f::l,w=>by
   simp only[dy,s6,D8,BL o l];unfold mY;simp only[ql]
end
end Go.Src
namespace Go.Proofs.YtlacbjnmkhndiaaGreatDoor.Low
section
open Go Go.Am Go.Lower
open Go.Src (cnE qt cnS oh ab aZ)
mutual
theorem Js:∀e:Ex,mR e+1=cnE e
 |.mk _ _ _ _ _ kids=>by rw[mR,cnE,tg kids]
theorem tg:∀l:List Ex,ji l=qt l
 |[]=>by rw[ji,qt]
 |e::l=>by rw[ji,qt,<-Js e,tg l];omega
end
mutual
theorem Jt:∀e:Stm,nT e+1=cnS e
 |.mk _ _ _ e a el=>by rw[nT,cnS,tg e,qb a,qb el]
theorem qb:∀l:List Stm,fq l=oh l
 |[]=>by rw[fq,oh]
 |e::l=>by rw[fq,oh,<-Jt e,qb l];omega
end
def ub(l:List Src.Fn):(l.map λf=>Src.aN f.body).sum<=(l.map λf=>z f.p+z f.l+Src.aN f.body).sum:=by
 induction l with
 |nil=>exact l8 _
 |cons a l b=>simp only[s6,D8];omega
def Nk{p:Src.Prog}(h:aZ p=0)(az:szP p<=1000000):aJ Tryz.prog 22 [qz (ab p)] (·=jK (ab p).words (ab p).f):=by
 unfold szP at az;have a:=Src.BL (Src.au p).1 p.f (Src.au p).2;have bz:=ub p.f;have e:((ab p).f.map λx=>oh x.body).sum<=1000000:=by unfold ab;simp only;omega
 refine Rq (ps:=Src.sigs p.f) ?_ ?_ ?_ (λk x I=>Src.DH h I)
 .unfold xU
  rw[show (λx:Src.CFn=>fq x.body)=λx=>oh x.body from funext λx=>qb x.body];omega
 .rw[Src.lR]
  omega
 .intro x I
  have U:=Src.TN x.word x.body;have b:=Src.Oy (λx:Src.CFn=>oh x.body) I;omega
end
section
open Go Go.Am Go.Lower
attribute[local congr]ite_cc
section
variable{x:Ins}
def AW{ps:Sig}{word:Bool}{r:Int×Int}(h:takes ps word x=S r):x.op=1\/x.op=2\/x.op=3\/x.op=4\/x.op=5\/x.op=6\/x.op=7\/x.op=8\/x.op=9\/x.op=10\/x.op=11\/x.op=12\/x.op=13:=by
 unfold takes at h;by_cases U:x.op=1\/x.op=2\/x.op=12
 .omega
 exact oL
def ksD(l:List Int):D:=.sl (l.map λk=>[.int .i64 k])
def Rr{at':Nat}(b6:at'<=1000000000):aJ Tryz.prog 115 [.agg ((bU x).map .d),ae at'] (·=.one (.d (ksD (next x at')))):=by
 refine hdP Tryz.func115 rfl [4] λg=>?_;obtain⟨op,a,b,n⟩:=x;have o:=ah (k:=at') a7;by_cases j:op=8
 .subst j
  simp only[go_sem,bU];exact⟨_,⟨_,eu (s:=⟨_,_,_⟩) rfl [a] (λk=>[.int .i64 k]) (by simp only[upd];rfl) rfl (λ_ _ y i=>by simp at i;subst i;rfl) (λ_ _=>rfl) rfl,rfl⟩,rfl⟩
 by_cases l:op=9
 .subst l
  simp only[go_sem,bU,o];exact⟨_,⟨_,eu (s:=⟨_,_,_⟩) rfl [((at'+1:Nat):Int),a] (λk=>[.int .i64 k]) (by simp only[upd];rfl) rfl (λ_ _ y i=>by simp at i;subst i;rfl) (λ_ _=>rfl) rfl,rfl⟩,rfl⟩
 by_cases H:op=11
 .subst H
  simp only[go_sem,bU];rfl
 .simp only[go_sem,bU,j,l,H,o]
  have e:next ⟨op,a,b,n⟩ at'=[((at'+1:Nat):Int)]:=by simp[next,j,l,H]
  rw[e];exact⟨_,⟨_,eu (s:=⟨_,_,_⟩) rfl [((at'+1:Nat):Int)] (λk=>[.int .i64 k]) (by simp only[upd];rfl) rfl (λ_ _ y i=>by simp at i;subst i;rfl) (λ_ _=>rfl) rfl,rfl⟩,rfl⟩
def Nl(fs:List Src.CFn):Sig:=fs.map λx=>(x.p,x.word)
def uQ(b:Bool):aJ Tryz.prog 174 [bv b] (·=ae (if b then 1 else 0)):=by
 refine hdP Tryz.func174 rfl [2] λg=>?_;cases b<;>(simp only[go_sem])
def Ju{w:Int}{fs:List Src.CFn}{f:Nat}{Z:Src.CFn}(hf:fs[f]?=S Z){t p d:Int}(h:takes (Nl fs) Z.word x=S (t,p))(E:0<=t)(c:t<=d)(hd:d<=1000000000)(H:x.op=11->d=t):
  aJ Tryz.prog 114 [jK w fs,ae f,.agg ((bU x).map .d),ae d] (·=.tup [ae (if x.op=11 then 0 else d-t+p),bv T]):=by
 refine hdP Tryz.func114 rfl [8,9] λg=>?_;have u:=AW h;obtain⟨op,a,b,n⟩:=x;have v:f<z fs:=(l6.1 hf).1;unfold jK;simp only at u H;have j:IntKind.i64.wrap (d-t)=d-t:=by rw[wrap_i64]<;>omega
 have e:IntKind.i64.wrap (d-t+0)=d-t+0:=by rw[wrap_i64]<;>omega
 have i:IntKind.i64.wrap (d-t+1)=d-t+1:=by rw[wrap_i64]<;>omega
 rcases u with rfl|rfl|rfl|rfl|rfl|rfl|rfl|rfl|rfl|rfl|rfl|rfl|rfl
 all_goals try (obtain⟨rfl,rfl⟩:_=t/\_=p:=by simpa[takes]using h)
 .simp only[go_sem,bU,j,e,i,c]
 .simp only[go_sem,bU,j,e,i,c]
 .simp only[go_sem,bU,j,e,i,c]
 .simp only[go_sem,bU,j,e,i,c]
 .simp only[go_sem,bU,j,e,i,c]
 .simp only[go_sem,bU,j,e,i,c]
 .simp only[go_sem,bU,j,e,i,c]
 .simp only[go_sem,bU,j,e,i,c]
 .simp only[go_sem,bU,j,e,i,c]
 .by_cases o:a<0
  .simp[takes,o]at h
  .obtain⟨k,rfl⟩:∃k:Nat,a=(k:Int):=⟨a.toNat,a7⟩
   simp only[takes,Nl,o,B1,B6,w9,Option.map_map]at h;cases l:fs[k]? with
   |none=>simp[l]at h
   |some y=>
     have r:k<z fs:=(l6.1 l).1;have K:¬z fs<=k:=a7;have al:(k:Int)<(z fs:Int):=a7;have a1:¬(z fs:Int)<=(k:Int):=a7;have s:(0:Int)<=(k:Int):=a7;cases hw:y.word with
     |false=>
       obtain⟨rfl,rfl⟩:y.p=t/\(0:Int)=p:=by simpa[l,hw]using h
       have q:¬y.p<0:=a7;simp only[go_sem,bU,l,r,K,al,a1,s,o,hw,sfD,j7,q];refine dr aO mixed c9 ?_;simp only[go_sem,bU,l,r,K,al,a1,s,o,hw,sfD,j7,q];refine bc rfl (uQ F) (cG rfl) rfl ?_;simp only[go_sem,bU,l,r,K,al,a1,s,o,hw,sfD,j7,q,j,e,c,E0]
     |true=>
       obtain⟨rfl,rfl⟩:y.p=t/\(1:Int)=p:=by simpa[l,hw]using h
       have q:¬y.p<0:=a7;simp only[go_sem,bU,l,r,K,al,a1,s,o,hw,sfD,j7,q];refine dr aO mixed c9 ?_;simp only[go_sem,bU,l,r,K,al,a1,s,o,hw,sfD,j7,q];refine bc rfl (uQ T) (cG rfl) rfl ?_;simp only[go_sem,bU,l,r,K,al,a1,s,o,hw,sfD,j7,q,j,i,c]
 .have A:=H rfl
  have B:(0:Int)<=(f:Int):=a7;have az:(f:Int)<(z fs:Int):=a7;cases hw:Z.word with
  |false=>
    obtain⟨rfl,rfl⟩:(0:Int)=t/\(0:Int)=p:=by simpa[takes,hw]using h
    simp only[go_sem,bU,hf,B,az,v,sfD,j7,hw];refine gw rfl (uQ F) j4 ?_;rintro _ rfl;simp only[go_sem,x6 A,E0]
  |true=>
    obtain⟨rfl,rfl⟩:(1:Int)=t/\(0:Int)=p:=by simpa[takes,hw]using h
    simp only[go_sem,bU,hf,B,az,v,sfD,j7,hw];refine gw rfl (uQ T) j4 ?_;rintro _ rfl;simp only[go_sem,x6 A]
 .simp only[go_sem,bU,j,e,i,c]
 .simp only[go_sem,bU,j,e,i,c]
end
section
def icells(l:List Int):List C:=l.map λk=>ag k
def cP(l:List Int):z (icells l)=z l:=by simp[icells]
def jj(l:List Int)(k:Nat):(icells l)[k]?=(l[k]?).map λk=>ag k:=by simp[icells]
def jk(l:List Int)(k:Nat)(v:Int):(icells l).set k (ag v)=icells (l.set k v):=by simp[icells,N4]
def lJ(a b:List Int):icells (a++b)=icells a++icells b:=by simp[icells]
structure uc (E D:Nat) (l:List Int) (g:Nat->Nat) (ob:Obs):Prop where
 t:ob E=some [.osl D (g D) 1 0 l.length]
 d:∃r:List Int,ob D=some (icells (l++r))
variable{l:List Int}{B E D:Nat}{g:Nat->Nat}{ob:Obs}{H:Nat}
def Rt(hB:∀i,B<=i->ob i=N)(hT:E<B)(h:uc E D l g ob)(m:g E=H):
  dj Tryz.prog 112 [aj E H 0] g ob (λr g' Y=>g'=g/\Y=ob/\r=ae (z l)) (λ_ _ _=>False):=by
 refine hdM B [] Tryz.func112 rfl [.tmp 2] a8 hB λO bn s0 w0=>?_;obtain⟨U,r,a⟩:=h;simp only[go_sem,U,a,m,cP,j8];refine⟨_,ai.refl _,?_⟩;simp only[go_sem];exact bB.nil (λi b=>⟨rfl,rfl⟩) (o:=[ae (z l)]) ⟨_,_,rfl,.one (.d _),rfl⟩ ⟨rfl,rfl,rfl⟩
def Dd{B:Nat}:∀c∈icells l,lV B c:=λc Z=>by
 obtain⟨x,_,rfl⟩:=D6.1 Z;trivial
def Jv{x:Int}(hB:∀i,B<=i->ob i=N)(hT:E<B)(hD:D<B)(a:E≠D)(h:uc E D l g ob)(m:g E=H)(hl:z l<=1000000000):
  dj Tryz.prog 111 [aj E H 0,ae x] g ob (λ_ g' Y=>uc E D (l++[x]) g' Y/\(∀i,i≠D->g' i=g i)/\∀i,i≠E->i≠D->Y i=ob i) (λ_ _ _=>False):=by
 refine hdM B [E,D] Tryz.func111 rfl [] XH hB λO bn s0 w0=>?_;obtain⟨U,r,j⟩:=h;have n:∀k,(E=B+k)=False:=λk=>by simp;omega
 have o:∀k,(D=B+k)=False:=λk=>by simp;omega
 have q:(E=D)=False:=by simp[a]
 have b:(D=E)=False:=by simp[B7 a]
 simp only[go_sem,n,o,q,b,U,j,m,cP,j8,ba];refine⟨a7,⟨b9,a7⟩,?_⟩;refine⟨_,ai.refl _,?_⟩;simp only[go_sem];refine⟨⟨λi hi hn=>?_,λi hi d Z=>?_⟩,[],rfl,⟨?_,?_⟩,λi hi=>?_,λi hi y=>?_⟩
 .have U:i≠E:=λe=>hn Zc
  have j:i≠D:=λe=>hn Zc;exact⟨nu,nu⟩
 .simp only[A0,B3,F2]at hi
  rcases hi with rfl|rfl
  .simp[upd]at Z
   subst Z;intro c Z;rw[E3.1 Z];exact hD
  .simp[upd,b]at Z
   subst Z;intro c Z;rcases C1.1 Z with Z|Z
   .exact Dd c (O7 Z)
   .rw[E3.1 Z];trivial
 .simp[jP,fN,upd]
 .refine⟨[],?_⟩
  simp[fN,upd,b];rw[lJ];simp[icells]
 .exact Vq
 .unfold fN
  rw[j9 (by simp[hi,y])]
def Wg{x:Int}(hB:∀i,B<=i->ob i=N)(hT:E<B)(hD:D<B)(a:E≠D)(h:uc E D (l++[x]) g ob)(m:g E=H)(hl:z l<=1000000000):
  dj Tryz.prog 113 [aj E H 0] g ob (λr g' Y=>r=ae x/\uc E D l g' Y/\g'=g/\∀i,i≠E->Y i=ob i) (λ_ _ _=>False):=by
 refine hdM B [E] Tryz.func113 rfl [.tmp 2] XH hB λO bn s0 w0=>?_;obtain⟨U,r,n⟩:=h;have q:∀k,(E=B+k)=False:=λk=>by simp;omega
 have s:(E=D)=False:=by simp[a]
 have o:(D=E)=False:=by simp[B7 a]
 have t:z (l++[x])=z l+1:=a8;rw[t]at U;have u:IntKind.i64.wrap (((z l+1:Nat):Int)-1)=(z l:Int):=by rw[wrap_i64]<;>omega
 have v:(l++[x]++r)[z l]?=S x:=a8;have w:(0:Int)<=(z l:Int):=a7;simp only[go_sem,q,s,o,U,n,m,cP,j8,u,jj,v,w];refine⟨a7,a7,a7,?_⟩;refine⟨_,ai.refl _,?_⟩;simp only[go_sem];refine⟨⟨λi b hn=>?_,λi b j Z=>?_⟩,[ae x],⟨_,_,rfl,.one (.d _),rfl⟩,rfl,⟨?_,x::r,?_⟩,za (λi b=>rfl),λi b=>?_⟩
 .have U:i≠E:=λe=>hn Zc
  exact⟨nu,nu⟩
 .simp only[A0,B3,F2]at b
  subst b;simp[upd]at Z;subst Z;intro c Z;rw[E3.1 Z];exact hD
 .rw[za (λi b=>rfl)]
  simp[fN,upd]
 .simp only[fN,A0,B3,F2,o,B1]
  rw[n];simp
 .simp[fN,b]
end
end
end Go.Proofs.YtlacbjnmkhndiaaGreatDoor.Low
namespace Go.Emit
section
open Go.Lower (Ins Code codeOf takes next Inv left)
section
def visit(A:Lower.Code):List Int->List Int×List Nat->List Int×List Nat
 |[],st=>st
 |y::l,st=>visit A l (if (st.1[y.toNat]?.getD 0)<0 then(st.1.set y.toNat (((A[y.toNat]?).map Prod.snd).getD 0),st.2++[y.toNat])else st)
def search(A:Lower.Code):Nat->List Int×List Nat->List Int
 |0,st=>st.1
 |n+1,st=>match st.2.getLast? with
   |none=>st.1
   |some a=>match A[a]? with
     |none=>st.1
     |some x=>search A n (visit A (next x.1 a) (st.1,st.2.dropLast))
def bG(A:Lower.Code):List Int:=search A (z A) ((List.replicate (z A) (-1)).set 0 0,[0])
def CL(A:Lower.Code)(n:Nat)(out:List Int):search A n (out,[])=out:=by cases n<;>rfl
def Ar(A:Lower.Code)(n:Nat)(out:List Int)(c:List Nat)(a:Nat){x:Ins×Int}(h:A[a]?=S x):search A (n+1) (out,c++[a])=search A n (visit A (next x.1 a) (out,c)):=by
 simp only[search,List.getLast?_append,List.getLast?_singleton,Option.some_or,h,List.dropLast_concat]
variable{l:List Int}{out:List Int}{c:List Nat}
def vE{A:Lower.Code}{y:Int}{u d:Int}(h:out[y.toNat]?=S u)(L:u<0)(hd:(A[y.toNat]?).map Prod.snd=S d):visit A (y::l) (out,c)=visit A l (out.set y.toNat d,c++[y.toNat]):=by
 simp only[visit,h,hd,A6,L,B5]
def vF{A:Lower.Code}{y:Int}{u:Int}(h:out[y.toNat]?=S u)(L:¬u<0):visit A (y::l) (out,c)=visit A l (out,c):=by
 simp only[visit,h,A6,L,B1]
def deepest(l:List Int)(d:Int):Int:=l.foldl max d
def rK(a:Int)(l:List Int)(d:Int):deepest (a::l) d=deepest l (max d a):=rfl
def dN(n:Nat):Nat->List (List Int)->Int->List Int×List Int×Int
 |_,[],w=>([],[],w)
 |k,o::l,w=>
   let b:=if k+1=n then w else w+1
   let r:=dN n (k+1) l (b+deepest o 0)
   (w::r.1,b::r.2.1,r.2.2)
structure Plan where
 depths:List (List Int)
 back:List Int
 base:List Int
 data:Int
def df(w:Int)(fs:List Src.CFn):Plan:=
 let ds:=fs.map λx=>bG (codeOf x.word x.body)
 let r:=dN (z fs) 0 ds w
 ⟨ds,r.1,r.2.1,r.2.2⟩
def Au(n:Nat):∀(l:List (List Int))(k:Nat)(w:Int)(o:List Int),dN n k (l++[o]) w =
  let r:=dN n k l w
  let b:=if k+z l+1=n then r.2.2 else r.2.2+1
  (r.1++[r.2.2],r.2.1++[b],b+deepest o 0)
 |[],k,w,o=>by simp[dN]
 |a::l,k,w,o=>by
   simp only[C6,dN,Au n l,l4];rw[show k+1+z l+1=k+(z l+1)+1 by omega]
def vG(n:Nat):∀(l:List (List Int))(k:Nat)(w:Int),z (dN n k l w).1=z l/\z (dN n k l w).2.1=z l
 |[],k,w=>by simp[dN]
 |a::l,k,w=>by
   simp only[dN,l4];exact⟨by rw[(vG n l _ _).1],by rw[(vG n l _ _).2]⟩
abbrev MI:=Int×Int×Int×Int
abbrev Ho:=Int×Int×Int
structure Wr where
 code:List MI
 holes:List Ho
def eC:Nat->Wr:=λ_=>⟨[],[]⟩
def aD(op a b c:Int):Nat->Wr:=λ_=>⟨[(op,a,b,c)],[]⟩
def aE(op a f pl:Int):Nat->Wr:=λn=>⟨[(op,a,0,0)],[((n:Int),f,pl)]⟩
def ax(x y:Nat->Wr):Nat->Wr:=λn=>⟨(x n).code++(y (n+z (x n).code)).code,(x n).holes++(y (n+z (x n).code)).holes⟩
def sQ:List (Nat->Wr)->Nat->Wr
 |[]=>eC
 |[x]=>x
 |x::y::l=>ax x (sQ (y::l))
def dJ(P:Plan)(f:Nat)(V reg a:Int):Nat->Wr:=aD 16 reg 0 ((P.base[f]?).getD 0+V-a)
def du(P:Plan)(f:Nat)(V reg a:Int):Nat->Wr:=aD 17 reg 0 ((P.base[f]?).getD 0+V-a)
def hi16(n:Int):Int:=(n/65536+9223372036854775808)%18446744073709551616-9223372036854775808
def ko(reg n:Int):Nat->Wr:=if 65535<n then ax (aD 1 reg 0 (n%65536)) (aD 2 reg 0 (hi16 n))else aD 1 reg 0 (n%65536)
def kK(fs:List Src.CFn)(P:Plan)(f:Nat)(V:Int):Nat->Wr:=
 if f+1=z fs then aD 26 0 0 0
 else
  let back:=ax (aD 16 14 0 ((P.back[f]?).getD 0)) (aD 22 14 0 0)
  if ((fs[f]?).map (·.word)).getD F then ax (dJ P f V 1 1) back else back
def jH(a:Int):Nat->Nat->Wr
 |0=>eC
 |k+1=>ax (jH a k) (aD 17 0 0 (a+k))
def je(a b:Int):Nat->Wr:=
 if b-a<=6 then jH a (b-a).toNat
 else λn=>⟨[(1,1,0,a),(1,2,0,b),(17,0,1,0),(4,1,1,15),(14,3,1,2),(20,3,0,(n:Int)+2)],[]⟩
def lE(P:Plan)(f:Nat)(V a first:Int):Nat->Nat->Wr
 |0=>eC
 |k+1=>ax (lE P f V a first k) (ax (dJ P f V 1 (a-k)) (aD 17 1 0 (first+k)))
def tZ(fs:List Src.CFn)(P:Plan)(f:Nat)(V a:Int):Nat->Wr:=
 match fs[a.toNat]? with
 |none=>eC
 |some y=>ax (lE P f V y.p y.first y.p.toNat) (ax (aE 21 14 a (-1)) (if y.word then du P f V 1 y.p else eC))
def kL(fs:List Src.CFn)(P:Plan)(f:Nat)(V:Int)(x:Ins):Nat->Wr:=
 if x.op=1 then ax (ko 1 x.n) (du P f V 1 0)
 else if x.op=2 then ax (aD 16 1 0 x.a) (du P f V 1 0)
 else if x.op=3 then ax (dJ P f V 1 1) (aD 17 1 0 x.a)
 else if x.op=4 then ax (dJ P f V 1 1) (ax (aD 25 1 0 x.b) (ax (aD 16 1 1 x.a) (du P f V 1 1)))
 else if x.op=5 then ax (dJ P f V 1 2) (ax (aD 25 1 0 x.b) (ax (dJ P f V 2 1) (aD 17 2 1 x.a)))
 else if x.op=6 then ax (dJ P f V 1 2) (ax (dJ P f V 2 1) (ax (aD x.a 1 1 2) (du P f V 1 2)))
 else if x.op=7 then ax (dJ P f V 1 1) (ax (aD 15 1 1 0) (du P f V 1 1))
 else if x.op=8 then aE 18 0 f x.a
 else if x.op=9 then ax (dJ P f V 1 1) (aE 19 1 f x.a)
 else if x.op=10 then tZ fs P f V x.a
 else if x.op=11 then kK fs P f V
 else if x.op=12 then ax (aD 23 1 0 0) (du P f V 1 0)
 else if x.op=13 then ax (dJ P f V 1 1) (aD 24 1 0 0)
 else eC
def jR(fs:List Src.CFn)(P:Plan)(f:Nat):Nat->Wr:=
 if f+1=z fs then eC
 else match fs[f]? with
  |none=>eC
  |some y=>ax (aD 17 14 0 ((P.back[f]?).getD 0)) (je (y.first+y.p) (y.first+y.slots))
def fB(fs:List Src.CFn)(P:Plan)(f:Nat)(A:Lower.Code)(ds:List Int):Nat->Nat->Wr
 |0=>jR fs P f
 | k+1=>ax (fB fs P f A ds k) (match A[k]?,ds[k]? with
   |some x,S d=>if 0<=d then kL fs P f d x.1 else eC
   | _,_=>eC)
def placesOf(fs:List Src.CFn)(P:Plan)(f:Nat)(A:Lower.Code)(ds:List Int)(n:Nat):List Int:=
 (List.range (z A)).map λk=>((n+z (fB fs P f A ds k n).code:Nat):Int)
structure iA where
 code:List MI
 holes:List Ho
 ent:List Int
 pls:List (List Int)
def ei(fs:List Src.CFn)(P:Plan)(d:iA)(f:Nat):iA:=
 match fs[f]?,P.depths[f]? with
 |some y,S ds=>
   let A:=codeOf y.word y.body
   let w:=fB fs P f A ds (z A) (z d.code)
   ⟨d.code++w.code,d.holes++w.holes,d.ent.set f (z d.code),d.pls.set f (placesOf fs P f A ds (z d.code))⟩
 |_,_=>d
def start(fs:List Src.CFn)(P:Plan):iA:=ei fs P ⟨[(1,15,0,1)],[],List.replicate (z fs) 0,List.replicate (z fs) []⟩ (z fs-1)
def qs(fs:List Src.CFn)(P:Plan):Nat->iA
 |0=>start fs P
 |k+1=>ei fs P (qs fs P k) k
def whole(fs:List Src.CFn)(P:Plan):iA:=qs fs P (z fs-1)
def place(d:iA)(h:Ho):Int:=if 0<=h.2.2 then(((d.pls[h.2.1.toNat]?).getD [])[h.2.2.toNat]?).getD 0 else(d.ent[h.2.1.toNat]?).getD 0
def fill(d:iA)(code:List MI)(h:Ho):List MI:=
 match code[h.1.toNat]? with
 |some x=>code.set h.1.toNat (x.1,x.2.1,x.2.2.1,place d h)
 |none=>code
def filled(d:iA):List MI:=d.holes.foldl (fill d) d.code
end
end
end Go.Emit

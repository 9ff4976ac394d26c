/- A part of the proof; no conditions. -/
import Derived.Test.YtlacbjnmkhndiaaGreatDoorPart15
set_option linter.unusedSimpArgs false
set_option linter.unusedVariables false
set_option linter.defProp false
open List renaming length -> z
open Option renaming some -> S, none -> N
open Bool renaming true -> T, false -> F
set_option maxHeartbeats 64000000
set_option maxRecDepth 100000
namespace Go.Proofs.YtlacbjnmkhndiaaGreatDoor
section
open Go Go.Am Go.Asm
open Go.Src (Ex Stm szE bw szS aN inE rV inS qY nW dG nX dW)
attribute[local congr]ite_cc
def bO(p:Src.Prog):cl p=.agg [aq (p.v.map λs=>[.str s]),aq (p.a.map arD),aq (p.f.map fnD)]:=rfl
def Wt(p:Src.Prog)(hp:Src.InP p)(d:Int)(hm:0<=d/\d<=1000000):aJ Tryz.prog 15 [cl p,ae d] (·=bv (Src.Ws p d)):=by
 refine hdP Tryz.func15 rfl [4] λg=>?_;obtain⟨X,G⟩:∃X,Src.Ws p d=X:=⟨_,rfl⟩
 rw[G];obtain⟨L,pa,pf,u⟩:=hp;unfold Src.Ws at G;rw[bO];simp only[go_sem];refine cg rfl (by simp only[go_sem];exact zp p.v L) ?_;rintro _ rfl;cases H:Src.Dn p.v
 .obtain rfl:X=F:=by rw[<-G,H];rfl
  exact gW
 by_cases ha:200<(z p.a:Int)
 .obtain rfl:X=F:=by rw[<-G,H,show decide (z p.a<=200)=F from A5 a7];rfl
  simp only[go_sem,j7,ha]
 by_cases hf:70<(z p.f:Int)
 .obtain rfl:X=F:=by rw[<-G,H,show decide (z p.f<=70)=F from A5 a7,D5];rfl
  simp only[go_sem,j7,ha,hf]
 rw[H,show decide (z p.f<=70)=T from C8 a7,show decide (z p.a<=200)=T from C8 a7,j9 b9]at G;have b4:IntKind.i64.wrap (d-(z p.v:Int))=d-z p.v:=wrap_i64 _ a7 a7;have w:IntKind.i64.wrap (d-(z p.v:Int)-(z p.a:Int))=d-z p.v-z p.a:=wrap_i64 _ a7 a7;obtain⟨left,b⟩:∃x:Int,d-(z p.v:Int)-(z p.a:Int)-(z p.f:Int)=x:=⟨_,rfl⟩
 rw[b]at G;have j:IntKind.i64.wrap (d-(z p.v:Int)-(z p.a:Int)-(z p.f:Int))=left:=by rw[b];exact wrap_i64 _ a7 a7
 have m:-2000000000000000000<=left/\left<=1000000:=a7;obtain⟨ga,i⟩:∃y,(p.a.all λa=>decide ((z a.1:Int)<=60))=y:=⟨_,rfl⟩
 simp only[go_sem,j7,ha,hf,b4,w,j];refine dv (λk K=>((p.a.drop k).all λa=>decide ((z a.1:Int)<=60))=ga/\K.f 2=aj 2 (K.gen 2) 0/\K.obj 2=S [aq (p.v.map λs=>[.str s]),aq (p.a.map arD),aq (p.f.map fnD)]/\K.f 5=ae left/\K.f 6=ae k) (z p.a) ⟨i,?_⟩ ?_
 .exact gW
 rintro k f g1 av hk ⟨Z,t,E,I,q6⟩;simp only at t E I q6;have hw:=ah (k:=k) a7;by_cases Y:k<z p.a
 .have Q:(k:Int)<(z p.a:Int):=a7
  obtain⟨a,H⟩:=getq Y;obtain⟨U,O⟩:=dw Z H;have hg:=getD_at (f:=arD) H;have A:arD a=[.str a.1,.int .i64 a.2]:=rfl;rw[A]at hg;by_cases hn:60<(z a.1:Int)
  .have e:=O (A5 a7)
   rw[e]at i;rw[i,l9 rfl]at G;subst G;simp only[go_sem,t,E,q6,Q,j7,hg,hn]
  .simp only[go_sem,t,E,q6,Q,j7,hg,hn,hw]
   refine bN Y ⟨U (C8 a7),?_⟩;simp only[go_sem,t,E,I]
 have Q:¬(k:Int)<(z p.a:Int):=a7;rw[y9 a7]at Z;have e:ga=T:=Z.symm;rw[e]at i;rw[i,j9 b9]at G;clear Z hk Y e i hw;simp only[go_sem,t,E,q6,Q,j7];refine dv (λk K=>∃c:Int,(match Src.NJ c (p.f.drop k)with|some n=>decide (0<=n)|none=>F)=X/\(-3000000000000000000<=c/\c<=1000000)/\(0<=c\/-2000000000000000000-400*(k:Int)<=c)/\K.f 2=aj 2 (K.gen 2) 0/\K.obj 2=S [aq (p.v.map λs=>[.str s]),aq (p.a.map arD),aq (p.f.map fnD)]/\K.f 5=ae c/\K.f 7=ae k) (z p.f) ⟨left,G,a7,a7,?_⟩ ?_
 .simp only[go_sem,t,I,E]
 clear Q t E I q6;rintro k f g1 av hk ⟨c,Z,o,b5,t,E,I,q7⟩;simp only at t E I q7;have hw:=ah (k:=k) a7;by_cases Y:k<z p.f
 case neg=>
  have Q:¬(k:Int)<(z p.f:Int):=a7;rw[y9 a7]at Z;simp only[Src.NJ]at Z;simp only[go_sem,t,E,I,q7,Q,j7,Z]
 have Q:(k:Int)<(z p.f:Int):=a7;obtain⟨fn,H⟩:=getq Y;have hg:=getD_at (f:=fnD) H;have a6:fnD fn=[.str fn.name,.sl (fn.p.map λs=>[.str s]),.sl (fn.l.map λs=>[.str s]),.bool fn.word,.sl (fn.body.map smD)]:=rfl;rw[a6]at hg;obtain⟨⟨i1,i2⟩,i3,r⟩:=u fn (l7 H);rw[dk H,Src.NJ]at Z;simp only[go_sem,t,E,q7,Q,j7,hg];refine cg rfl (by simp only[go_sem];exact zp fn.p i1) ?_;rintro _ rfl;cases U:Src.Dn fn.p
 .obtain rfl:X=F:=by rw[<-Z,U];rfl
  exact gW
 simp only[go_sem];refine cg rfl (by simp only[go_sem];exact zp fn.l i2) ?_;rintro _ rfl;cases O:Src.Dn fn.l
 .obtain rfl:X=F:=by rw[<-Z,U,O];rfl
  exact gW
 by_cases hn:60<(z fn.name:Int)
 .obtain rfl:X=F:=by rw[<-Z,U,O,A5 (show ¬(z fn.name:Int)<=60 by omega)];rfl
  simp only[go_sem,hn]
 rw[U,O,C8 (show (z fn.name:Int)<=60 by omega),l9 b9]at Z;have l1:z fn.p<=200:=by unfold Src.Dn at U;simp only[s5,B4]at U;exact U.1
 have l2:z fn.l<=200:=by unfold Src.Dn at O;simp only[s5,B4]at O;exact O.1
 have b4:IntKind.i64.wrap (c-(z fn.p:Int))=c-z fn.p:=wrap_i64 _ a7 a7;have w:IntKind.i64.wrap (c-(z fn.p:Int)-(z fn.l:Int))=c-z fn.p-z fn.l:=wrap_i64 _ a7 a7;simp only[go_sem,hn,I,j7,b4,w];have b1:=Src.qd fn.body (c-z fn.p-z fn.l) 60;have b2:c-z fn.p-z fn.l<0->dW fn.body (c-z fn.p-z fn.l) 60=c-z fn.p-z fn.l:=λh=>Src.nC h _;have b3:=Src.tv fn.body (c-z fn.p-z fn.l) 60;refine cg rfl (by simp only[go_sem,b4,w];exact Bo (aN fn.body) fn.body _ 60 (l8 _) i3 r a7 b9) ?_;rintro _ rfl;simp only[go_sem,q7,hw];refine bN Y ⟨_,Z,a7,a7,?_⟩;simp only[go_sem,t,E]
end
section
open Go Go.Am Go.Asm
open Go.Src (bg jm)
attribute[local congr]ite_cc
def JX(c:UInt8):aJ Tryz.prog 160 [iv .u8 c.toNat] (·=bv (digit c)):=by
 refine hdP Tryz.func160 rfl [2] λg=>?_;simp only[go_sem];have e:=@ta c;cases a:digit c<;>rw[a]at e<;>simp at e<;>((repeat' (first|refine⟨?_,?_⟩|intro _))<;>(first|rfl|(exfalso;omega)|(simp;omega)))
def yb(c:UInt8):aJ Tryz.prog 157 [iv .u8 c.toNat] (·=bv (letter c)):=by
 refine hdP Tryz.func157 rfl [2] λg=>?_;simp only[go_sem];have e:=@vR c;cases a:letter c<;>rw[a]at e<;>simp at e<;>((repeat' (first|refine⟨?_,?_⟩|intro _))<;>(first|rfl|(exfalso;omega)|(simp;omega)))
def JY:aJ Tryz.prog 159 [] (·=jy jm):=by
 refine hdP Tryz.func159 rfl [0] λg=>?_;simp only[go_sem];exact⟨_,⟨_,pn (L:=jm) rfl rfl rfl,rfl⟩,rfl⟩
def JZ:aJ Tryz.prog 93 [] (·=jy jm):=by
 refine hdP Tryz.func93 rfl [0] λg=>?_;simp only[go_sem];exact⟨_,⟨_,pn (L:=jm) rfl rfl rfl,rfl⟩,rfl⟩
def Ka{l:List Str}{k:Nat}{s x:Str}{X:Bool}(h:decide (s∈l.drop k)=X)(I:l[k]?=S x):(x=s->X=T)/\(x≠s->decide (s∈l.drop (k+1))=X):=by
 rw[dk I]at h;constructor
 .rintro rfl;rw[<-h];simp
 .intro e;rw[<-h];simp[B7 e]
def Zq(l:List Str)(s:Str)(hl:z l<=1000000000000000000):aJ Tryz.prog 158 [jy l,sv s] (·=bv (decide (s∈l))):=by
 refine hdP Tryz.func158 rfl [4] λg=>?_;obtain⟨X,o⟩:∃X,decide (s∈l)=X:=⟨_,rfl⟩
 rw[o];unfold jy;simp only[go_sem];refine dv (λk K=>decide (s∈l.drop k)=X/\K.f 0=.one (aq (l.map λs=>[.str s]))/\K.f 1=sv s/\K.f 5=ae k) (z l) ⟨o,?_⟩ ?_
 .exact gW
 rintro k f v w y ⟨Z,a,e,i⟩;simp only at a e i;have t:=ah (k:=k) a7;by_cases p:k<z l
 case neg=>
  have Q:¬(k:Int)<(z l:Int):=a7;rw[y9 a7]at Z;obtain rfl:X=F:=by rw[<-Z];rfl
  simp only[go_sem,a,i,Q,j7]
 have Q:(k:Int)<(z l:Int):=a7;obtain⟨x,I⟩:=getq p;obtain⟨U,u⟩:=Ka Z I;have r:=getD_at (f:=λs:Str=>[D.str s]) I;by_cases hn:x=s
 .obtain rfl:=U hn
  simp only[go_sem,a,e,i,Q,j7,r,hn]
 .simp only[go_sem,a,e,i,Q,j7,r,hn,t]
  refine bN p ⟨u hn,?_⟩;simp only[go_sem,a,e]
def rf(s:Str):bg s=T↔s≠[]/\z s<=20/\s.head?.any letter=T/\s.all eG=T/\s∉jm:=by
 have e:s.takeWhile eG=s↔s.all eG=T:=by
  induction s with
  |nil=>simp
  |cons a s b=>rw[I6,E9];cases h:eG a<;>simp[b]
 unfold bg;rw[B4,e]
def NK(s:Str):aJ Tryz.prog 94 [sv s] (·=bv (bg s)):=by
 refine hdP Tryz.func94 rfl [2] λg=>?_;obtain⟨X,p⟩:∃X,bg s=X:=⟨_,rfl⟩
 rw[p]
 have u:∀h:¬(s≠[]/\z s<=20/\s.head?.any letter=T/\s.all eG=T/\s∉jm),X=F:=λh=>by
  cases X
  .rfl
  .exact absurd ((rf s).1 p) h
 by_cases B:s=[]
 .obtain rfl:=u λh=>h.1 B
  simp only[go_sem,B]
 have bk:¬(z s:Int)=0:=λe=>B (z6 a7);by_cases A:20<(z s:Int)
 .obtain rfl:=u λh=>by have:=h.2.1;omega
  simp only[go_sem,bk,A]
 obtain⟨c,Z⟩:∃c,s[0]?=S c:=getq a7;have a:s.head?=S c:=by rw[<-Z,U6]
 simp only[go_sem,bk,A,Z];refine cg rfl (by simp only[go_sem];exact yb c) ?_;rintro _ rfl;cases L:letter c
 .obtain rfl:=u λh=>by have:=h.2.2.1;rw[a]at this;simp[L]at this
  exact gW
 simp only[go_sem];refine cg rfl (by simp only[go_sem];exact JY) ?_;rintro _ rfl;simp only[go_sem];refine cg rfl (by simp only[go_sem];exact Zq jm s b9) ?_;rintro _ rfl;by_cases o:s∈jm
 .obtain rfl:=u λh=>h.2.2.2.2 o
  simp only[go_sem,o,Tz]
 simp only[go_sem,o,L7];obtain⟨y,v⟩:∃y,s.all eG=y:=⟨_,rfl⟩
 have i:X=y:=by
  cases q:X
  .cases d:y
   .rfl
   .rw[q]at p;rw[d]at v
    have:=(rf s).2 ⟨B,a7,by rw[a];simp[L],v,o⟩;rw[this]at p;cases p
  .rw[q]at p
   rw[<-v,((rf s).1 p).2.2.2.1]
 rw[i];clear p u i o L;refine dv (λk K=>(s.drop k).all eG=y/\K.f 0=sv s/\K.f 3=ae k) (z s) ⟨v,?_⟩ ?_
 .exact gW
 rintro k f G H hk ⟨Z,q0,t⟩;simp only at q0 t;have o:=ah (k:=k) a7;by_cases w:k<z s
 case neg=>
  have Q:¬(k:Int)<(z s:Int):=a7;rw[y9 a7]at Z;obtain rfl:y=T:=Z.symm;simp only[go_sem,q0,t,Q]
 have Q:(k:Int)<(z s:Int):=a7;obtain⟨x,I⟩:=getq w;obtain⟨U,E⟩:=dw Z I;simp only[go_sem,q0,t,Q,I];refine cg rfl (by simp only[go_sem];exact yb x) ?_;rintro _ rfl;cases j:letter x
 .simp only[go_sem,q0,t,I]
  refine cg rfl (by simp only[go_sem];exact JX x) ?_;rintro _ rfl;cases l:digit x
  .by_cases b:(x.toNat:Int)=95
   .have e:eG x=T:=by
     have:x=95:=Q9.1 (by show x.toNat=95;omega);simp[eG,this]
    simp only[go_sem,q0,t,I,b,o];refine bN w ⟨U e,?_⟩;exact W7
   .have e:eG x=F:=by
     have:x≠95:=λe=>b (by rw[e];rfl);simp[eG,j,l,this]
    obtain rfl:=E e;simp only[go_sem,q0,t,I,b]
  .simp only[go_sem,t,o]
   refine bN w ⟨U (by simp[eG,l]),?_⟩;exact W7
 .simp only[go_sem,t,o]
  refine bN w ⟨U (by simp[eG,j]),?_⟩;exact W7
def jL(s:Str):aJ Tryz.prog 61 [sv s] (·=bv (bg s)):=by
 refine hdP Tryz.func61 rfl [2] λg=>?_;have hn:=NK s;have u:s∈jm->bg s=F:=λh=>A5 λq=>q.2.2.2.2 h;obtain⟨X,v⟩:∃X,bg s=X:=⟨_,rfl⟩
 rw[v]at hn u|-;simp only[go_sem];refine cg rfl (by simp only[go_sem];exact JZ) ?_;rintro _ rfl;unfold jy;simp only[go_sem];refine dv (λk K=>K.f 0=sv s/\K.f 3=.one (aq (jm.map λs=>[.str s]))/\K.f 4=ae k) 10 ⟨?_,?_⟩ ?_
 .exact gW
 .exact gW
 rintro k f y A hk ⟨q0,a,e⟩;simp only at q0 a e;have w:=ah (k:=k) a7;have o:((z jm:Nat):Int)=10:=rfl;by_cases p:k<10
 case neg=>
  have Q:¬(k:Int)<10:=a7;simp only[go_sem,q0,a,e,Q,j7,o];refine cg rfl (by simp only[go_sem];exact hn) ?_;rintro _ rfl;exact gW
 have Q:(k:Int)<10:=a7;obtain⟨x,I⟩:=getq (l:=jm) (k:=k) p;have t:=getD_at (f:=λs:Str=>[D.str s]) I;by_cases i:s=x
 .obtain rfl:=u (by rw[i];exact l7 I)
  simp only[go_sem,q0,a,e,Q,j7,o,t,i]
 .simp only[go_sem,q0,a,e,Q,j7,o,t,i,w]
  refine bN p ⟨?_,?_⟩
  .exact W7
  .simp only[go_sem,a]
def zq(l:List Str)(hl:z l<=1000000000000000000):aJ Tryz.prog 60 [jy l] (·=bv (l.all bg)):=by
 refine hdP Tryz.func60 rfl [2] λg=>?_;obtain⟨X,e⟩:∃X,l.all bg=X:=⟨_,rfl⟩
 rw[e];unfold jy;simp only[go_sem];refine dv (λk K=>(l.drop k).all bg=X/\K.f 0=.one (aq (l.map λs=>[.str s]))/\K.f 3=ae k) (z l) ⟨e,?_⟩ ?_
 .exact gW
 rintro k f u v hk ⟨Z,q0,a⟩;simp only at q0 a;have o:=ah (k:=k) a7;by_cases i:k<z l
 case neg=>
  have Q:¬(k:Int)<(z l:Int):=a7;rw[y9 a7]at Z;obtain rfl:X=T:=Z.symm;simp only[go_sem,q0,a,Q,j7]
 have Q:(k:Int)<(z l:Int):=a7;obtain⟨s,I⟩:=getq i;obtain⟨U,p⟩:=dw Z I;have t:=getD_at (f:=λs:Str=>[D.str s]) I;simp only[go_sem,q0,a,Q,j7,t];refine cg rfl (by simp only[go_sem];exact jL s) ?_;rintro _ rfl;cases hn:bg s
 .obtain rfl:=p hn
  exact gW
 .simp only[go_sem,a,o]
  refine bN i ⟨U hn,?_⟩;exact W7
end
section
open Go Go.Am Go.Asm
open Go.Src (bg ay bS fL bA Ex szE bw inE rV)
attribute[local congr]ite_cc
def ep:bg []=F:=rfl
def Bp(kind op num:Int)(name:Str)(kids:List Ex)(q:Nat)(b:q<=25)(J:q<=24->aJ Tryz.prog 161 [eJ kids,ae (q+1:Nat)] (·=bv (bA (q+1) kids))):aJ Tryz.prog 196 [exV (.mk kind op num name kids),ae q] (·=bv (fL q (.mk kind op num name kids))):=by
 refine hdP Tryz.func196 rfl [4] λg=>?_;have y:exV (.mk kind op num name kids)=.agg [ag kind,ag op,.d (.int .u32 num),bF name,aq (kids.map exD)]:=by simp only[exV,exD,aV,s6,x7]
 obtain⟨X,hz⟩:∃X,fL q (.mk kind op num name kids)=X:=⟨_,rfl⟩
 rw[hz,y];rw[fL]at hz;by_cases j:(24:Int)<(q:Int)
 .obtain rfl:X=F:=by rw[<-hz,A5 a7,A9]
  simp only[go_sem,j]
 have a1:q<=24:=a7;have b3:=ah (k:=q) a7;have J:=J a1;unfold eJ at J;have hk:kind=1\/kind=2\/kind=3\/kind=4\/kind=5\/kind=6\/kind=7\/kind=8\/kind=9\/(¬kind=1/\¬kind=2/\¬kind=3/\¬kind=4/\¬kind=5/\¬kind=6/\¬kind=7/\¬kind=8/\¬kind=9):=a7;rcases hk with rfl|rfl|rfl|rfl|rfl|rfl|rfl|rfl|rfl|⟨l,n,o,p,v,P,Y,x,V⟩
 ·-- 1
  by_cases u:op=0
  case neg=>
   exact ld
  by_cases c:name=[]
  case neg=>
   obtain rfl:X=F:=by rw[<-hz];simp[bS,ay,c]
   simp only[go_sem,j,u,c]
  simp only[go_sem,j,u,c];by_cases t:(z kids:Int)=0
  .obtain rfl:X=T:=by
    have:kids=[]:=z6 a7;rw[<-hz,this];simp[bS,ay,bA,a1,c,u]
   simp only[go_sem,j7,t]
  .exact ti
 ·-- 2
  by_cases u:op=0
  case neg=>
   exact ld
  by_cases a:num=0
  case neg=>
   exact mS
  by_cases c:name=[]
  case pos=>
   exact Vp
  simp only[go_sem,j,u,a,c];refine cg rfl YF ?_;rintro _ rfl;cases an:bg name
  .exact V2
  by_cases t:(z kids:Int)=0
  .obtain rfl:X=T:=by
    have:kids=[]:=z6 a7;rw[<-hz,this];simp[bS,ay,bA,a1,an,a,u]
   simp only[go_sem,j7,t]
  .exact ti
 ·-- 3
  by_cases u:op=0
  case neg=>
   exact ld
  by_cases a:num=0
  case neg=>
   exact mS
  by_cases c:name=[]
  case pos=>
   exact Vp
  simp only[go_sem,j,u,a,c];refine cg rfl YF ?_;rintro _ rfl;cases an:bg name
  .exact V2
  by_cases t:(z kids:Int)=1
  case neg=>
   exact VY
  simp only[go_sem,j7,t,b3];refine cg rfl Y9 ?_;rintro _ rfl
  obtain rfl:X=bA (q+1) kids:=by
   have:z kids=1:=a7;rw[<-hz];simp[bS,ay,a1,this,an,a,u]
  exact gW
 ·-- 4
  by_cases u:op=0
  case neg=>
   exact ld
  by_cases a:num=0
  case neg=>
   exact mS
  by_cases c:name=[]
  case pos=>
   exact Vp
  simp only[go_sem,j,u,a,c];refine cg rfl YF ?_;rintro _ rfl;cases an:bg name
  .exact V2
  by_cases t:(z kids:Int)<=6
  case neg=>
   obtain rfl:X=F:=by
    have:¬z kids<=6:=a7;rw[<-hz];simp[bS,this]
   simp only[go_sem,j7,t]
  simp only[go_sem,j7,t,b3];refine cg rfl Y9 ?_;rintro _ rfl
  obtain rfl:X=bA (q+1) kids:=by
   have:z kids<=6:=a7;rw[<-hz];simp[bS,ay,a1,this,an,a,u]
  exact gW
 ·-- 5
  by_cases u:op=0
  case neg=>
   exact ld
  by_cases a:num=0
  case neg=>
   exact mS
  by_cases c:name=[]
  case neg=>
   obtain rfl:X=F:=by rw[<-hz];simp[bS,ay,c]
   simp only[go_sem,j,u,a,c]
  simp only[go_sem,j,u,a,c];by_cases t:(z kids:Int)=0
  .obtain rfl:X=T:=by
    have:kids=[]:=z6 a7;rw[<-hz,this];simp[bS,ay,bA,a1,c,a,u]
   simp only[go_sem,j7,t]
  .exact ti
 ·-- 6
  by_cases a:num=0
  case neg=>
   obtain rfl:X=F:=by rw[<-hz];simp[bS,a]
   simp only[go_sem,j,a]
  by_cases c:name=[]
  case neg=>
   obtain rfl:X=F:=by rw[<-hz];simp[bS,ay,c]
   simp only[go_sem,j,a,c]
  simp only[go_sem,j,a,c];by_cases i:4<=op
  case neg=>
   obtain rfl:X=F:=by rw[<-hz];simp[bS,i]
   simp only[go_sem,j7,i]
  by_cases w:op<=15
  case neg=>
   obtain rfl:X=F:=by rw[<-hz];simp[bS,w]
   simp only[go_sem,j7,i,w]
  by_cases t:(z kids:Int)=2
  case neg=>
   obtain rfl:X=F:=by
    have:¬z kids=2:=a7;rw[<-hz];simp[bS,this]
   simp only[go_sem,j7,i,w,t]
  simp only[go_sem,j7,i,w,t,b3];refine cg rfl Y9 ?_;rintro _ rfl
  obtain rfl:X=bA (q+1) kids:=by
   have:z kids=2:=a7;rw[<-hz];simp[bS,ay,a1,this,c,a,i,w]
  exact gW
 ·-- 7
  by_cases u:op=0
  case neg=>
   exact ld
  by_cases a:num=0
  case neg=>
   exact mS
  by_cases c:name=[]
  case neg=>
   obtain rfl:X=F:=by rw[<-hz];simp[bS,ay,c]
   simp only[go_sem,j,u,a,c]
  simp only[go_sem,j,u,a,c];by_cases t:(z kids:Int)=1
  case neg=>
   exact VY
  simp only[go_sem,j7,t,b3];refine cg rfl Y9 ?_;rintro _ rfl
  obtain rfl:X=bA (q+1) kids:=by
   have:z kids=1:=a7;rw[<-hz];simp[bS,ay,a1,this,c,a,u]
  exact gW
 ·-- 8
  exact u1
 ·-- 9
  exact u1
 .obtain rfl:X=F:=by rw[<-hz];simp[bS,l,n,o,p,v,P,Y,x,V]
  by_cases u:op=0
  case neg=>simp only[go_sem,j,P,u]
  by_cases a:num=0
  case neg=>simp only[go_sem,j,P,u,l,a]
  by_cases c:name=[]
  case neg=>simp only[go_sem,j,P,u,l,a,n,o,p,c]
  simp only[go_sem,j,P,u,l,a,n,o,p,c,v,Y,x,V]
def zr:∀(al:Nat)(l:List Ex)(q:Nat),bw l<=al->z l<=1000000000000000000->rV l->q<=25->aJ Tryz.prog 161 [eJ l,ae q] (·=bv (bA q l)):=by
 intro al
 induction al using Nat.strongRecOn with
 |ind al w=>
 intro l q A hl bl j;refine hdP Tryz.func161 rfl [4] λg=>?_;obtain⟨X,o⟩:∃X,bA q l=X:=⟨_,rfl⟩
 rw[o];rw[Src.BM]at o;unfold eJ;simp only[go_sem];refine dv (λk K=>(l.drop k).all (fL q)=X/\K.f 0=.one (aq (l.map exD))/\K.f 1=ae q/\K.f 5=ae k) (z l) ⟨o,?_⟩ ?_
 .exact gW
 rintro k f E G hk ⟨Z,q0,p,q5⟩;simp only at q0 p q5;have x:=ah (k:=k) a7;by_cases u:k<z l
 case neg=>
  exact VX
 have Q:(k:Int)<(z l:Int):=a7;obtain⟨e,i⟩:=getq u;obtain⟨U,y⟩:=dw Z i;have t:=Src.JL bl i;have az:=Src.Oz (l7 i);have v:=getD_at (f:=exD) i;have H:=bq e;obtain⟨kind,op,num,name,a⟩:=e;rw[szE]at az;rw[inE]at t;have hE:=Bp kind op num name a q j λh=>w (bw a) a7 a (q+1) (l8 _) t.1 t.2 a7;have I:exD (.mk kind op num name a)=[.int .i64 kind,.int .i64 op,.int .u32 num,.str name,.sl (a.map exD)]:=by simp only[exD,aV]
 unfold exV at hE;rw[I]at v hE;simp only[s6,x7]at hE;simp only[go_sem,q0,p,q5,Q,j7,v];refine cg rfl Zf ?_;rintro _ rfl;cases V:fL q (.mk kind op num name a)
 .obtain rfl:=y V
  exact gW
 .simp only[go_sem,q5,x]
  refine bN u ⟨U V,?_⟩;simp only[go_sem,q0,p]
end
section
open Go Go.Am Go.Asm
open Go.Src (bg ay cN bA fy br Ex Stm szE bw szS aN inE rV inS qY)
attribute[local congr]ite_cc
def Bq(kind:Int)(name:Str)(e:List Ex)(th el:List Stm)(q:Nat)(b:q<=25)(l:q<=24->aJ Tryz.prog 161 [eJ e,ae (q+1:Nat)] (·=bv (bA (q+1) e)))
 (hT:q<=24->aJ Tryz.prog 62 [fH th,ae (q+1:Nat)] (·=bv (br (q+1) th)))(n:q<=24->aJ Tryz.prog 62 [fH el,ae (q+1:Nat)] (·=bv (br (q+1) el))):
  aJ Tryz.prog 95 [smV (.mk kind name e th el),ae q] (·=bv (fy q (.mk kind name e th el))):=by
 refine hdP Tryz.func95 rfl [4] λg=>?_;have v:smV (.mk kind name e th el)=.agg [ag kind,bF name,aq (e.map exD),aq (th.map smD),aq (el.map smD)]:=by simp only[smV,smD,aV,ez,s6,x7]
 obtain⟨X,hz⟩:∃X,fy q (.mk kind name e th el)=X:=⟨_,rfl⟩
 rw[hz,v];rw[fy]at hz;by_cases j:(24:Int)<(q:Int)
 .obtain rfl:X=F:=by rw[<-hz,A5 a7,A9,A9]
  simp only[go_sem,j]
 have a1:q<=24:=a7;have a:=ah (k:=q) a7;have l:=l a1;have hT:=hT a1;have n:=n a1;unfold eJ at l;unfold fH at hT n;have hk:kind=1\/kind=2\/kind=3\/kind=4\/kind=5\/kind=6\/kind=7\/(¬kind=1/\¬kind=2/\¬kind=3/\¬kind=4/\¬kind=5/\¬kind=6/\¬kind=7):=a7;rcases hk with rfl|rfl|rfl|rfl|rfl|rfl|rfl|⟨p,t,u,i,o,P,Y⟩
 case' inl=>
  by_cases a6:0<(z el:Int)
  .exact hZ
  have d:el=[]:=z6 a7;by_cases G:0<(z th:Int)
  .exact iS
  have J:th=[]:=z6 a7;by_cases c:name=[]
  .exact R2
  simp only[go_sem,j7,j,a6,G,c];refine cg rfl YF ?_;rintro _ rfl;cases an:bg name
  .exact V3
  by_cases hn:(z e:Int)=1
  case neg=>
   exact o3
  obtain rfl:X=(bA (q+1) e&&(br (q+1) th&&br (q+1) el)):=by
   have:z e=1:=a7;rw[<-hz];simp[cN,ay,a1,this,an,d,J]
  simp only[go_sem,j7,hn,a]
 case' inr.inl=>
  by_cases a6:0<(z el:Int)
  .exact hZ
  have d:el=[]:=z6 a7;by_cases G:0<(z th:Int)
  .exact iS
  have J:th=[]:=z6 a7;by_cases c:name=[]
  .exact R2
  simp only[go_sem,j7,j,a6,G,c];refine cg rfl YF ?_;rintro _ rfl;cases an:bg name
  .exact V3
  by_cases hn:(z e:Int)=2
  case neg=>
   obtain rfl:X=F:=by
    have:¬z e=2:=a7;rw[<-hz];simp[cN,this]
   simp only[go_sem,j7,hn]
  obtain rfl:X=(bA (q+1) e&&(br (q+1) th&&br (q+1) el)):=by
   have:z e=2:=a7;rw[<-hz];simp[cN,ay,a1,this,an,d,J]
  simp only[go_sem,j7,hn,a]
 case' inr.inr.inl=>
  by_cases a6:0<(z el:Int)
  .exact hZ
  have d:el=[]:=z6 a7;by_cases G:0<(z th:Int)
  .exact iS
  have J:th=[]:=z6 a7;by_cases c:name=[]
  case neg=>
   obtain rfl:X=F:=by rw[<-hz];simp[cN,ay,c]
   simp only[go_sem,j7,j,a6,G,c]
  simp only[go_sem,j7,j,a6,G,c];by_cases hn:(z e:Int)=1
  case neg=>
   exact o3
  obtain rfl:X=(bA (q+1) e&&(br (q+1) th&&br (q+1) el)):=by
   have:z e=1:=a7;rw[<-hz];simp[cN,ay,a1,this,c,d,J]
  simp only[go_sem,j7,hn,a]
 case' inr.inr.inr.inl=>
  by_cases c:name=[]
  case neg=>
   obtain rfl:X=F:=by rw[<-hz];simp[cN,ay,c]
   simp only[go_sem,j7,j,c]
  simp only[go_sem,j7,j,c];by_cases hn:(z e:Int)=1
  case neg=>
   exact o3
  obtain rfl:X=(bA (q+1) e&&(br (q+1) th&&br (q+1) el)):=by
   have:z e=1:=a7;rw[<-hz];simp[cN,ay,a1,this,c]
  simp only[go_sem,j7,hn,a]
 case' inr.inr.inr.inr.inl=>
  by_cases a6:0<(z el:Int)
  .exact hZ
  have d:el=[]:=z6 a7;by_cases c:name=[]
  case neg=>
   obtain rfl:X=F:=by rw[<-hz];simp[cN,ay,c]
   simp only[go_sem,j7,j,a6,c]
  simp only[go_sem,j7,j,a6,c];by_cases hn:(z e:Int)=1
  case neg=>
   exact o3
  obtain rfl:X=(bA (q+1) e&&(br (q+1) th&&br (q+1) el)):=by
   have:z e=1:=a7;rw[<-hz];simp[cN,ay,a1,this,c,d]
  simp only[go_sem,j7,hn,a]
 case' inr.inr.inr.inr.inr.inl=>
  by_cases a6:0<(z el:Int)
  .exact hZ
  have d:el=[]:=z6 a7;by_cases G:0<(z th:Int)
  .exact iS
  have J:th=[]:=z6 a7;by_cases c:name=[]
  .exact R2
  simp only[go_sem,j7,j,a6,G,c];refine cg rfl YF ?_;rintro _ rfl;cases an:bg name
  .exact V3
  by_cases hn:(z e:Int)<=6
  case neg=>
   obtain rfl:X=F:=by
    have:¬z e<=6:=a7;rw[<-hz];simp[cN,this]
   simp only[go_sem,j7,hn]
  obtain rfl:X=(bA (q+1) e&&(br (q+1) th&&br (q+1) el)):=by
   have:z e<=6:=a7;rw[<-hz];simp[cN,ay,a1,this,an,d,J]
  simp only[go_sem,j7,hn,a]
 case' inr.inr.inr.inr.inr.inr.inl=>
  by_cases a6:0<(z el:Int)
  .exact hZ
  have d:el=[]:=z6 a7;by_cases G:0<(z th:Int)
  .exact iS
  have J:th=[]:=z6 a7;by_cases c:name=[]
  case neg=>
   obtain rfl:X=F:=by rw[<-hz];simp[cN,ay,c]
   simp only[go_sem,j7,j,a6,G,c]
  simp only[go_sem,j7,j,a6,G,c];by_cases hn:(z e:Int)<=1
  case neg=>
   obtain rfl:X=F:=by
    have:¬z e<=1:=a7;rw[<-hz];simp[cN,this]
   simp only[go_sem,j7,hn]
  obtain rfl:X=(bA (q+1) e&&(br (q+1) th&&br (q+1) el)):=by
   have:z e<=1:=a7;rw[<-hz];simp[cN,ay,a1,this,c,d,J]
  simp only[go_sem,j7,hn,a]
 case inr.inr.inr.inr.inr.inr.inr=>
  obtain rfl:X=F:=by rw[<-hz];simp[cN,p,t,u,i,o,P,Y]
  by_cases a6:0<(z el:Int)
  .simp only[go_sem,j,j7,i,a6]
  by_cases G:0<(z th:Int)
  .simp only[go_sem,j,j7,i,a6,o,G]
  by_cases c:name=[]
  case neg=>simp only[go_sem,j,j7,i,a6,o,G,p,t,P,c]
  simp only[go_sem,j,j7,i,a6,o,G,p,t,P,c,u,Y]
 all_goals refine cg rfl (by simp only[go_sem,a];exact l) ?_
 all_goals rintro _ rfl
 all_goals cases bA (q+1) e
 all_goals simp only[go_sem,a,A9,x8]
 all_goals refine cg rfl (by simp only[go_sem,a];exact hT) ?_
 all_goals rintro _ rfl
 all_goals cases br (q+1) th
 all_goals simp only[go_sem,a,A9,x8]
 all_goals refine cg rfl (by simp only[go_sem,a];exact n) ?_
 all_goals rintro _ rfl
 all_goals simp only[go_sem,x8]
def zt:∀(al:Nat)(l:List Stm)(q:Nat),aN l<=al->z l<=1000000000000000000->qY l->q<=25->aJ Tryz.prog 62 [fH l,ae q] (·=bv (br q l)):=by
 intro al
 induction al using Nat.strongRecOn with
 |ind al u=>
 intro l q A hl bl j;refine hdP Tryz.func62 rfl [4] λg=>?_;obtain⟨X,p⟩:∃X,br q l=X:=⟨_,rfl⟩
 rw[p];rw[Src.BN]at p;unfold fH;simp only[go_sem];refine dv (λk K=>(l.drop k).all (fy q)=X/\K.f 0=.one (aq (l.map smD))/\K.f 1=ae q/\K.f 5=ae k) (z l) ⟨p,?_⟩ ?_
 .exact gW
 rintro k f E G hk ⟨Z,q0,t,q5⟩;simp only at q0 t q5;have x:=ah (k:=k) a7;by_cases v:k<z l
 case neg=>
  exact VX
 have Q:(k:Int)<(z l:Int):=a7;obtain⟨s,o⟩:=getq v;obtain⟨U,y⟩:=dw Z o;have a:=Src.JM bl o;have az:=Src.OA (l7 o);have w:=getD_at (f:=smD) o;obtain⟨kind,name,e,i,el⟩:=s;rw[szS]at az;rw[inS]at a;have hS:=Bq kind name e i el q j (λh=>zr (bw e) e (q+1) (l8 _) a.1.1 a.1.2 a7) (λh=>u (aN i) a7 i (q+1) (l8 _) a.2.1.1 a.2.1.2 a7) (λh=>u (aN el) a7 el (q+1) (l8 _) a.2.2.1 a.2.2.2 a7);have I:smD (.mk kind name e i el)=[.int .i64 kind,.str name,.sl (e.map exD),.sl (i.map smD),.sl (el.map smD)]:=by simp only[smD,aV,ez]
 unfold smV at hS;rw[I]at w hS;simp only[s6,x7]at hS;simp only[go_sem,q0,t,q5,Q,j7,w];refine cg rfl Ze ?_;rintro _ rfl;cases V:fy q (.mk kind name e i el)
 .obtain rfl:=y V
  exact gW
 .simp only[go_sem,q5,x]
  refine bN v ⟨U V,?_⟩;simp only[go_sem,q0,t]
def Kb(p:Src.Prog)(hp:Src.InP p):aJ Tryz.prog 39 [cl p] (·=bv (Src.dP p)):=by
 refine hdP Tryz.func39 rfl [2] λg=>?_;obtain⟨X,o⟩:∃X,Src.dP p=X:=⟨_,rfl⟩
 rw[o];obtain⟨L,pa,pf,u⟩:=hp;unfold Src.dP at o;rw[bO];have hn:=zq p.v L;unfold jy at hn;simp only[go_sem];refine cg rfl (by simp only[go_sem];exact hn) ?_;rintro _ rfl;cases t:p.v.all bg
 .obtain rfl:X=F:=by rw[<-o,t,D5,A9]
  exact gW
 by_cases U:(z p.f:Int)<1
 .obtain rfl:X=F:=by rw[<-o,A5 a7,A9,A9]
  simp only[go_sem,j7,U]
 by_cases c:64<(z p.f:Int)
 .obtain rfl:X=F:=by rw[<-o,A5 a7,A9,A9]
  simp only[go_sem,j7,U,c]
 rw[t,C8 a7,x8,x8]at o;obtain⟨ga,i⟩:∃y,p.a.all Src.iY=y:=⟨_,rfl⟩
 rw[i]at o;simp only[go_sem,j7,U,c];refine dv (λk K=>(p.a.drop k).all Src.iY=ga/\K.f 1=aj 1 (K.gen 1) 0/\K.obj 1=S [aq (p.v.map λs=>[.str s]),aq (p.a.map arD),aq (p.f.map fnD)]/\K.f 3=ae k) (z p.a) ⟨i,?_⟩ ?_
 .exact gW
 rintro k f I av hk ⟨Z,q1,o1,x⟩;simp only at q1 o1 x;have O:=ah (k:=k) a7;by_cases G:k<z p.a
 .have Q:(k:Int)<(z p.a:Int):=a7
  obtain⟨a,t⟩:=getq G;obtain⟨U,H⟩:=dw Z t;have w:=getD_at (f:=arD) t;have A:arD a=[.str a.1,.int .i64 a.2]:=rfl;rw[A]at w;have q:Src.iY a=(bg a.1&&decide (1<=a.2)&&decide (a.2<=4096)):=rfl;have b:Src.iY a=F->X=F:=λe=>by rw[<-o,H e,A9]
  simp only[go_sem,q1,o1,x,Q,j7,w];refine cg rfl (by simp only[go_sem];exact jL a.1) ?_;rintro _ rfl;cases an:bg a.1
  .obtain rfl:=b (by rw[q,an];rfl)
   exact gW
  by_cases l1:a.2<1
  .obtain rfl:=b (by rw[q,A5 (show ¬1<=a.2 by omega),D5,A9])
   simp only[go_sem,q1,o1,x,w,l1]
  by_cases l2:4096<a.2
  .obtain rfl:=b (by rw[q,A5 (show ¬a.2<=4096 by omega),D5])
   simp only[go_sem,q1,o1,x,w,l1,l2]
  simp only[go_sem,q1,o1,x,w,l1,l2,O];refine bN G ⟨U (by rw[q,an,C8 (show 1<=a.2 by omega),C8 (show a.2<=4096 by omega)];rfl),?_⟩;exact Vz
 have Q:¬(k:Int)<(z p.a:Int):=a7;rw[y9 a7]at Z;rw[show ga=T from Z.symm,x8]at o;clear Z hk G i O;simp only[go_sem,q1,o1,x,Q,j7];refine dv (λk K=>(p.f.drop k).all Src.fF=X/\K.f 1=aj 1 (K.gen 1) 0/\K.obj 1=S [aq (p.v.map λs=>[.str s]),aq (p.a.map arD),aq (p.f.map fnD)]/\K.f 4=ae k) (z p.f) ⟨o,?_⟩ ?_
 .exact Vz
 clear Q q1 o1 x;rintro k f I av hk ⟨Z,q1,o1,Y⟩;simp only at q1 o1 Y;have O:=ah (k:=k) a7;by_cases G:k<z p.f
 case neg=>
  have Q:¬(k:Int)<(z p.f:Int):=a7;rw[y9 a7]at Z;obtain rfl:X=T:=Z.symm;simp only[go_sem,q1,o1,Y,Q,j7]
 have Q:(k:Int)<(z p.f:Int):=a7;obtain⟨fn,t⟩:=getq G;obtain⟨I,E⟩:=dw Z t;have w:=getD_at (f:=fnD) t;have a6:fnD fn=[.str fn.name,.sl (fn.p.map λs=>[.str s]),.sl (fn.l.map λs=>[.str s]),.bool fn.word,.sl (fn.body.map smD)]:=rfl;rw[a6]at w;obtain⟨⟨i1,i2⟩,i3,r⟩:=u fn (l7 t);have bf:Src.fF fn=(bg fn.name&&decide (z fn.p<=6)&&(fn.p.all bg&&fn.l.all bg&&br 1 fn.body)):=rfl;rw[bf]at I E;have d:=zq fn.p i1;have h:=zq fn.l i2;have j:=zt (aN fn.body) fn.body 1 (l8 _) i3 r b9;unfold jy at d h;unfold fH at j;simp only[go_sem,q1,o1,Y,Q,j7,w];refine cg rfl (by simp only[go_sem];exact jL fn.name) ?_;rintro _ rfl;cases U:bg fn.name
 .obtain rfl:=E (by rw[U];rfl)
  exact gW
 by_cases h6:6<(z fn.p:Int)
 .obtain rfl:=E (by rw[U,A5 (show ¬z fn.p<=6 by omega)];rfl)
  simp only[go_sem,j7,h6]
 rw[U,C8 (show z fn.p<=6 by omega),x8,x8]at I E;simp only[go_sem,j7,h6];refine cg rfl (by simp only[go_sem];exact d) ?_;rintro _ rfl;cases H:fn.p.all bg
 .obtain rfl:=E (by rw[H];rfl)
  exact gW
 simp only[go_sem];refine cg rfl (by simp only[go_sem];exact h) ?_;rintro _ rfl;cases h3:fn.l.all bg
 .obtain rfl:=E (by rw[H,h3];rfl)
  exact gW
 simp only[go_sem];refine cg rfl (by simp only[go_sem];exact j) ?_;rintro _ rfl;cases h4:br 1 fn.body
 .obtain rfl:=E (by rw[H,h3,h4];rfl)
  exact gW
 .simp only[go_sem,Y,O]
  refine bN G ⟨I (by rw[H,h3,h4];rfl),?_⟩;exact Vz
end
end Go.Proofs.YtlacbjnmkhndiaaGreatDoor
namespace Go.Src
section
attribute [local congr] Go.Am.ite_cc
open Go.Asm (Str)
def aQ:Nat->List Str->Str->Int
 |_,[],_=>-1
 |k,x::l,s=>if x=s then(k:Int)else aQ (k+1) l s
def jz:∀(l:List Str)(k:Nat)(s:Str),aQ k l s = -1\/((k:Int)<=aQ k l s/\aQ k l s<k+z l)
 |[],_,_=>.inl rfl
 |x::l,k,s=>by
   rw[aQ,l4];split
   .omega
   .have:=jz l (k+1) s;omega
def eD(l:List Str):Bool:=(List.range (z l)).all λi=>decide (aQ 0 l (l.getD i [])=i)
def fP(f:Fn):List Str:=f.p++f.l
def da(p:Prog):List Str:=p.v++p.a.map (·.1)++p.f.map (·.name)
def dX(p:Prog)(f:Fn)(s:Str):Int×Int:=
 if 0<=aQ 0 (fP f) s then(1,aQ 0 (fP f) s)
 else
  let k:=aQ 0 (da p) s
  if k<0 then(0,-1)else if k<z p.v then(2,k)else if k-z p.v<z p.a then(3,k-z p.v)else(4,k-z p.v-z p.a)
end
end Go.Src
namespace Go.Proofs.YtlacbjnmkhndiaaGreatDoor
section
open Go Go.Am Go.Asm
open Go.Src (aQ eD fP da dX)
attribute[local congr]ite_cc
def qe(l:List Str)(s:Str)(hl:z l<=1000000000000000000):aJ Tryz.prog 29 [jy l,sv s] (·=ae (aQ 0 l s)):=by
 refine hdP Tryz.func29 rfl [4] λg=>?_;obtain⟨X,o⟩:∃X,aQ 0 l s=X:=⟨_,rfl⟩
 rw[o];unfold jy;simp only[go_sem];refine dv (λk K=>aQ k (l.drop k) s=X/\K.f 0=.one (aq (l.map λs=>[.str s]))/\K.f 1=sv s/\K.f 5=ae k) (z l) ⟨o,?_⟩ ?_
 .exact gW
 rintro k f u v w ⟨Z,a,e,i⟩;simp only at a e i;have t:=ah (k:=k) a7;by_cases p:k<z l
 case neg=>
  have Q:¬(k:Int)<(z l:Int):=a7;rw[y9 a7,aQ]at Z;subst Z;simp only[go_sem,a,i,Q,j7]
 have Q:(k:Int)<(z l:Int):=a7;obtain⟨x,I⟩:=getq p;rw[dk I,aQ]at Z;have r:=getD_at (f:=λs:Str=>[D.str s]) I;by_cases hn:x=s
 .rw[l9 hn]at Z
  subst Z;simp only[go_sem,a,e,i,Q,j7,r,hn]
 .rw[j9 hn]at Z
  simp only[go_sem,a,e,i,Q,j7,r,hn,t];refine bN p ⟨Z,?_⟩;simp only[go_sem,a,e]
def Br(l:List Str)(hl:z l<=1000000000000000000):aJ Tryz.prog 96 [jy l] (·=bv (eD l)):=by
 refine hdP Tryz.func96 rfl [2] λg=>?_;obtain⟨X,o⟩:∃X,eD l=X:=⟨_,rfl⟩
 rw[o];unfold eD at o;have t:=λs=>qe l s hl;unfold jy at t|-;simp only[go_sem];refine dv (λk K=>((List.range (z l)).drop k).all (λi=>decide (aQ 0 l (l.getD i [])=i))=X/\K.f 0=.one (aq (l.map λs=>[.str s]))/\K.f 3=ae k) (z l) ⟨o,?_⟩ ?_
 .exact gW
 rintro k f y A hk ⟨Z,q0,a⟩;simp only at q0 a;have v:=ah (k:=k) a7;by_cases p:k<z l
 case neg=>
  have Q:¬(k:Int)<(z l:Int):=a7;rw[y9 XH]at Z;obtain rfl:X=T:=Z.symm;simp only[go_sem,q0,a,Q,j7]
 have Q:(k:Int)<(z l:Int):=a7;obtain⟨x,I⟩:=getq p;obtain⟨U,u⟩:=dw Z (x:=k) (by simp[p]);rw[show l.getD k []=x by simp[I]]at U u;have w:=getD_at (f:=λs:Str=>[D.str s]) I;simp only[go_sem,q0,a,Q,j7,w];refine cg rfl (by simp only[go_sem];exact t x) ?_;rintro _ rfl;by_cases e:aQ 0 l x=(k:Int)
 .simp only[go_sem,q0,a,e,v]
  refine bN p ⟨U (C8 e),?_⟩;exact W7
 .obtain rfl:=u (A5 e)
  simp only[go_sem,q0,a,e]
def tA(f:Src.Fn):fnV f=.agg [bF f.name,aq (f.p.map λs=>[.str s]),aq (f.l.map λs=>[.str s]),bE f.word,aq (f.body.map smD)]:=rfl
def kf(l:List Str):List.map C.d (l.map λs=>[D.str s]).flatten=l.map λw=>bF w:=by
 induction l with
 |nil=>rfl
 |cons a l b=>simp only[s6,E7,A8,b];rfl
def lM(l:List Str):∀e∈(l.map λs=>[D.str s]),z e=1:=λe a=>by
 obtain⟨s,_,rfl⟩:=D6.1 a;rfl
def zu{o:cT}(f:Src.Fn)(U:z f.p<=1000000)(i:z f.l<=1000000):ck Tryz.prog 1 o 26 [fnV f] (·=jy (fP f)):=by
 refine hdG Tryz.func26 rfl [.tmp 2] λO bn s0 w0 g=>?_;rw[tA];simp only[go_sem];refine cB aO mixed aL [3] [([],[],[0],F),([1],[0],[],F),([4],[0],[],F),([3,5],[],[0],F),([1],[0],[],F),([7],[0],[],F),([6,8],[],[0],F),([9],[],[],T)] 1 rfl c9 rfl b9 ?_;simp only[go_sem]
 (apply bV;(case hg=>first|exact y8|exact⟨_,rfl,by decide,rfl⟩);(case U=>intro b ga d a J;simp only[go_sem]at J|-;exact J))
 iterate 2 (apply aw;(case hg=>first|exact y8|exact⟨_,rfl,by decide,rfl⟩);(case U=>intro b ga d a J;simp only[go_sem]at J|-;exact J))
 (apply bV;(case hg=>exact y8);(case U=>intro b ga d a J;simp only[go_sem,kf,j7]at J|-;exact⟨lM _,⟨b9,a7⟩,J⟩))
 iterate 2 (apply aw;(case hg=>first|exact y8|exact⟨_,rfl,by decide,rfl⟩);(case U=>intro b ga d a J;simp only[go_sem]at J|-;exact J))
 (apply bV;(case hg=>exact y8);(case U=>intro b ga d a J;simp only[go_sem,kf,j7]at J|-;exact⟨a7,lM _,⟨b9,a7⟩,J⟩))
 refine cC y8 ?_;intro a e;simp only[go_sem];refine e _ ?_;clear e a;simp only[go_sem];refine⟨_,⟨_,pn (L:=fP f) XL (by simp[upd,fP,s7]) (by simp[fP]),rfl⟩,rfl⟩
def tB(p:Src.Prog)(hv:z p.v<=1000000)(O:z p.a<=1000000)(hf:z p.f<=1000000):aJ Tryz.prog 25 [cl p] (·=jy (da p)):=by
 refine hdP Tryz.func25 rfl [2] λg=>?_;rw[bO];simp only[go_sem,kf,j7];refine⟨lM _,⟨b9,a7⟩,?_⟩;refine dv (λk K=>∃G:List Str,G++(p.a.drop k).map (·.1)++p.f.map (·.name)=da p/\z G=z p.v+k/\K.f 1=aj 1 (K.gen 1) 0/\K.obj 1=S [aq (p.v.map λs=>[.str s]),aq (p.a.map arD),aq (p.f.map fnD)]/\K.f 3=dL 6 (K.gen 6) 1 0 (z G)/\K.obj 6=S (G.map λw=>bF w)/\K.f 4=ae k) (z p.a) ⟨p.v,rfl,rfl,?_⟩ ?_
 .exact gW
 rintro k f H I E ⟨G,i,d,q1,o1,e,W,u⟩;simp only at q1 o1 e W u;have x:=ah (k:=k) a7;by_cases o:k<z p.a
 .have Q:(k:Int)<(z p.a:Int):=a7
  obtain⟨a,r⟩:=getq o;have t:=getD_at (f:=arD) r;have A:arD a=[.str a.1,.int .i64 a.2]:=rfl;rw[A]at t;simp only[go_sem,q1,o1,e,W,u,Q,j7,t,x];refine⟨l8 _,⟨b9,a7⟩,bN o ⟨G++[a.1],?_,by simp;omega,?_⟩⟩
  .rw[<-i,dk r];simp
  .exact V7
 have Q:¬(k:Int)<(z p.a:Int):=a7;rw[y9 a7]at i;simp only[go_sem,q1,o1,e,u,Q,j7];refine dv (λk K=>∃G:List Str,G++(p.f.drop k).map (·.name)=da p/\z G<=2000000+k/\K.f 1=aj 1 (K.gen 1) 0/\K.obj 1=S [aq (p.v.map λs=>[.str s]),aq (p.a.map arD),aq (p.f.map fnD)]/\K.f 3=dL 6 (K.gen 6) 1 0 (z G)/\K.obj 6=S (G.map λw=>bF w)/\K.f 5=ae k) (z p.f) ⟨G,by rw[<-i];simp,a7,?_⟩ ?_
 .simp only[go_sem,q1,o1,e,W]
 clear q1 o1 e W u Q x o i d E G;rintro k f H I E ⟨G,i,d,q1,o1,e,W,y⟩;simp only at q1 o1 e W y;have x:=ah (k:=k) a7;by_cases o:k<z p.f
 .have Q:(k:Int)<(z p.f:Int):=a7
  obtain⟨fn,r⟩:=getq o;have t:=getD_at (f:=fnD) r;have L:fnD fn=[.str fn.name,.sl (fn.p.map λs=>[.str s]),.sl (fn.l.map λs=>[.str s]),.bool fn.word,.sl (fn.body.map smD)]:=rfl;rw[L]at t;simp only[go_sem,q1,o1,e,W,y,Q,j7,t,x];refine⟨l8 _,⟨b9,a7⟩,bN o ⟨G++[fn.name],?_,by simp;omega,?_⟩⟩
  .rw[<-i,dk r];simp
  .exact V7
 have Q:¬(k:Int)<(z p.f:Int):=a7;rw[y9 a7,x7,s9]at i;simp only[go_sem,q1,o1,e,y,Q,j7];exact⟨_,⟨_,pn rfl W rfl,rfl⟩,by rw[<-i];rfl⟩
def wj{s:St}{a b:Int}:ry s [ae a,ae b] (.tup [ae a,ae b]):=⟨_,⟨_,_,rfl,kM _,_,_,rfl,kM _,rfl⟩,rfl⟩
def Kc{o:cT}(p:Src.Prog)(t:z p.v<=1000000)(u:z p.a<=1000000)(hf:z p.f<=1000000)(i:Nat)(fn:Src.Fn)(j:p.f[i]?=S fn)(U:z fn.p<=1000000)(x:z fn.l<=1000000)(s:Str):
  ck Tryz.prog 1 o 97 [cl p,ae i,sv s] (·=.tup [ae (dX p fn s).1,ae (dX p fn s).2]):=by
 refine hdG Tryz.func97 rfl [.tmp 6,.tmp 7] λO bn s0 w0 g=>?_;have G:=(l6.1 j).1;have y:(i:Int)<(z p.f:Int):=a7;have n:=getD_at (f:=fnD) j;have A:fnD fn=[.str fn.name,.sl (fn.p.map λs=>[.str s]),.sl (fn.l.map λs=>[.str s]),.bool fn.word,.sl (fn.body.map smD)]:=rfl;rw[A]at n;have hN:=zu (o:=o) fn U x;have W:z (fP fn)<=2000000:=by simp[fP];omega
 have E:z (da p)<=3000000:=by simp[da];omega
 have hG:=tB p t u hf;rw[tA]at hN;rw[bO]at hG|-;simp only[go_sem,y,j7,n];refine cU rfl YM ?_;rintro _ rfl;simp only[go_sem];refine jd rfl (by simp only[go_sem];exact qe (fP fn) s a7) ?_;rintro _ rfl;unfold dX;obtain⟨k,hk⟩:∃k,aQ 0 (fP fn) s=k:=⟨_,rfl⟩
 rw[hk];by_cases d:0<=k
 .simp only[go_sem,d]
  exact⟨_,wj,rfl⟩
 rw[j9 d];simp only[go_sem,d];refine jd rfl ZR ?_;rintro _ rfl;simp only[go_sem];refine jd rfl (by simp only[go_sem];exact qe (da p) s a7) ?_;rintro _ rfl;have B:=Src.jz (da p) 0 s;obtain⟨k,hk⟩:∃k,aQ 0 (da p) s=k:=⟨_,rfl⟩
 rw[hk]at B|-;by_cases hn:k<0
 .simp only[go_sem,hn]
  exact⟨_,wj,rfl⟩
 by_cases b:k<(z p.v:Int)
 .simp only[go_sem,hn,b,j7]
  exact⟨_,wj,rfl⟩
 have e:IntKind.i64.wrap (k-(z p.v:Int))=k-z p.v:=wrap_i64 _ a7 a7;by_cases c:k-(z p.v:Int)<(z p.a:Int)
 .simp only[go_sem,hn,b,j7,e,c]
  exact⟨_,wj,rfl⟩
 have w:IntKind.i64.wrap (k-(z p.v:Int)-(z p.a:Int))=k-z p.v-z p.a:=wrap_i64 _ a7 a7;simp only[go_sem,hn,b,j7,e,c];refine aP c9 ?_;simp only[go_sem,e,w,j7];exact⟨_,wj,by rw[j9 hn,j9 b,j9 c]⟩
end
end Go.Proofs.YtlacbjnmkhndiaaGreatDoor
namespace Go.Src
section
attribute [local congr] Go.Am.ite_cc
open Go.Asm (Str)
abbrev Us:=Str×Int×Int
def us1(kind:Int)(name:Str)(n:Nat):List Us:=if kind=2 then [(name,1,0)]else if kind=3 then [(name,3,0)]else if kind=4 then [(name,4,(n:Int))]else []
mutual
def usE:Ex->List Us
 |.mk kind _ _ name kids=>us1 kind name (z kids)++mq kids
def mq:List Ex->List Us
 |[]=>[]
 |e::l=>usE e++mq l
end
def us2(kind:Int)(name:Str)(n:Nat):List Us:=if kind=1 then [(name,1,0)]else if kind=2 then [(name,3,0)]else if kind=6 then [(name,4,(n:Int))]else []
mutual
def usS:Stm->List Us
 |.mk kind name e a el=>us2 kind name (z e)++mq e++gp a++gp el
def gp:List Stm->List Us
 |[]=>[]
 |e::l=>usS e++gp l
end
mutual
theorem NL:∀e:Ex,z (usE e)<=szE e
 |.mk kind _ _ name kids=>by
   have h:=wm kids;rw[usE,szE,j8];have:(us1 kind name (z kids)).length<=1:=by unfold us1;(repeat' split)<;>simp
   omega
theorem wm:∀l:List Ex,z (mq l)<=bw l
 |[]=>by simp[mq]
 |e::l=>by
   have:=NL e;have:=wm l;rw[mq,bw,j8];omega
end
mutual
theorem NM:∀e:Stm,z (usS e)<=szS e
 |.mk kind name e a el=>by
   have:=wm e;have:=wo a;have:=wo el;rw[usS,szS];simp only[j8];have:(us2 kind name (z e)).length<=1:=by unfold us2;(repeat' split)<;>simp
   omega
theorem wo:∀l:List Stm,z (gp l)<=aN l
 |[]=>by simp[gp]
 |e::l=>by
   have:=NM e;have:=wo l;rw[gp,aN,j8];omega
end
end
end Go.Src
namespace Go.Proofs.YtlacbjnmkhndiaaGreatDoor
section
open Go Go.Am Go.Asm
open Go.Src (Ex Stm Us us1 us2 usE mq usS gp szE bw szS aN)
attribute[local congr]ite_cc
def usD(u:Us):List D:=[.str u.1,.int .i64 u.2.1,.int .i64 u.2.2]
def qA(l:List Us):AV:=.one (aq (l.map usD))
def usC(l:List Us):List C:=l.flatMap λu=>(usD u).map .d
def qf(l:List Us):z (usC l)=z l*3:=by
 induction l with
 |nil=>rfl
 |cons a l b=>simp only[usC,G8,j8]at b|-;rw[b];simp[usD];omega
def EX(a b:List Us):usC (a++b)=usC a++usC b:=by simp[usC]
def uS(l:List Us):List.map C.d (l.map usD).flatten=usC l:=by
 induction l with
 |nil=>rfl
 |cons a l b=>simp only[s6,E7,A8,b];rfl
def rZ(l:List Us):∀e∈l.map usD,z e=3:=λe a=>by
 obtain⟨s,_,rfl⟩:=D6.1 a;rfl
def Kd{s:St}{id g:Nat}{l:List Us}(hg:s.gen id=g)(ho:s.obj id=S (usC l)):lW s (dL id g 3 0 (z l)) (qA l):=
 ⟨_,eu hg l usD ho rfl (λa _ x I=>by simp only[usD,A0,B3,F2]at I;rcases I with rfl|rfl|rfl<;>rfl) (λ_ _=>rfl) rfl,rfl⟩
def NN{o:cT}:∀(al:Nat)(l:List Ex),bw l<=al->al<=1000000->ck Tryz.prog 1 o 51 [eJ l] (·=qA (mq l)):=by
 intro al
 induction al using Nat.strongRecOn with
 |ind al ih=>
 intro l hN i;refine hdG Tryz.func51 rfl [.tmp 2] λO bn s0 w0 g=>?_;have bz:=Src.KQ l;have Y:=Src.wm l;unfold eJ;simp only[go_sem];refine JK _ (pL (t:=3) (id:=100) (sz:=3) XD) (λk K=>∃G:List Us,G++mq (l.drop k)=mq l/\K.f 0=.one (aq (l.map exD))/\K.f 3=dL 100 (K.gen 100) 3 0 (z G)/\K.obj 100=S (usC G)/\K.f 4=ae k) (z l) ⟨[],rfl,?_⟩ ?_
 .simp only[St.grab]
  simp only[go_sem];rfl
 rintro k f g1 av hk ⟨G,y,v,x,oi,w⟩;simp only at v x oi w;have hw:=ah (k:=k) a7;by_cases W:k<z l
 case neg=>
  have Q:¬(k:Int)<(z l:Int):=a7;rw[y9 a7,mq,s9]at y;rw[<-y];simp only[go_sem,v,x,w,Q,j7];exact⟨_,Kd rfl oi,rfl⟩
 have Q:(k:Int)<(z l:Int):=a7;obtain⟨e,V⟩:=getq W;have az:=Src.Oz (l7 V);have hg:=getD_at (f:=exD) V;obtain⟨kind,op,num,name,b⟩:=e;rw[dk V,mq,usE]at y;rw[szE]at az;have I:exD (.mk kind op num name b)=[.int .i64 kind,.int .i64 op,.int .u32 num,.str name,.sl (b.map exD)]:=by simp only[exD,aV]
 rw[I]at hg;have J:=ih (bw b) a7 b (l8 _) a7;have a:=Src.wm b;unfold eJ at J
 have d:z G+z (mq b)+1<=1000001:=by
  have:=congrArg z y;simp only[j8]at this;omega
 obtain⟨u,L⟩:∃u,us1 kind name (z b)=u:=⟨_,rfl⟩
 rw[L]at y;unfold us1 at L;have hC:=qf G;by_cases A:kind=2
 case' pos=>
  rw[l9 A]at L;simp only[go_sem,v,x,oi,w,Q,j7,hg,A];refine⟨a7,⟨b9,a7⟩,?_⟩
 case' neg=>
  rw[j9 A]at L;by_cases B:kind=3
  case' pos=>
   rw[l9 B]at L;simp only[go_sem,v,x,oi,w,Q,j7,hg,B];refine⟨a7,⟨b9,a7⟩,?_⟩
  case' neg=>
   rw[j9 B]at L;by_cases E:kind=4
   case' pos=>
    rw[l9 E]at L;simp only[go_sem,v,x,oi,w,Q,j7,hg,E];refine cB aO mixed aL [53,100] [([3],[0],[],F),([0],[],[],F),([4],[],[],F),([41,42],[],[],F),([43],[],[],F),([44],[],[],F),([0],[],[],F),([4],[],[],F),([46,47],[],[],F),([48],[],[],F),([49],[],[],F),([50],[],[],F),([45,51],[],[],F),([52],[],[0],F),([40,53],[],[1],F),([54],[],[],T)] 2 rfl c9 rfl b9 ?_;simp only[go_sem]
    iterate 13 (apply aw;(case hg=>first|exact y8|exact⟨_,rfl,by decide,rfl⟩);(case U=>intro X ga Z H J;simp only[go_sem,v,x,w,Q,hg,j7]at J|-;exact J))
    (apply bV;(case hg=>first|exact y8|exact⟨_,rfl,by decide,rfl⟩);(case U=>intro X ga Z H J;simp only[go_sem]at J|-;exact J))
    (apply bV;(case hg=>exact y8);(case U=>intro X ga Z H J;simp only[go_sem,oi]at J|-;exact⟨a7,⟨b9,a7⟩,J⟩))
    refine cC y8 ?_;intro H a';simp only[go_sem];refine a' _ ?_;clear a' H;simp only[go_sem,v,w,hg]
   case' neg=>
    rw[j9 E]at L;simp only[go_sem,v,x,oi,w,Q,j7,hg,A,B,E]
 all_goals refine cU rfl (by simp only[go_sem];exact J) ?_
 all_goals rintro _ rfl
 all_goals unfold qA
 all_goals simp only[go_sem,uS,j7,x,oi,w,hw]
 all_goals refine⟨by simp only[j8,D3,hC,l4,l5];omega,rZ _,⟨b9,a7⟩,bN W ⟨G++u++mq b,by rw[<-y];simp only[v7],?_⟩⟩
 all_goals subst L
 all_goals simp only[go_sem,v,j8,EX,s7,hC,l8]
 all_goals rw[s7 (by simp only[j8,hC,l4,l5];omega)];rfl
def Dp{o:cT}:∀(al:Nat)(l:List Stm),aN l<=al->al<=1000000->ck Tryz.prog 1 o 27 [fH l] (·=qA (gp l)):=by
 intro al
 induction al using Nat.strongRecOn with
 |ind al V=>
 intro l hN i;refine hdG Tryz.func27 rfl [.tmp 2] λO bn s0 w0 g=>?_;have bz:=Src.KR l;have Y:=Src.wo l;unfold fH;simp only[go_sem];refine JK _ (pL (t:=3) (id:=100) (sz:=3) XD) (λk K=>∃G:List Us,G++gp (l.drop k)=gp l/\K.f 0=.one (aq (l.map smD))/\K.f 3=dL 100 (K.gen 100) 3 0 (z G)/\K.obj 100=S (usC G)/\K.f 4=ae k) (z l) ⟨[],rfl,?_⟩ ?_
 .simp only[St.grab]
  simp only[go_sem];rfl
 rintro k f g1 av hk ⟨G,w,a,v,oi,b⟩;simp only at a v oi b;have hw:=ah (k:=k) a7;by_cases W:k<z l
 case neg=>
  have Q:¬(k:Int)<(z l:Int):=a7;rw[y9 a7,gp,s9]at w;rw[<-w];simp only[go_sem,a,v,b,Q,j7];exact⟨_,Kd rfl oi,rfl⟩
 have Q:(k:Int)<(z l:Int):=a7;obtain⟨e,H⟩:=getq W;have az:=Src.OA (l7 H);have hg:=getD_at (f:=smD) H;obtain⟨kind,name,e,x,el⟩:=e;rw[dk H,gp,usS]at w;rw[szS]at az;have I:smD (.mk kind name e x el)=[.int .i64 kind,.str name,.sl (e.map exD),.sl (x.map smD),.sl (el.map smD)]:=by simp only[smD,aV,ez]
 rw[I]at hg;have hE:=NN (o:=o) (bw e) e (l8 _) a7;have hT:=V (aN x) a7 x (l8 _) a7;have hL:=V (aN el) a7 el (l8 _) a7;unfold eJ at hE;unfold fH at hT hL
 have d:z G+z (mq e)+z (gp x)+z (gp el)+1<=1000001:=by
  have:=congrArg z w;simp only[j8]at this;omega
 obtain⟨u,L⟩:∃u,us2 kind name (z e)=u:=⟨_,rfl⟩
 rw[L]at w;unfold us2 at L;have hC:=qf G;by_cases y:kind=1
 case' pos=>
  rw[l9 y]at L;simp only[go_sem,a,v,oi,b,Q,j7,hg,y];refine⟨a7,⟨b9,a7⟩,?_⟩
 case' neg=>
  rw[j9 y]at L;by_cases A:kind=2
  case' pos=>
   rw[l9 A]at L;simp only[go_sem,a,v,oi,b,Q,j7,hg,A];refine⟨a7,⟨b9,a7⟩,?_⟩
  case' neg=>
   rw[j9 A]at L;by_cases B:kind=6
   case' pos=>
    rw[l9 B]at L;simp only[go_sem,a,v,oi,b,Q,j7,hg,B];refine cB aO mixed aL [53,100] [([3],[0],[],F),([0],[],[],F),([4],[],[],F),([41,42],[],[],F),([43],[],[],F),([44],[],[],F),([0],[],[],F),([4],[],[],F),([46,47],[],[],F),([48],[],[],F),([49],[],[],F),([50],[],[],F),([45,51],[],[],F),([52],[],[0],F),([40,53],[],[1],F),([54],[],[],T)] 2 rfl c9 rfl b9 ?_;simp only[go_sem]
    iterate 13 (apply aw;(case hg=>first|exact y8|exact⟨_,rfl,by decide,rfl⟩);(case U=>intro X ga Z E J;simp only[go_sem,a,v,b,Q,hg,j7]at J|-;exact J))
    (apply bV;(case hg=>first|exact y8|exact⟨_,rfl,by decide,rfl⟩);(case U=>intro X ga Z E J;simp only[go_sem]at J|-;exact J))
    (apply bV;(case hg=>exact y8);(case U=>intro X ga Z E J;simp only[go_sem,oi]at J|-;exact⟨a7,⟨b9,a7⟩,J⟩))
    refine cC y8 ?_;intro E a';simp only[go_sem];refine a' _ ?_;clear a' E;simp only[go_sem,a,b,hg]
   case' neg=>
    rw[j9 B]at L;simp only[go_sem,a,v,oi,b,Q,j7,hg,y,A,B]
 all_goals refine cU rfl Zf ?_
 all_goals rintro _ rfl
 all_goals unfold qA
 all_goals simp only[go_sem,uS,j7,a,v,oi,b,hg]
 all_goals refine⟨by simp only[j8,D3,qf,l4,l5];omega,rZ _,⟨b9,a7⟩,?_⟩
 all_goals try simp only[go_sem,a,b,hg]
 all_goals refine cU rfl Ys ?_
 all_goals rintro _ rfl
 all_goals unfold qA
 all_goals simp only[go_sem,uS,j7,a,b,hg]
 all_goals refine⟨by simp only[j8,D3,qf,l4,l5];omega,rZ _,⟨b9,a7⟩,?_⟩
 all_goals try simp only[go_sem,a,b,hg]
 all_goals refine cU rfl Yt ?_
 all_goals rintro _ rfl
 all_goals unfold qA
 all_goals simp only[go_sem,uS,j7,a,b,hw]
 all_goals refine⟨by simp only[j8,D3,qf,l4,l5];omega,rZ _,⟨b9,a7⟩,bN W ⟨G++u++mq e++gp x++gp el,by rw[<-w];simp only[v7],?_⟩⟩
 all_goals subst L
 all_goals simp only[go_sem,a,j8,EX]
 all_goals (repeat rw[s7 (by simp only[j8,D3,qf,l4,l5];omega)])
 all_goals rfl
end
end Go.Proofs.YtlacbjnmkhndiaaGreatDoor
namespace Go.Src
section
open Go.Asm (Str)
def rh:∀(a b:List Str)(k:Nat)(s:Str),aQ k (a++b) s=if aQ k a s<0 then aQ (k+z a) b s else aQ k a s
 |[],b,k,s=>by simp[aQ]
 |x::a,b,k,s=>by
   rw[C6,aQ,aQ];by_cases h:x=s
   .rw[l9 h,l9 h,j9 a7]
   .rw[j9 h,j9 h,rh a b,l4,show k+1+z a=k+(z a+1) by omega]
def thG(c:Nat):Nat->List Str->List Th
 |_,[]=>[]
 |k,x::l=>(x,c,k)::thG c (k+1) l
def EY(c:Nat):∀(a b:List Str)(k:Nat),thG c k (a++b)=thG c k a++thG c (k+z a) b
 |[],b,k=>by simp[thG]
 |x::a,b,k=>by simp only[C6,thG,EY c a b,l4];rw[show k+1+z a=k+(z a+1) by omega]
def kg{A:Type}(c:Nat)(g:A->Str):∀(l:List A)(k:Nat),l.mapIdx (λi x=>(g x,c,k+i))=thG c k (l.map g)
 |[],k=>rfl
 |x::l,k=>by
   rw[M0,s6,thG,<-kg c g l (k+1)];simp only[LN];congr 2;funext i y;rw[show k+(i+1)=k+1+i by omega]
def kC(c:Nat)(s:Str):∀(l:List Str)(k:Nat),aH (thG c k l) s=if aQ k l s<0 then N else S (c,(aQ k l s).toNat)
 |[],k=>rfl
 |x::l,k=>by
   rw[thG,aH,aQ];by_cases h:x=s
   .rw[l9 h,l9 h,j9 a7];rfl
   .rw[j9 h,j9 h,kC c s l (k+1)]
def wq(f:Fn):aM f=thG 1 0 (fP f):=by
 unfold aM thL fP;rw[EY];have U:=kg 1 (λn:Str=>n) f.p 0;have a:=kg 1 (λn:Str=>n) f.l (z f.p);rw[List.map_id']at U a;rw[U,a,C5]
def wu(p:Prog):aI p=thG 2 0 p.v++thG 3 0 (p.a.map (·.1))++thG 4 0 (p.f.map (·.name)):=by
 unfold aI thV thA thF;have U:=kg 2 (λn:Str=>n) p.v 0;rw[List.map_id']at U;have b:=kg 3 (λa:Str×Int=>a.1) p.a 0;have c:=kg 4 (λf:Fn=>f.name) p.f 0;simp only[C5]at U b c;rw[U,b,c]
def kY:∀(l:List Str)(k:Nat)(s:Str),aQ k l s=if aQ 0 l s<0 then -1 else aQ 0 l s+k
 |[],_,_=>rfl
 |x::l,k,s=>by
   rw[aQ,aQ];by_cases h:x=s
   .rw[l9 h,l9 h,j9 a7];omega
   .rw[j9 h,j9 h,kY l (k+1),kY l (0+1)]
    have:=jz l 0 s;split
    .rfl
    .rw[j9 a7];omega
def Bt(p:Prog)(f:Fn)(s:Str):dX p f s=match aR (aI p) (aM f) s with|some x=>((x.1:Int),(x.2:Int))|none=>(0,-1):=by
 unfold dX aR;rw[wq,kC,wu,jA,jA,kC,kC,kC];have j:=jz (fP f) 0 s;by_cases h:aQ 0 (fP f) s<0
 case neg=>
  rw[l9 a7,j9 h];simp only;rw[I5 a7];rfl
 rw[j9 a7,l9 h];simp only;have i:=jz p.v 0 s;have g:=jz (p.a.map (·.1)) 0 s;have g4:=jz (p.f.map (·.name)) 0 s;rw[j7]at g g4
 have J:aQ 0 (da p) s=if aQ 0 p.v s<0 then(if aQ 0 (p.a.map (·.1)) s<0 then(if aQ 0 (p.f.map (·.name)) s<0 then -1 else aQ 0 (p.f.map (·.name)) s+((z p.v+z p.a:Nat):Int))else aQ 0 (p.a.map (·.1)) s+z p.v)else aQ 0 p.v s:=by
  unfold da;rw[rh,rh,C5,C5,kY _ (z p.v),kY _ (z (p.v++p.a.map (·.1))),j8,j7]
  (repeat' split)<;>omega
 rw[J];generalize aQ 0 p.v s=a at i|-;generalize aQ 0 (p.a.map (·.1)) s=b at g|-;generalize aQ 0 (p.f.map (·.name)) s=c at g4|-;by_cases d:a<0
 case neg=>
  rw[j9 d,j9 d,j9 d,l9 a7];simp only;rw[I5 a7];rfl
 rw[l9 d,l9 d];simp only;by_cases e:b<0
 case neg=>
  rw[j9 e,j9 e,j9 a7,j9 a7,l9 a7];simp only;rw[I5 a7,show b+(z p.v:Int)-z p.v=b by omega];rfl
 rw[l9 e,l9 e];simp only;by_cases Z:c<0
 case neg=>
  rw[j9 Z,j9 Z,j9 a7,j9 a7,j9 a7];simp only;rw[I5 a7,show c+((z p.v+z p.a:Nat):Int)-z p.v-z p.a=c by omega];rfl
 rw[l9 Z,l9 Z];rfl
def EZ{l:List Str}{i:Nat}(h:i<z l):l.getD i []=l[i]:=by simp[List.getD,h]
def ug:∀(l:List Str)(k:Nat),(∀i,i<z l->aQ k l (l.getD i [])=((k+i:Nat):Int))↔l.Nodup
 |[],k=>by simp
 |x::l,k=>by
   rw[L5,<-ug l (k+1)];constructor
   .intro h
    have I:∀i,i<z l->x≠l.getD i []/\aQ (k+1) l (l.getD i [])=((k+1+i:Nat):Int):=λi a=>by
     have:=h (i+1) XH;rw[R5,aQ]at this;split at this
     .omega
     .rename_i c;exact⟨c,by rw[this];congr 1;omega⟩
    refine⟨λb=>?_,λi a=>(I i a).2⟩;obtain⟨i,a,e⟩:=List.getElem_of_mem b;exact(I i a).1 (by rw[EZ a,e])
   .rintro⟨b,h⟩ i a
    cases i with
    |zero=>rw[List.getD_cons_zero,aQ,l9 rfl];rfl
    |succ i=>
      have a:i<z l:=by simpa using a
      rw[R5,aQ,j9 (λe=>b (by rw[e,EZ a];exact J4 a)),h i a];congr 1;omega
def uh(l:List Str):eD l=T↔l.Nodup:=by
 rw[<-ug l 0];unfold eD;simp only[x9,D4,B4,C5]
def zw{l:List Th}{s:Str}:(aH l s).isNone=T↔s∉l.map (·.1):=by
 induction l with
 |nil=>simp[aH]
 |cons t l a=>
   rw[aH];by_cases h:t.1=s
   .simp[h]
   .rw[j9 h,a]
    simp only[s6,A0,Q2];exact⟨λx=>⟨B7 h,x⟩,λx=>x.2⟩
def pF:∀(l b:List Th),bD b l=T↔(∀t∈l,t.1∉b.map (·.1))/\(l.map (·.1)).Nodup
 |[],b=>by simp[bD]
 |t::l,b=>by
   rw[bD,s5,zw,pF l];simp only[A8,s6,x7,C1,E3,List.forall_mem_cons,L5,Q2];constructor
   .rintro⟨U,a,c⟩
    exact⟨⟨U,λx I=>(a x I).1⟩,λd=>by obtain⟨y,f,e⟩:=D6.1 d;exact(a y f).2 e,c⟩
   .rintro⟨⟨U,a⟩,c,g⟩
    exact⟨U,λx I=>⟨a x I,λe=>c (by rw[<-e];exact List.mem_map_of_mem I)⟩,g⟩
def sa(c:Nat):∀(l:List Str)(k:Nat),(thG c k l).map (·.1)=l
 |[],_=>rfl
 |x::l,k=>by rw[thG,s6,sa c l]
def Dq(f:Fn):bD [] (aM f)=eD (fP f):=by
 rw[P2,pF,uh,wq,sa];simp
def Dr(p:Prog):bD [] (aI p)=eD (da p):=by
 rw[P2,pF,uh,wu,A8,A8,sa,sa,sa];simp[da]
def asK(a:Int):Nat:=if a=1 then 2 else a.toNat
def vU(u:Nat->Str->Nat->Bool)(x:Us):Bool:=u (asK x.2.1) x.1 x.2.2.toNat
def NO(u:Nat->Str->Nat->Bool)(kind:Int)(name:Str)(n:Nat):(us1 kind name n).all (vU u)=if kind=2 then u 2 name 0 else if kind=3 then u 3 name 0 else if kind=4 then u 4 name n else T:=by
 unfold us1
 (repeat' split)<;>simp[vU,asK]
def NP(u:Nat->Str->Nat->Bool)(kind:Int)(name:Str)(n:Nat):(us2 kind name n).all (vU u)=if kind=1 then u 2 name 0 else if kind=2 then u 3 name 0 else if kind=6 then u 4 name n else T:=by
 unfold us2
 (repeat' split)<;>simp[vU,asK]
mutual
theorem RT(u:Nat->Str->Nat->Bool):∀e:Ex,okE u e=(usE e).all (vU u)
 |.mk kind _ _ name kids=>by rw[okE,usE,G6,NO,zx u kids]
theorem zx(u:Nat->Str->Nat->Bool):∀l:List Ex,cL u l=(mq l).all (vU u)
 |[]=>rfl
 |e::l=>by rw[cL,mq,G6,RT u e,zx u l]
end
mutual
theorem RU(u:Nat->Str->Nat->Bool):∀e:Stm,okS u e=(usS e).all (vU u)
 |.mk kind name e a el=>by rw[okS,usS,G6,G6,G6,NP,zx u e,sb u a,sb u el]
theorem sb(u:Nat->Str->Nat->Bool):∀l:List Stm,cW u l=(gp l).all (vU u)
 |[]=>rfl
 |e::l=>by rw[cW,gp,G6,RU u e,sb u l]
end
end
section
attribute [local congr] Go.Am.ite_cc
open Go.Asm (Str)
def wi(p:Prog)(i:Nat)(f:Fn)(x:Us):Bool:=
 !(decide (x.2.1=1/\(dX p f x.1).1≠1/\(dX p f x.1).1≠2)||decide (x.2.1=3/\(dX p f x.1).1≠3)||decide (x.2.1=4/\((dX p f x.1).1≠4\/(i:Int)<=(dX p f x.1).2)))
def iu(p:Prog)(i:Nat)(f:Fn):Bool:=eD (fP f)&&(gp f.body).all (wi p i f)
def tw(p:Prog)(f:Fn)(x:Us):Bool:=if x.2.1=4 then(match p.f[(dX p f x.1).2.toNat]? with|some g=>decide ((z g.p:Int)=x.2.2)|none=>T)else T
def xj(x:Us):Prop:=(x.2.1=1\/x.2.1=3\/x.2.1=4)/\0<=x.2.2
def RL(kind:Int)(name:Str)(n:Nat):∀x∈us1 kind name n,xj x:=by
 unfold us1
 (repeat' split)<;>simp[xj]
def RM(kind:Int)(name:Str)(n:Nat):∀x∈us2 kind name n,xj x:=by
 unfold us2
 (repeat' split)<;>simp[xj]
mutual
theorem RN:∀(e:Ex),∀x∈usE e,xj x
 |.mk kind _ _ name kids=>by rw[usE];exact J5.2 ⟨RL _ _ _,zj kids⟩
theorem zj:∀(l:List Ex),∀x∈mq l,xj x
 |[]=>λ_ h=>by rw[mq]at h;cases h
 |e::l=>by rw[mq];exact J5.2 ⟨RN e,zj l⟩
end
mutual
theorem RP:∀(e:Stm),∀x∈usS e,xj x
 |.mk kind name e a el=>by rw[usS];exact J5.2 ⟨J5.2 ⟨J5.2 ⟨RM _ _ _,zj e⟩,rW a⟩,rW el⟩
theorem rW:∀(l:List Stm),∀x∈gp l,xj x
 |[]=>λ_ h=>by rw[gp]at h;cases h
 |e::l=>by rw[gp];exact J5.2 ⟨RP e,rW l⟩
end
def qZ{A:Type}{p q:A->Bool}:∀{l:List A},(∀x∈l,p x=q x)->l.all p=l.all q
 |[],_=>rfl
 |a::l,h=>by rw[E9,E9,h a a8,qZ λx I=>h x YN]
def NB(p:Prog)(i:Nat)(f:Fn)(x:Us)(h:xj x):wi p i f x=vU (λk n _=>bb (aR (aI p) (aM f)) i k n) x:=by
 unfold wi vU bb;simp only;rw[Bt];generalize aR (aI p) (aM f) x.1=r;cases r with
 |none=>rcases h.1 with e|e|e<;>simp[e]
 |some y=>
   obtain⟨a,b⟩:=y;simp only;have U:((a:Int)=1↔a=1)/\((a:Int)=2↔a=2)/\((a:Int)=3↔a=3)/\((a:Int)=4↔a=4)/\((i:Int)<=(b:Int)↔¬b<i):=a7;simp only[ne_eq,U];rcases h.1 with e|e|e<;>rw[e]<;>by_cases c:a=1<;>by_cases d:a=2<;>by_cases g:a=3<;>by_cases j:a=4<;>by_cases l:b<i<;>simp[asK,c,d,g,j,l]<;>omega
def GH(p:Prog)(i:Nat)(f:Fn):iu p i f=fA p i f:=by
 unfold iu fA;rw[Dq,sb,qZ λx I=>NB p i f x (rW _ x I)]
def NC(p:Prog)(i:Nat)(f:Fn)(x:Us)(h:xj x)(b:wi p i f x=T):tw p f x=vU (λk n a=>eV (aR (aI p) (aM f)) p.f i k n a) x:=by
 unfold wi at b;unfold tw vU eV;simp only;rw[Bt]at b|-;generalize aR (aI p) (aM f) x.1=r at b|-;cases r with
 |none=>rcases h.1 with e|e|e<;>simp[e]at b|-
 |some y=>
   simp only at b|-;rcases h.1 with e|e|e
   .simp[e,asK]
   .simp[e,asK]
   .have U:y.1=4/\y.2<i:=by
     rw[e]at b;simp at b;omega
    have c:=h.2;rw[l9 e,l9 ⟨by rw[e];rfl,U.1,U.2⟩];simp only[B6];cases p.f[y.2]? with
    |none=>rfl
    |some g=>simp only;rw[P2,B4,I7];omega
def JR(p:Prog):Nat:=
 if (eD (da p) && bt (iu p) 0 p.f)=F then 4
 else match p.f.getLast? with
  |none=>0
  |some f=>if (p.f.all λf=>(gp f.body).all (tw p f))=T/\f.name=KS/\f.p=[]/\f.word=F then 0 else 1
def nD{A:Type}{c d:Nat->A->Bool}:∀(l:List A)(i:Nat),(∀k x,l[k]?=S x->c (i+k) x=d (i+k) x)->bt c i l=bt d i l
 |[],_,_=>rfl
 |a::l,i,h=>by
   have b:=nD (c:=c) (d:=d) l (i+1) λk x I=>by
    have:=h (k+1) x YT
    rwa [show i+(k+1)=i+1+k by omega]at this
   rw[bt,bt,show c i a=d i a from h 0 a rfl,b]
def ya{A:Type}{c:Nat->A->Bool}:∀{l:List A}{i k:Nat}{x:A},bt c i l=T->l[k]?=S x->c (i+k) x=T
 |a::l,i,0,x,h,I=>by cases I;rw[bt,s5]at h;exact h.1
 |a::l,i,k+1,x,h,I=>by
   rw[bt,s5]at h;rw[show i+(k+1)=i+1+k by omega];exact ya h.2 YT
def rX{A:Type}{c:A->Bool}:∀(l:List A)(i:Nat),bt (λ_=>c) i l=l.all c
 |[],_=>rfl
 |a::l,i=>by rw[bt,E9,rX l]
def TJ(p:Prog):JR p=eZ p:=by
 unfold JR eZ;rw[Dr,show bt (fA p) 0 p.f=bt (iu p) 0 p.f from nD _ _ λk x _=>(GH p _ x).symm];by_cases a:(eD (da p)&&bt (iu p) 0 p.f)=F
 .rw[l9 a,l9 a]
 rw[j9 a,j9 a]
 have a:bt (iu p) 0 p.f=T:=by
  have:(eD (da p)&&bt (iu p) 0 p.f)=T:=by simpa using a
  exact(s5 _ _▸this).2
 have e:(p.f.all λf=>(gp f.body).all (tw p f))=bt (tG p) 0 p.f:=by
  rw[<-rX _ 0];refine nD _ _ λk x I=>?_;unfold tG;rw[sb];have b:=ya a I;unfold iu at b;rw[s5,x9]at b;exact qZ λy c=>NC p (0+k) x y (rW _ y c) (b.2 y c)
 rw[e];cases p.f.getLast?<;>rfl
end
end Go.Src
namespace Go.Proofs.YtlacbjnmkhndiaaGreatDoor
section
open Go Go.Am Go.Asm
open Go.Src (aQ eD fP da dX Us gp wi tw iu bt aN)
attribute[local congr]ite_cc
section
structure Sm (p:Src.Prog):Prop where
 v:p.v.length<=100000
 a:p.a.length<=100000
 f:p.f.length<=100000
 fs:∀f∈p.f,(f.p.length<=100000/\f.l.length<=100000)/\aN f.body<=100000
variable{o:cT}
def ND(p:Src.Prog)(hp:Sm p):ck Tryz.prog 1 o 63 [cl p] (·=bv (eD (da p)&&bt (iu p) 0 p.f)):=by
 refine hdG Tryz.func63 rfl [.tmp 2] λO bn s0 w0 g=>?_;obtain⟨X,hz⟩:∃X,(eD (da p)&&bt (iu p) 0 p.f)=X:=⟨_,rfl⟩
 rw[hz];obtain⟨L,pa,pf,u⟩:=hp;have hG:=tB p a7 a7 a7;have hF:=λi fn hi s=>Kc (o:=o) p a7 a7 a7 i fn hi (by have:=(u fn (l7 hi)).1.1;omega) (by have:=(u fn (l7 hi)).1.2;omega) s;have E:z (da p)<=300000:=by simp[da];omega
 rw[bO]at hG hF|-;simp only[go_sem];refine jd rfl ZR ?_;rintro _ rfl;simp only[go_sem];refine jd rfl (by simp only[go_sem];exact Br (da p) a7) ?_;rintro _ rfl;cases hu:eD (da p)
 .obtain rfl:X=F:=by rw[<-hz,hu];rfl
  exact gW
 rw[hu,x8]at hz;clear hu;simp only[go_sem];refine dv (λk K=>bt (iu p) k (p.f.drop k)=X/\K.f 1=aj 1 (K.gen 1) 0/\K.obj 1=S [aq (p.v.map λs=>[.str s]),aq (p.a.map arD),aq (p.f.map fnD)]/\K.f 3=ae k) (z p.f) ⟨hz,?_⟩ ?_
 .exact gW
 rintro k f g1 av hk ⟨Z,q1,o1,w⟩;simp only at q1 o1 w;have hw:=ah (k:=k) a7;by_cases af:k<z p.f
 case neg=>
  have Q:¬(k:Int)<(z p.f:Int):=a7;rw[y9 a7,bt]at Z;subst Z;simp only[go_sem,q1,o1,w,Q,j7]
 have Q:(k:Int)<(z p.f:Int):=a7;obtain⟨fn,hs⟩:=getq af;have hg:=getD_at (f:=fnD) hs;have a6:fnD fn=[.str fn.name,.sl (fn.p.map λs=>[.str s]),.sl (fn.l.map λs=>[.str s]),.bool fn.word,.sl (fn.body.map smD)]:=rfl;rw[a6]at hg;obtain⟨⟨i1,i2⟩,i3⟩:=u fn (l7 hs);have hF:=hF k fn hs;have hN:=zu (o:=o) fn a7 a7;have hU:=Dp (o:=o) (aN fn.body) fn.body (l8 _) a7;have W:z (fP fn)<=200000:=by simp[fP];omega
 have Y:=Src.wo fn.body;rw[tA]at hN;unfold fH at hU;rw[dk hs,bt]at Z;unfold iu at Z;simp only[go_sem,q1,o1,w,Q,j7,hg];refine cU rfl YM ?_;rintro _ rfl;simp only[go_sem];refine jd rfl (by simp only[go_sem];exact Br (fP fn) a7) ?_;rintro _ rfl;cases hu:eD (fP fn)
 .obtain rfl:X=F:=by rw[<-Z,hu];rfl
  exact gW
 rw[hu,x8]at Z;simp only[go_sem,q1,o1,w,hg];refine cU rfl (by simp only[go_sem];exact hU) ?_;rintro _ rfl;unfold qA;obtain⟨H,al⟩:∃H,gp fn.body=H:=⟨_,rfl⟩
 rw[al]at Z Y|-;obtain⟨y,hy⟩:∃y,H.all (wi p k fn)=y:=⟨_,rfl⟩
 rw[hy]at Z;simp only[go_sem];refine dv (λj K=>(H.drop j).all (wi p k fn)=y/\K.f 1=aj 1 (K.gen 1) 0/\K.obj 1=S [aq (p.v.map λs=>[.str s]),aq (p.a.map arD),aq (p.f.map fnD)]/\K.f 3=ae k/\K.f 4=.one (aq (H.map usD))/\K.f 5=ae j) (z H) ⟨hy,?_⟩ ?_
 .simp only[go_sem,q1,o1,w]
 clear q1 o1 w;rintro j f g1 av hj ⟨hd,q1,o1,w,q4,q5⟩;simp only at q1 o1 w q4 q5;have cc:=ah (k:=j) a7;by_cases G:j<z H
 case neg=>
  have bd:¬(j:Int)<(z H:Int):=a7;rw[y9 a7]at hd;obtain rfl:y=T:=hd.symm;rw[x8]at Z;simp only[go_sem,q4,q5,bd,j7,w,hw];refine bN af ⟨Z,?_⟩;exact Vz
 have bd:(j:Int)<(z H:Int):=a7;obtain⟨x,I⟩:=getq G;obtain⟨U,h2⟩:=dw hd I;have t:=getD_at (f:=usD) I;have d:usD x=[.str x.1,.int .i64 x.2.1,.int .i64 x.2.2]:=rfl;rw[d]at t;have b:wi p k fn x=F->X=F:=λe=>by rw[<-Z,h2 e,A9]
 have hF:=hF x.1;unfold wi at U b;obtain⟨A,hA⟩:∃A,(dX p fn x.1).1=A:=⟨_,rfl⟩
 obtain⟨n,hn⟩:∃n,(dX p fn x.1).2=n:=⟨_,rfl⟩
 obtain⟨s,c,m⟩:=x;simp only at hA hn hF U b t;rw[hA,hn]at U b hF;simp only[go_sem,q4,q5,bd,j7];refine cB aO mixed aL [] [([1],[],[],F),([3],[],[],F),([4],[],[],F),([5],[],[],F),([43,44],[],[],F),([45],[],[],F),([46],[],[],F),([41,42,47],[],[],F),([48],[],[],F),([40],[],[],F),([40],[],[],F),([49],[],[],F),([50],[],[],T)] 0 rfl c9 rfl b9 ?_;simp only[go_sem]
 iterate 7 (apply aw;(case hg=>first|exact y8|exact⟨_,rfl,by decide,rfl⟩);(case U=>intro fa ga oa K' J;simp only[go_sem,q1,o1,w,q4,q5,t]at J|-;exact J))
 refine aw (v:=.tup [ae A,ae n]) y8 (λfa ga oa K' J=>?_) ?_
 .exact Xq
 iterate 4 (apply aw;(case hg=>first|exact y8|exact⟨_,rfl,by decide,rfl⟩);(case U=>intro fa ga oa K' J;simp only[go_sem]at J|-;exact J))
 refine cC y8 ?_;intro K' a';simp only[go_sem];refine a' _ ?_;clear a' K';have b6:(c=1/\A=1)\/(c=1/\A=2)\/(c=3/\A=3)\/(c=4/\A=4/\¬(k:Int)<=n)\/(¬c=1/\¬c=3/\¬c=4)\/(c=1/\¬A=1/\¬A=2)\/(c=3/\¬A=3)\/(c=4/\¬A=4)\/(c=4/\A=4/\(k:Int)<=n):=a7;rcases b6 with h|h|h|h|h|h|h|h|h
 iterate 5
  .simp only[go_sem,q1,o1,w,q4,q5,t,h,cc]
   refine bN G ⟨U (by simp[h]),?_⟩;simp only[go_sem,q1,o1,w,q4]
 iterate 4
  .obtain rfl:=b (by simp[h])
   simp only[go_sem,q1,o1,w,q4,q5,t,h]
def Dm{A:Type}{l:List A}{a:A}(h:l[z l-1]?=S a):l.getLast?=S a:=by rw[Pd];exact h
def GI(p:Src.Prog)(hp:Sm p)(c:bt (iu p) 0 p.f=T)(b:Src.Fn)(bf:p.f[z p.f-1]?=S b):
  ck Tryz.prog 1 o 64 [cl p] (·=bv (decide ((p.f.all λf=>(gp f.body).all (tw p f))=T/\b.name=Src.KS/\b.p=[]/\b.word=F))):=by
 refine hdG Tryz.func64 rfl [.tmp 2] λO bn s0 w0 g=>?_;obtain⟨X,hz⟩:∃X,decide ((p.f.all λf=>(gp f.body).all (tw p f))=T/\b.name=Src.KS/\b.p=[]/\b.word=F)=X:=⟨_,rfl⟩
 rw[hz];obtain⟨L,pa,pf,u⟩:=hp;have hF:=λi fn hi s=>Kc (o:=o) p a7 a7 a7 i fn hi (by have:=(u fn (l7 hi)).1.1;omega) (by have:=(u fn (l7 hi)).1.2;omega) s;rw[bO]at hF|-;obtain⟨q,hq⟩:∃q,(p.f.all λf=>(gp f.body).all (tw p f))=q:=⟨_,rfl⟩
 rw[hq]at hz;simp only[go_sem];refine dv (λk K=>((p.f.drop k).all λf=>(gp f.body).all (tw p f))=q/\K.f 1=aj 1 (K.gen 1) 0/\K.obj 1=S [aq (p.v.map λs=>[.str s]),aq (p.a.map arD),aq (p.f.map fnD)]/\K.f 3=ae k) (z p.f) ⟨hq,?_⟩ ?_
 .exact gW
 rintro k f g1 av hk ⟨Z,q1,o1,E⟩;simp only at q1 o1 E;have hw:=ah (k:=k) a7;by_cases af:k<z p.f
 case neg=>
  have Q:¬(k:Int)<(z p.f:Int):=a7;rw[y9 a7]at Z;rw[show q=T from Z.symm]at hz;have az:0<z p.f:=by have:=(l6.1 bf).1;omega
  have b4:IntKind.i64.wrap ((z p.f:Int)-1)=((z p.f-1:Nat):Int):=by rw[wrap_i64]<;>omega
  have hg:=getD_at (f:=fnD) bf;have a6:fnD b=[.str b.name,.sl (b.p.map λs=>[.str s]),.sl (b.l.map λs=>[.str s]),.bool b.word,.sl (b.body.map smD)]:=rfl;rw[a6]at hg;have c1:Src.KS=[109,97,105,110]:=rfl;rw[c1]at hz;have c8:(0:Int)<=((z p.f-1:Nat):Int):=a7;simp only[go_sem,q1,o1,E,Q,j7,b4,hg];by_cases e1:b.name=[109,97,105,110]
  case neg=>
   obtain rfl:X=F:=by rw[<-hz];simp[e1]
   simp only[go_sem,e1]
  by_cases e2:b.p=[]
  case neg=>
   obtain rfl:X=F:=by rw[<-hz];simp[e2]
   have:¬(z b.p:Int)=0:=λe=>e2 (z6 a7);simp only[go_sem,e1,j7,this]
  cases e3:b.word
  .obtain rfl:X=T:=by rw[<-hz];simp[e1,e2,e3]
   simp only[go_sem,e1,e2]
  .obtain rfl:X=F:=by rw[<-hz];simp[e3]
   simp only[go_sem,e1,e2]
 have Q:(k:Int)<(z p.f:Int):=a7;obtain⟨fn,hs⟩:=getq af;have hg:=getD_at (f:=fnD) hs;have a6:fnD fn=[.str fn.name,.sl (fn.p.map λs=>[.str s]),.sl (fn.l.map λs=>[.str s]),.bool fn.word,.sl (fn.body.map smD)]:=rfl;rw[a6]at hg;obtain⟨⟨i1,i2⟩,i3⟩:=u fn (l7 hs);have hF:=hF k fn hs;have hU:=Dp (o:=o) (aN fn.body) fn.body (l8 _) a7;have Y:=Src.wo fn.body;have an:=Src.rW fn.body;have bo:=Src.ya c hs;unfold iu at bo;rw[s5,x9,C5]at bo;have bo:=bo.2;unfold fH at hU;obtain⟨b1,b2⟩:=dw Z hs;simp only[go_sem,q1,o1,E,Q,j7,hg];refine cU rfl (by simp only[go_sem];exact hU) ?_;rintro _ rfl;unfold qA;obtain⟨us,al⟩:∃us,gp fn.body=us:=⟨_,rfl⟩
 rw[al]at b1 b2 Y an bo|-;obtain⟨y,hy⟩:∃y,us.all (tw p fn)=y:=⟨_,rfl⟩
 rw[hy]at b1 b2;simp only[go_sem];refine dv (λj K=>(us.drop j).all (tw p fn)=y/\K.f 1=aj 1 (K.gen 1) 0/\K.obj 1=S [aq (p.v.map λs=>[.str s]),aq (p.a.map arD),aq (p.f.map fnD)]/\K.f 3=ae k/\K.f 4=.one (aq (us.map usD))/\K.f 5=ae j) (z us) ⟨hy,?_⟩ ?_
 .simp only[go_sem,q1,o1,E]
 clear q1 o1 E;rintro j f g1 av hj ⟨hd,q1,o1,E,q4,q5⟩;simp only at q1 o1 E q4 q5;have cc:=ah (k:=j) a7;by_cases G:j<z us
 case neg=>
  have bd:¬(j:Int)<(z us:Int):=a7;rw[y9 a7]at hd;simp only[go_sem,q4,q5,bd,j7,E,hw];refine bN af ⟨b1 hd.symm,?_⟩;exact Vz
 have bd:(j:Int)<(z us:Int):=a7;obtain⟨x,I⟩:=getq G;obtain⟨U,h2⟩:=dw hd I;have t:=getD_at (f:=usD) I;have w:=l7 I;have ar:=an x w;have W:=bo x w;have d:usD x=[.str x.1,.int .i64 x.2.1,.int .i64 x.2.2]:=rfl;rw[d]at t;have hF:=hF x.1;unfold tw at U h2;unfold wi at W;by_cases e4:x.2.1=4
 case neg=>
  rw[j9 e4]at U;simp only[go_sem,q1,o1,E,q4,q5,bd,j7,t,e4,cc];refine bN G ⟨U rfl,?_⟩;simp only[go_sem,q1,o1,E,q4]
 rw[l9 e4]at U h2;obtain⟨A,hA⟩:∃A,(dX p fn x.1).1=A:=⟨_,rfl⟩
 obtain⟨n,hn⟩:∃n,(dX p fn x.1).2=n:=⟨_,rfl⟩
 have B:=Src.Bt p fn x.1
 have bk:0<=n/\n<z p.f:=by
  rw[hA,hn,e4]at W;simp at W;refine⟨?_,a7⟩;rw[<-hn,B];cases V:Src.aR (Src.aI p) (Src.aM fn) x.1 with
  |none=>
    rw[B,V]at hA;simp only at hA;omega
  |some r=>simp
 rw[hn]at U h2;rw[hA,hn]at hF;obtain⟨m,rfl⟩:∃m:Nat,n=(m:Int):=⟨n.toNat,a7⟩
 rw[B6]at U h2;obtain⟨h,P⟩:=getq (l:=p.f) (k:=m) a7;rw[P]at U h2;simp only at U h2;have H:=getD_at (f:=fnD) P;have a6:fnD h=[.str h.name,.sl (h.p.map λs=>[.str s]),.sl (h.l.map λs=>[.str s]),.bool h.word,.sl (h.body.map smD)]:=rfl;rw[a6]at H;simp only[go_sem,q1,o1,E,q4,q5,bd,j7,t,e4];refine cB aO mixed aL [] [([1],[],[],F),([3],[],[],F),([4],[],[],F),([5],[],[],F),([38,39],[],[],F),([40],[],[],F),([41],[],[],F),([36,37,42],[],[],F),([43],[],[],F),([35],[],[],F),([35],[],[],F),([44],[],[],F),([45],[],[],T)] 0 rfl c9 rfl b9 ?_;simp only[go_sem]
 iterate 7 (apply aw;(case hg=>first|exact y8|exact⟨_,rfl,by decide,rfl⟩);(case U=>intro fa ga oa K' J;simp only[go_sem,q1,o1,E,q4,q5,t]at J|-;exact J))
 refine aw (v:=.tup [ae A,ae m]) y8 (λfa ga oa K' J=>?_) ?_
 .exact Xq
 iterate 4 (apply aw;(case hg=>first|exact y8|exact⟨_,rfl,by decide,rfl⟩);(case U=>intro fa ga oa K' J;simp only[go_sem]at J|-;exact J))
 refine cC y8 ?_;intro K' a';simp only[go_sem];refine a' _ ?_;clear a' K';simp only[go_sem];refine aP c9 ?_;have bl:(0:Int)<=(m:Int):=a7;by_cases e5:(z h.p:Int)=x.2.2
 .simp only[go_sem,q1,o1,E,q4,q5,t,H,bl,j7,e5,cc]
  refine bN G ⟨U (C8 e5),?_⟩;simp only[go_sem,q1,o1,E,q4]
 .have ad:y=F:=h2 (A5 e5)
  rw[b2 ad]at hz;obtain rfl:X=F:=by rw[<-hz];simp
  simp only[go_sem,q1,o1,E,q4,q5,t,H,bl,j7,e5]
def JS(p:Src.Prog)(hp:Sm p)(U:1<=z p.f):ck Tryz.prog 1 o 40 [cl p] (·=ae (Src.eZ p:Nat)):=by
 refine hdG Tryz.func40 rfl [.tmp 2] λO bn s0 w0 g=>?_;rw[<-Src.TJ];have hN:=ND (o:=o) p hp;obtain⟨b,d⟩:=getq (l:=p.f) (k:=z p.f-1) a7;have A:=λh=>GI (o:=o) p hp h b d;obtain⟨X,a⟩:∃X,Src.JR p=X:=⟨_,rfl⟩
 rw[a];unfold Src.JR at a;rw[Dm d]at a;rw[bO]at hN A|-;simp only[go_sem];refine cU rfl YM ?_;rintro _ rfl;by_cases hb:(eD (da p)&&bt (iu p) 0 p.f)=F
 .rw[l9 hb]at a
  subst a;simp only[go_sem,hb]
 rw[j9 hb]at a;have hb:(eD (da p)&&bt (iu p) 0 p.f)=T:=by simpa using hb
 have A:=A (s5 _ _▸hb).2;simp only[go_sem,hb];refine cU rfl (by simp only[go_sem];exact A) ?_;rintro _ rfl;by_cases h:(p.f.all λf=>(gp f.body).all (tw p f))=T/\b.name=Src.KS/\b.p=[]/\b.word=F
 .simp only[l9 h]at a
  subst a;simp only[go_sem,C8 h]
 .simp only[j9 h]at a
  subst a;simp only[go_sem,A5 h]
end
end
end Go.Proofs.YtlacbjnmkhndiaaGreatDoor
namespace Go.Src
section
attribute [local congr] Go.Am.ite_cc
open Go.Asm (Str)
section
def nE:∀(fs:List Fn)(k:Nat)(s:Str),bW fs s=if aQ k (fs.map (·.name)) s<0 then N else fs[(aQ k (fs.map (·.name)) s).toNat-k]?
 |[],_,_=>rfl
 |f::l,k,s=>by
   rw[bW,s6,aQ];by_cases h:f.name=s
   .rw[l9 h,l9 h,j9 a7,show ((k:Int).toNat-k)=0 by omega];rfl
   .rw[j9 h,j9 h,nE l (k+1)]
    have:=jz (l.map (·.name)) (k+1) s;split
    .rfl
    .rename_i a
     rw[show (aQ (k+1) (l.map (·.name)) s).toNat-k=((aQ (k+1) (l.map (·.name)) s).toNat-(k+1))+1 by omega,u7]
def rY(fs:List Fn)(s:Str):Int:=aQ 0 (fs.map (·.name)) s
variable{fs:List Fn}
def TK{s:Str}(h:rY fs s<0):bW fs s=N:=(nE fs 0 s).trans (l9 h)
def TM{s:Str}(h:¬rY fs s<0):∃(k:Nat)(f:Fn),rY fs s=(k:Int)/\fs[k]?=S f/\bW fs s=S f:=by
 have c:=jz (fs.map (·.name)) 0 s;rw[j7]at c;unfold rY at h|-;obtain⟨k,a⟩:∃k:Nat,aQ 0 (fs.map (·.name)) s=(k:Int):=⟨(aQ 0 (fs.map (·.name)) s).toNat,a7⟩
 have b:k<z fs:=a7;refine⟨k,fs[k],a,v8 b,?_⟩;rw[nE fs 0,j9 h,a];simp[b]
end
end
end Go.Src
namespace Go.Proofs.YtlacbjnmkhndiaaGreatDoor
section
open Go Go.Am Go.Asm
open Go.Src (Ex Stm szE bw szS aN rY bW fM fb cj jn bK dm cI gQ aX)
attribute[local congr]ite_cc
section
def nF(p:Src.Prog)(hf:z p.f<=1000000)(s:Str):aJ Tryz.prog 98 [cl p,sv s] (·=ae (rY p.f s)):=by
 refine hdP Tryz.func98 rfl [4] λg=>?_;unfold rY;obtain⟨X,o⟩:∃X,Src.aQ 0 (p.f.map (·.name)) s=X:=⟨_,rfl⟩
 rw[o,bO];simp only[go_sem];refine dv (λk K=>Src.aQ k ((p.f.drop k).map (·.name)) s=X/\K.f 2=aj 2 (K.gen 2) 0/\K.obj 2=S [aq (p.v.map λs=>[.str s]),aq (p.a.map arD),aq (p.f.map fnD)]/\K.f 1=sv s/\K.f 5=ae k) (z p.f) ⟨o,?_⟩ ?_
 .exact gW
 rintro k f E G H ⟨Z,e,i,r,t⟩;simp only at e i r t;have y:=ah (k:=k) a7;by_cases w:k<z p.f
 case neg=>
  have Q:¬(k:Int)<(z p.f:Int):=a7;rw[y9 a7]at Z;have o:X = -1:=Z.symm;simp only[go_sem,e,i,t,Q,j7,o]
 have Q:(k:Int)<(z p.f:Int):=a7;obtain⟨fn,x⟩:=getq w;have u:=getD_at (f:=fnD) x;have A:fnD fn=[.str fn.name,.sl (fn.p.map λs=>[.str s]),.sl (fn.l.map λs=>[.str s]),.bool fn.word,.sl (fn.body.map smD)]:=rfl;rw[A]at u;rw[dk x,s6,Src.aQ]at Z;by_cases hn:fn.name=s
 .rw[l9 hn]at Z
  subst Z;simp only[go_sem,e,i,r,t,Q,j7,u,hn]
 .rw[j9 hn]at Z
  simp only[go_sem,e,i,r,t,Q,j7,u,hn,y];refine bN w ⟨Z,?_⟩;simp only[go_sem,e,i,r]
section
variable{s:St}{p:Src.Prog}
def zk{x:Str}:dU s [.agg [aq (p.v.map λs=>[.str s]),aq (p.a.map arD),aq (p.f.map fnD)],sv x] [cl p,sv x]:=⟨_,_,rfl,vY (jt p),_,_,rfl,⟨_,.d _,rfl⟩,rfl⟩
def zl{x:List (List D)}:dU s [.agg [aq (p.v.map λs=>[.str s]),aq (p.a.map arD),aq (p.f.map fnD)],.one (aq x)] [cl p,.one (aq x)]:=⟨_,_,rfl,vY (jt p),_,_,rfl,⟨_,.d _,rfl⟩,rfl⟩
end
def ud{fs:List Src.Fn}:∀l:List Ex,cj fs l=l.all (fb fs)
 |[]=>by simp[cj]
 |e::l=>by simp[cj,ud l]
def pD{fs:List Src.Fn}:∀l:List Stm,bK fs l=l.all (jn fs)
 |[]=>by simp[bK]
 |e::l=>by simp[bK,pD l]
def Bn{fs:List Src.Fn}{t:Int}:∀l:List Ex,cI fs t l=l.all λe=>decide (dm fs e=t)
 |[]=>by simp[cI]
 |e::l=>by simp[cI,Bn l]
def ue{fs:List Src.Fn}{w:Bool}:∀l:List Stm,aX fs w l=l.all (gQ fs w)
 |[]=>by simp[aX]
 |e::l=>by simp[aX,ue l]
def NF(p:Src.Prog)(hf:z p.f<=1000000):∀(al:Nat)(l:List Ex),bw l<=al->al<=1000000000->aJ Tryz.prog 99 [cl p,eJ l] (·=bv (cj p.f l)):=by
 intro al
 induction al using Nat.strongRecOn with
 |ind al H=>
 intro l Y i;refine hdP Tryz.func99 rfl [4] λg=>?_;obtain⟨X,A⟩:∃X,cj p.f l=X:=⟨_,rfl⟩
 rw[A,bO];rw[ud]at A;have bz:=Src.KQ l;unfold eJ;simp only[go_sem];refine dv (λk K=>(l.drop k).all (fb p.f)=X/\K.f 2=aj 2 (K.gen 2) 0/\K.obj 2=S [aq (p.v.map λs=>[.str s]),aq (p.a.map arD),aq (p.f.map fnD)]/\K.f 1=.one (aq (l.map exD))/\K.f 5=ae k) (z l) ⟨A,?_⟩ ?_
 .exact gW
 rintro k f g1 av hk ⟨Z,u,w,q1,q5⟩;simp only at u w q1 q5;have L:=ah (k:=k) a7;by_cases G:k<z l
 case neg=>
  exact wa
 have Q:(k:Int)<(z l:Int):=a7;obtain⟨e,E⟩:=getq G;obtain⟨U,r⟩:=dw Z E;have az:=Src.Oz (l7 E);have x:=getD_at (f:=exD) E;obtain⟨kind,op,num,name,o⟩:=e;rw[szE]at az;rw[fb]at U r;have I:exD (.mk kind op num name o)=[.int .i64 kind,.int .i64 op,.int .u32 num,.str name,.sl (o.map exD)]:=by simp only[exD,aV]
 rw[I]at x;have J:=H (bw o) a7 o (l8 _) a7;unfold eJ at J;simp only[go_sem,q1,q5,Q,j7];refine dr aO mixed c9 ?_;by_cases y:kind=4
 case' pos=>
  rw[l9 y]at U r;simp only[go_sem,q1,u,w,q5,x,Q,y];refine bc rfl (nF p hf name) Zg rfl ?_;by_cases hn:rY p.f name<0
  .obtain rfl:=r (by rw[Src.TK hn];rfl)
   simp only[go_sem,hn]
  obtain⟨_,_,_,_,O⟩:=Src.TM hn;rw[O,C9,x8]at U r;simp only[go_sem,q1,u,w,q5,x,Q,hn]
 case' neg=>
  rw[j9 y,x8]at U r;simp only[go_sem,q1,u,w,q5,x,Q,y]
 all_goals refine bc rfl J Zh rfl ?_
 all_goals cases t:cj p.f o
 all_goals simp only[go_sem,t,q5,L]
 any_goals exact(r t).symm
 all_goals refine bN G ⟨U t,?_⟩
 all_goals simp only[go_sem,u,w,q1]
def zm(p:Src.Prog)(hf:z p.f<=1000000):∀(al:Nat)(l:List Stm),aN l<=al->al<=1000000000->aJ Tryz.prog 65 [cl p,fH l] (·=bv (bK p.f l)):=by
 intro al
 induction al using Nat.strongRecOn with
 |ind al G=>
 intro l hN i;refine hdP Tryz.func65 rfl [4] λg=>?_;obtain⟨X,A⟩:∃X,bK p.f l=X:=⟨_,rfl⟩
 rw[A,bO];rw[pD]at A;have bz:=Src.KR l;unfold fH;simp only[go_sem];refine dv (λk K=>(l.drop k).all (jn p.f)=X/\K.f 2=aj 2 (K.gen 2) 0/\K.obj 2=S [aq (p.v.map λs=>[.str s]),aq (p.a.map arD),aq (p.f.map fnD)]/\K.f 1=.one (aq (l.map smD))/\K.f 5=ae k) (z l) ⟨A,?_⟩ ?_
 .exact gW
 rintro k f g1 av hk ⟨Z,r,u,q1,q5⟩;simp only at r u q1 q5;have hw:=ah (k:=k) a7;by_cases H:k<z l
 case neg=>
  exact wa
 have Q:(k:Int)<(z l:Int):=a7;obtain⟨e,E⟩:=getq H;obtain⟨U,o⟩:=dw Z E;have az:=Src.OA (l7 E);have w:=getD_at (f:=smD) E;obtain⟨kind,name,e,x,el⟩:=e;rw[szS]at az;rw[jn]at U o;have I:smD (.mk kind name e x el)=[.int .i64 kind,.str name,.sl (e.map exD),.sl (x.map smD),.sl (el.map smD)]:=by simp only[smD,aV,ez]
 rw[I]at w;have L:=NF p hf (bw e) e (l8 _) a7;have O:=G (aN x) a7 x (l8 _) a7;have Y:=G (aN el) a7 el (l8 _) a7;unfold eJ at L;unfold fH at O Y;simp only[go_sem,q1,q5,Q,j7];refine dr aO mixed c9 ?_;by_cases y:kind=6
 case' pos=>
  rw[l9 y]at U o;simp only[go_sem,q1,r,u,q5,w,Q,y];refine bc rfl (nF p hf name) Zg rfl ?_;by_cases hn:rY p.f name<0
  .obtain rfl:=o (by rw[Src.TK hn];rfl)
   simp only[go_sem,hn]
  obtain⟨_,_,_,_,hs⟩:=Src.TM hn;rw[hs,C9,x8]at U o;simp only[go_sem,q1,r,u,q5,w,Q,hn]
 case' neg=>
  rw[j9 y,x8]at U o;simp only[go_sem,q1,r,u,q5,w,Q,y]
 all_goals refine bc rfl L Zh rfl ?_
 all_goals cases t:cj p.f e
 all_goals simp only[go_sem,t,q1,r,u,q5,w,Q]
 any_goals exact(o (by rw[t];rfl)).symm
 all_goals refine bc rfl O Zh rfl ?_
 all_goals cases c:bK p.f x
 all_goals simp only[go_sem,c,q1,r,u,q5,w,Q]
 any_goals exact(o (by rw[t,c];rfl)).symm
 all_goals refine bc rfl Y Zh rfl ?_
 all_goals cases b:bK p.f el
 all_goals simp only[go_sem,b,q5,hw]
 any_goals exact(o (by rw[t,c,b];rfl)).symm
 all_goals refine bN H ⟨U (by rw[t,c,b];rfl),?_⟩
 all_goals simp only[go_sem,r,u,q1]
end
section
variable{fs:List Src.Fn}
def JT{s:Str}(h:rY fs s<0):fM fs s=F:=by unfold fM;rw[Src.TK h]
def RQ(p:Src.Prog)(hf:z p.f<=1000000)(kind op num:Int)(name:Str)(kids:List Ex)(hW:aJ Tryz.prog 101 [cl p,eJ kids] (·=bv (cI p.f 1 kids)))(hB:aJ Tryz.prog 100 [cl p,eJ kids] (·=bv (cI p.f 2 kids))):
  aJ Tryz.prog 162 [cl p,exV (.mk kind op num name kids)] (·=ae (dm p.f (.mk kind op num name kids))):=by
 refine hdP Tryz.func162 rfl [4] λg=>?_;have j:exV (.mk kind op num name kids)=.agg [ag kind,ag op,.d (.int .u32 num),bF name,aq (kids.map exD)]:=by simp only[exV,exD,aV,s6,x7]
 have hN:=nF p hf name;obtain⟨X,hz⟩:∃X,dm p.f (.mk kind op num name kids)=X:=⟨_,rfl⟩
 rw[hz,j];rw[dm]at hz;unfold eJ at hW hB;rw[bO]at hW hB hN|-;have hk:kind=1\/kind=2\/kind=5\/kind=3\/kind=4\/kind=6\/kind=7\/kind=8\/kind=9\/(¬kind=1/\¬kind=2/\¬kind=3/\¬kind=4/\¬kind=5/\¬kind=6/\¬kind=7/\¬kind=8/\¬kind=9):=a7;rcases hk with rfl|rfl|rfl|rfl|rfl|rfl|rfl|rfl|rfl|⟨n,o,q,t,u,P,Y,v,V⟩
 iterate 3
  .obtain rfl:X=1:=by rw[<-hz];simp
   simp only[go_sem]
 .simp only[go_sem]
  refine cg rfl Zi ?_;rintro _ rfl;cases hw:cI p.f 1 kids
  .exact VG
  .obtain rfl:X=1:=by rw[<-hz,hw];simp
   exact gW
 .simp only[go_sem]
  refine cg rfl YM ?_;rintro _ rfl;by_cases hn:rY p.f name<0
  .obtain rfl:X=0:=by rw[<-hz,JT hn];simp
   simp only[go_sem,show ¬0<=rY p.f name by omega]
  obtain⟨k,fn,hk,E,x⟩:=Src.TM hn;have e:=getD_at (f:=fnD) E;have y:fnD fn=[.str fn.name,.sl (fn.p.map λs=>[.str s]),.sl (fn.l.map λs=>[.str s]),.bool fn.word,.sl (fn.body.map smD)]:=rfl;rw[y]at e;have G:fM p.f name=fn.word:=by unfold fM;rw[x]
  rw[G]at hz;have i:(0:Int)<=(k:Int):=a7;cases a:fn.word
  .obtain rfl:X=0:=by rw[<-hz,a];simp
   simp only[go_sem,hk,i,e,a]
  simp only[go_sem,hk,i,e,a];refine cg rfl Zi ?_;rintro _ rfl;cases hw:cI p.f 1 kids
  .exact VG
  .obtain rfl:X=1:=by rw[<-hz,hw,a];simp
   exact gW
 .simp only[go_sem]
  refine cg rfl Zi ?_;rintro _ rfl;cases hw:cI p.f 1 kids
  .exact VG
  by_cases b:op=14
  .obtain rfl:X=2:=by rw[<-hz,hw,b];simp
   simp only[go_sem,b]
  by_cases w:op=15
  .obtain rfl:X=2:=by rw[<-hz,hw,w];simp
   simp only[go_sem,w]
  obtain rfl:X=1:=by rw[<-hz,hw];simp[b,w]
  simp only[go_sem,b,w]
 iterate 3
  .simp only[go_sem]
   refine cg rfl YW ?_;rintro _ rfl;cases hw:cI p.f 2 kids
   .exact VG
   .obtain rfl:X=2:=by rw[<-hz,hw];simp
    exact gW
 .obtain rfl:X=0:=by rw[<-hz,l9 a7]
  simp only[go_sem,n,o,q,t,u,P,Y,v,V]
def NG(p:Src.Prog)(hf:z p.f<=1000000):∀(al:Nat)(l:List Ex),bw l<=al->al<=1000000000->aJ Tryz.prog 101 [cl p,eJ l] (·=bv (cI p.f 1 l))/\aJ Tryz.prog 100 [cl p,eJ l] (·=bv (cI p.f 2 l)):=by
 intro al
 induction al using Nat.strongRecOn with
 |ind al O=>
 intro l hN i;have bz:=Src.KQ l
 have H:∀(k:Nat)(e:Ex),l[k]?=S e->aJ Tryz.prog 162 [cl p,exV e] (·=ae (dm p.f e)):=λk e w=>by
  have az:=Src.Oz (l7 w);obtain⟨kind,op,num,name,o⟩:=e;rw[szE]at az;have:=O (bw o) a7 o (l8 _) a7;exact RQ p hf kind op num name o this.1 this.2
 unfold eJ;rw[bO]at H|-;constructor
 case' left=>
  refine hdP Tryz.func101 rfl [4] λg=>?_;obtain⟨t,u⟩:∃t:Int,t=1:=⟨_,rfl⟩
  rw[show cI p.f 1 l=cI p.f t l by rw[u]]
 case' right=>
  refine hdP Tryz.func100 rfl [4] λg=>?_;obtain⟨t,u⟩:∃t:Int,t=2:=⟨_,rfl⟩
  rw[show cI p.f 2 l=cI p.f t l by rw[u]]
 all_goals obtain⟨X,y⟩:∃X,cI p.f t l=X:=⟨_,rfl⟩
 all_goals rw[y]
 all_goals rw[Bn]at y
 all_goals simp only[go_sem]
 all_goals refine dv (λk K=>((l.drop k).all λe=>decide (dm p.f e=t))=X/\K.f 2=aj 2 (K.gen 2) 0/\K.obj 2=S [aq (p.v.map λs=>[.str s]),aq (p.a.map arD),aq (p.f.map fnD)]/\K.f 1=.one (aq (l.map exD))/\K.f 5=ae k) (z l) ⟨y,XD⟩ ?_
 all_goals rintro k f g1 av hk ⟨Z,A,E,q1,q5⟩
 all_goals simp only at A E q1 q5
 all_goals have Y:=ah (k:=k) a7
 all_goals
  by_cases I:k<z l
  rotate_left
  .exact wa
  have Q:(k:Int)<(z l:Int):=a7;obtain⟨e,w⟩:=getq I;obtain⟨U,h2⟩:=dw Z w;have L:=getD_at (f:=exD) w;have h:=H k e w;have G:∃a b c d x,exD e=[.int .i64 a,.int .i64 b,.int .u32 c,.str d,.sl x]:=by cases e;exact⟨_,_,_,_,_,by rw[exD]⟩
  obtain⟨a,b,c,d,x,G⟩:=G;unfold exV at h;rw[G]at h L;simp only[go_sem,q1,q5,Q,j7];refine jX c9 ?_;simp only[go_sem,q1,A,E,q5,Q,L];refine cg rfl (by simp only[go_sem];exact h) ?_;rintro _ rfl;by_cases bl:dm p.f e=t
  .rw[u]at bl
   simp only[go_sem,bl,q5,Y];refine bN I ⟨U (C8 (by rw[bl,u])),?_⟩;simp only[go_sem,A,E,q1]
  .obtain rfl:=h2 (A5 bl)
   rw[u]at bl;simp only[go_sem,bl]
def Wp{kind:Int}{e:List Ex}:cI fs (if kind=4\/kind=5 then 2 else 1) e=if kind=4\/kind=5 then cI fs 2 e else cI fs 1 e:=by split<;>rfl
def RR(p:Src.Prog)(hf:z p.f<=1000000)(w:Bool):∀(al:Nat)(l:List Stm),aN l<=al->al<=1000000000->bK p.f l=T->aJ Tryz.prog 66 [cl p,bv w,fH l] (·=bv (aX p.f w l)):=by
 intro al
 induction al using Nat.strongRecOn with
 |ind al ih=>
 intro l hN i t;refine hdP Tryz.func66 rfl [6] λg=>?_;obtain⟨X,hz⟩:∃X,aX p.f w l=X:=⟨_,rfl⟩
 rw[hz,bO];rw[ue]at hz;rw[pD,x9]at t;have bz:=Src.KR l;unfold fH;simp only[go_sem];refine dv (λk K=>(l.drop k).all (gQ p.f w)=X/\K.f 3=aj 3 (K.gen 3) 0/\K.obj 3=S [aq (p.v.map λs=>[.str s]),aq (p.a.map arD),aq (p.f.map fnD)]/\K.f 1=bv w/\K.f 2=.one (aq (l.map smD))/\K.f 7=ae k) (z l) ⟨hz,?_⟩ ?_
 .exact gW
 rintro k f g1 av hk ⟨Z,o,B,u,L,O⟩;simp only at o B u L O;have hw:=ah (k:=k) a7;by_cases af:k<z l
 case neg=>
  have Q:¬(k:Int)<(z l:Int):=a7;rw[y9 a7]at Z;obtain rfl:X=T:=Z.symm;simp only[go_sem,L,O,Q,j7]
 have Q:(k:Int)<(z l:Int):=a7;obtain⟨e,he⟩:=getq af;obtain⟨U,x⟩:=dw Z he;have az:=Src.OA (l7 he);have t:=t e (l7 he);have hg:=getD_at (f:=smD) he;obtain⟨kind,name,e,th,el⟩:=e;rw[szS]at az;rw[jn]at t;simp only[s5]at t;rw[gQ,Wp]at U x;have I:smD (.mk kind name e th el)=[.int .i64 kind,.str name,.sl (e.map exD),.sl (th.map smD),.sl (el.map smD)]:=by simp only[smD,aV,ez]
 rw[I]at hg;obtain⟨hW,hB⟩:=NG p hf (bw e) e (l8 _) a7;have hT:=ih (aN th) a7 th (l8 _) a7 t.2.1;have hL:=ih (aN el) a7 el (l8 _) a7 t.2.2;have hN:=nF p hf name;rw[bO]at hW hB hT hL;unfold eJ at hW hB;unfold fH at hT hL;obtain⟨y,hy⟩:∃y,(if kind=4\/kind=5 then cI p.f 2 e else cI p.f 1 e)=y:=⟨_,rfl⟩
 rw[hy]at U x;have ad:y=F->X=F:=λe=>x (by rw[e];simp);by_cases k4:kind=4
 case' pos=>
  rw[l9 (.inl k4)]at hy;simp only[go_sem,L,o,B,O,Q,j7,hg,k4];refine cg rfl YW ?_;rintro _ rfl;rw[hy];have P:¬kind=6:=a7
 case' neg=>
  by_cases k5:kind=5
  case' pos=>
   rw[l9 (.inr k5)]at hy;simp only[go_sem,L,o,B,O,Q,j7,hg,k5];refine cg rfl YW ?_;rintro _ rfl;rw[hy];have P:¬kind=6:=a7
  case' neg=>
   rw[j9 a7]at hy;simp only[go_sem,L,o,B,O,Q,j7,hg,k4,k5];refine cg rfl Zi ?_;rintro _ rfl;rw[hy];by_cases P:kind=6
   case pos=>
    cases y
    .obtain rfl:=ad rfl
     exact gW
    simp only[go_sem];refine dr aO mixed c9 ?_;have A:(bW p.f name).isSome=T:=by have:=t.1.1;rwa [l9 P]at this
    have hn:¬rY p.f name<0:=λh=>by rw[Src.TK h]at A;cases A
    obtain⟨m,fn,hm,E,hs⟩:=Src.TM hn;have bf:=getD_at (f:=fnD) E;have a6:fnD fn=[.str fn.name,.sl (fn.p.map λs=>[.str s]),.sl (fn.l.map λs=>[.str s]),.bool fn.word,.sl (fn.body.map smD)]:=rfl;rw[a6]at bf;have G:fM p.f name=fn.word:=by unfold fM;rw[hs]
    have bl:(0:Int)<=(m:Int):=a7;rw[G]at U x;cases b6:fn.word
    case true=>
     obtain rfl:=x (by simp[b6,P]);simp only[go_sem,P,o,B];refine bc rfl hN Zg rfl ?_;simp only[go_sem,hm,bl,bf,b6]
    simp only[go_sem,P,o,B];refine bc rfl hN Zg rfl ?_;simp only[go_sem,hm,bl,bf,b6,P,u,o,B];refine cg rfl Ys ?_;rintro _ rfl;cases H:aX p.f w th
    .obtain rfl:=x (by simp[H])
     exact gW
    simp only[go_sem,u,o,B];refine cg rfl Yt ?_;rintro _ rfl;cases hl:aX p.f w el
    .obtain rfl:=x (by simp[hl])
     exact gW
    simp only[go_sem,O,hw];refine bN af ⟨U (by simp[H,hl,b6,P]),?_⟩;simp only[go_sem,o,B,u,L]
 all_goals
  cases y
  .obtain rfl:=ad rfl
   exact gW
  simp only[go_sem];refine dr aO mixed c9 ?_;by_cases Y:kind=7
  rotate_left
  .simp only[go_sem,P,Y,u,o,B]
   refine cg rfl Ys ?_;rintro _ rfl;cases H:aX p.f w th
   .obtain rfl:=x (by simp[H])
    exact gW
   simp only[go_sem,u,o,B];refine cg rfl Yt ?_;rintro _ rfl;cases hl:aX p.f w el
   .obtain rfl:=x (by simp[hl])
    exact gW
   simp only[go_sem,O,hw];refine bN af ⟨U (by simp[H,hl,P,Y]),?_⟩;simp only[go_sem,o,B,u,L]
  by_cases a':0<(z e:Int)
  rotate_left
  .have ca:¬0<z e:=a7
   simp only[go_sem,P,Y,u,o,B,j7,a'];refine cg rfl Ys ?_;rintro _ rfl;cases H:aX p.f w th
   .obtain rfl:=x (by simp[H])
    exact gW
   simp only[go_sem,u,o,B];refine cg rfl Yt ?_;rintro _ rfl;cases hl:aX p.f w el
   .obtain rfl:=x (by simp[hl])
    exact gW
   simp only[go_sem,O,hw];refine bN af ⟨U (by simp[H,hl,Y,ca]),?_⟩;simp only[go_sem,o,B,u,L]
  cases b:w
  .have ca:0<z e:=a7
   obtain rfl:=x (by simp[Y,ca,b]);simp only[go_sem,P,Y,u,o,B,j7,a',b]
   all_goals (exfalso;omega)
  .rw[b]at hT hL u U x
   simp only[go_sem,P,Y,u,o,B,j7,a',b];refine cg rfl Ys ?_;rintro _ rfl;cases H:aX p.f T th
   .obtain rfl:=x (by simp[b,H])
    exact gW
   simp only[go_sem,u,o,B];refine cg rfl Yt ?_;rintro _ rfl;cases hl:aX p.f T el
   .obtain rfl:=x (by simp[b,hl])
    exact gW
   simp only[go_sem,O,hw];refine bN af ⟨U (by simp[H,hl,Y,b]),?_⟩;simp only[go_sem,o,B,u,L]
def JU(p:Src.Prog)(hp:Sm p):aJ Tryz.prog 41 [cl p] (·=ae (Src.mu p:Nat)):=by
 refine hdP Tryz.func41 rfl [2] λg=>?_;obtain⟨X,i⟩:∃X,Src.mu p=X:=⟨_,rfl⟩
 rw[i];unfold Src.mu at i;obtain⟨L,pa,pf,u⟩:=hp;have J:=λ(f:Src.Fn)(hf:f∈p.f)=>zm p a7 (aN f.body) f.body (l8 _) (by have:=(u f hf).2;omega);have H:=λ(f:Src.Fn)(hf:f∈p.f)=>RR p a7 f.word (aN f.body) f.body (l8 _) (by have:=(u f hf).2;omega);unfold fH at J H;rw[bO]at J H|-;obtain⟨q,y⟩:∃q,(p.f.all λf=>bK p.f f.body)=q:=⟨_,rfl⟩
 have b:q=F->X=4:=λe=>by rw[<-i,y,l9 e]
 simp only[go_sem];refine dv (λk K=>((p.f.drop k).all λf=>bK p.f f.body)=q/\K.f 1=aj 1 (K.gen 1) 0/\K.obj 1=S [aq (p.v.map λs=>[.str s]),aq (p.a.map arD),aq (p.f.map fnD)]/\K.f 3=ae k) (z p.f) ⟨y,?_⟩ ?_
 .exact gW
 rintro k f g1 av hk ⟨Z,q1,o1,w⟩;simp only at q1 o1 w;have G:=ah (k:=k) a7;by_cases x:k<z p.f
 .have Q:(k:Int)<(z p.f:Int):=a7
  obtain⟨fn,o⟩:=getq x;have A:=getD_at (f:=fnD) o;have I:fnD fn=[.str fn.name,.sl (fn.p.map λs=>[.str s]),.sl (fn.l.map λs=>[.str s]),.bool fn.word,.sl (fn.body.map smD)]:=rfl;rw[I]at A;obtain⟨U,O⟩:=dw Z o;simp only[go_sem,q1,o1,w,Q,j7];refine jX c9 ?_;simp only[go_sem,q1,o1,w,Q,A];refine cg rfl (by simp only[go_sem];exact J fn (l7 o)) ?_;rintro _ rfl;cases t:bK p.f fn.body
  .obtain rfl:=b (O t)
   exact gW
  .simp only[go_sem,w,G]
   refine bN x ⟨U t,?_⟩;exact Vz
 have Q:¬(k:Int)<(z p.f:Int):=a7;rw[y9 a7]at Z;have bl:q=T:=Z.symm;rw[y,j9 (by rw[bl];decide)]at i;rw[bl,x9]at y;clear Z hk x G b;simp only[go_sem,q1,o1,w,Q,j7];obtain⟨r,V⟩:∃r,(p.f.all λf=>aX p.f f.word f.body)=r:=⟨_,rfl⟩
 rw[V]at i;refine dv (λk K=>((p.f.drop k).all λf=>aX p.f f.word f.body)=r/\K.f 1=aj 1 (K.gen 1) 0/\K.obj 1=S [aq (p.v.map λs=>[.str s]),aq (p.a.map arD),aq (p.f.map fnD)]/\K.f 4=ae k) (z p.f) ⟨V,?_⟩ ?_
 .exact Vz
 clear Q q1 o1 w;rintro k f g1 av hk ⟨Z,q1,o1,E⟩;simp only at q1 o1 E;have G:=ah (k:=k) a7;by_cases x:k<z p.f
 .have Q:(k:Int)<(z p.f:Int):=a7
  obtain⟨fn,o⟩:=getq x;have A:=getD_at (f:=fnD) o;have I:fnD fn=[.str fn.name,.sl (fn.p.map λs=>[.str s]),.sl (fn.l.map λs=>[.str s]),.bool fn.word,.sl (fn.body.map smD)]:=rfl;rw[I]at A;have Y:=l7 o;obtain⟨U,O⟩:=dw Z o;simp only[go_sem,q1,o1,E,Q,j7];refine jX c9 ?_;simp only[go_sem,q1,o1,E,Q,A];refine cg rfl (by simp only[go_sem];exact H fn Y (y fn Y)) ?_;rintro _ rfl;cases t:aX p.f fn.word fn.body
  .rw[l9 (O t)]at i
   subst i;exact gW
  .simp only[go_sem,E,G]
   refine bN x ⟨U t,?_⟩;exact Vz
 have Q:¬(k:Int)<(z p.f:Int):=a7;rw[y9 a7]at Z;have b1:r=T:=Z.symm;rw[j9 (by rw[b1];decide)]at i;subst i;simp only[go_sem,q1,o1,E,Q,j7]
def Sm.inP{p:Src.Prog}(h:Sm p)(bl:∀f∈p.f,Src.qY f.body):Src.InP p:=⟨by have:=h.v;omega,by have:=h.a;omega,by have:=h.f;omega,λf hf=>by
 have:=h.fs f hf;have:=Src.KR f.body;exact⟨⟨a7,a7⟩,a7,bl f hf⟩⟩
def NH{o:cT}(p:Src.Prog)(hp:Sm p)(bl:∀f∈p.f,Src.qY f.body):ck Tryz.prog 1 o 16 [cl p] (·=ae (Src.aZ p:Nat)):=by
 refine hdG Tryz.func16 rfl [.tmp 2] λO bn s0 w0 g=>?_;obtain⟨X,a⟩:∃X,Src.aZ p=X:=⟨_,rfl⟩
 rw[a];unfold Src.aZ at a;have hR:=Kb p (hp.inP bl);have hT:=JU p hp;have d:=λh=>JS (o:=o) p hp h;rw[bO]at hR hT d|-;simp only[go_sem];refine jd rfl ZP ?_;rintro _ rfl;cases V:Src.dP p
 .rw[l9 V]at a
  subst a;exact gW
 rw[j9 (by rw[V];decide)]at a;have U:1<=z p.f:=by unfold Src.dP at V;simp at V;exact V.1.1.1
 simp only[go_sem];refine cU rfl (by simp only[go_sem];exact d U) ?_;rintro _ rfl;by_cases b:Src.eZ p=0
 .rw[j9 (by simp[b])]at a
  subst a;simp only[go_sem,b];refine jd rfl Ys ?_;rintro _ rfl;exact gW
 .rw[l9 b]at a
  subst a;have e:¬(Src.eZ p:Int)=0:=a7;simp only[go_sem,e]
end
end
end Go.Proofs.YtlacbjnmkhndiaaGreatDoor
namespace Go.Src
section
attribute [local congr] Go.Am.ite_cc
def pE(p:Prog):Bool:=(p.f.all λf=>decide (z f.p+z f.l<=40))&&(decide ((p.a.map (·.2)).sum<=4096)&&(decide (z p.v<=40)&&decide (z p.v+z p.a+z p.f+(p.f.map λf=>z f.p+z f.l+aN f.body).sum<=200)))
end
end Go.Src
namespace Go.Proofs.YtlacbjnmkhndiaaGreatDoor
section
open Go Go.Am Go.Asm
open Go.Src (Ex Stm szE bw szS aN)
attribute[local congr]ite_cc
def zn:∀(al:Nat)(l:List Ex),bw l<=al->al<=1000000000->aJ Tryz.prog 102 [eJ l] (·=ae (bw l:Nat)):=by
 intro al
 induction al using Nat.strongRecOn with
 |ind al w=>
 intro l y i;refine hdP Tryz.func102 rfl [2] λg=>?_;have bz:=Src.KQ l;unfold eJ;simp only[go_sem,j7];refine dv (λk K=>∃c:Nat,c+bw (l.drop k)=bw l+z (l.drop k)/\K.f 0=.one (aq (l.map exD))/\K.f 3=ae (c:Nat)/\K.f 4=ae k) (z l) ⟨z l,by simp;omega,?_⟩ ?_
 .exact gW
 rintro k f A E hk ⟨c,Z,q0,p,o⟩;simp only at q0 p o;have x:=ah (k:=k) a7;by_cases u:k<z l
 case neg=>
  have Q:¬(k:Int)<(z l:Int):=a7;rw[y9 a7,bw]at Z;have Z:c=bw l:=by simpa using Z
  simp only[go_sem,q0,p,o,Q,j7,Z]
 have Q:(k:Int)<(z l:Int):=a7;obtain⟨e,t⟩:=getq u;have az:=Src.Oz (l7 t);have v:=getD_at (f:=exD) t;obtain⟨kind,op,num,name,a⟩:=e;rw[dk t,bw,szE,l4]at Z;rw[szE]at az;have I:exD (.mk kind op num name a)=[.int .i64 kind,.int .i64 op,.int .u32 num,.str name,.sl (a.map exD)]:=by simp only[exD,aV]
 rw[I]at v;have J:=w (bw a) a7 a (l8 _) a7;have X:=Src.KQ (l.drop (k+1));have b:IntKind.i64.wrap ((c:Int)+(bw a:Nat))=((c+bw a:Nat):Int):=by rw[wrap_i64]<;>omega
 unfold eJ at J;simp only[go_sem,q0,p,o,Q,j7,v];refine cg rfl (by simp only[go_sem];exact J) ?_;rintro _ rfl;simp only[go_sem,b,o,x];refine bN u ⟨c+bw a,a7,?_⟩;exact W7
def zo:∀(al:Nat)(l:List Stm),aN l<=al->al<=1000000000->aJ Tryz.prog 67 [fH l] (·=ae (aN l:Nat)):=by
 intro al
 induction al using Nat.strongRecOn with
 |ind al u=>
 intro l H i;refine hdP Tryz.func67 rfl [2] λg=>?_;have bz:=Src.KR l;unfold fH;simp only[go_sem,j7];refine dv (λk K=>∃c:Nat,c+aN (l.drop k)=aN l+z (l.drop k)/\K.f 0=.one (aq (l.map smD))/\K.f 3=ae (c:Nat)/\K.f 4=ae k) (z l) ⟨z l,by simp;omega,?_⟩ ?_
 .exact gW
 rintro k f L O U ⟨c,Z,q0,p,o⟩;simp only at q0 p o;have A:=ah (k:=k) a7;by_cases v:k<z l
 case neg=>
  have Q:¬(k:Int)<(z l:Int):=a7;rw[y9 a7,aN]at Z;have Z:c=aN l:=by simpa using Z
  simp only[go_sem,q0,p,o,Q,j7,Z]
 have Q:(k:Int)<(z l:Int):=a7;obtain⟨e,t⟩:=getq v;have az:=Src.OA (l7 t);have r:=getD_at (f:=smD) t;obtain⟨kind,name,e,a,el⟩:=e;rw[dk t,aN,szS,l4]at Z;rw[szS]at az;have I:smD (.mk kind name e a el)=[.int .i64 kind,.str name,.sl (e.map exD),.sl (a.map smD),.sl (el.map smD)]:=by simp only[smD,aV,ez]
 rw[I]at r;have w:=zn (bw e) e (l8 _) a7;have x:=u (aN a) a7 a (l8 _) a7;have y:=u (aN el) a7 el (l8 _) a7;have X:=Src.KR (l.drop (k+1));have a1:IntKind.i64.wrap ((c:Int)+(bw e:Nat))=((c+bw e:Nat):Int):=by rw[wrap_i64]<;>omega
 have E:IntKind.i64.wrap (((c+bw e:Nat):Int)+(aN a:Nat))=((c+bw e+aN a:Nat):Int):=by rw[wrap_i64]<;>omega
 have G:IntKind.i64.wrap (((c+bw e+aN a:Nat):Int)+(aN el:Nat))=((c+bw e+aN a+aN el:Nat):Int):=by rw[wrap_i64]<;>omega
 unfold eJ at w;unfold fH at x y;simp only[go_sem,q0,p,o,Q,j7];refine dr aO mixed c9 ?_;simp only[go_sem,q0,p,o,Q,r];refine bc rfl w Y6 rfl ?_;simp only[go_sem,q0,o,Q,r,a1];refine bc rfl x Y6 rfl ?_;simp only[go_sem,q0,o,Q,r,E];refine bc rfl y Y6 rfl ?_;simp only[go_sem,G,o,A];refine bN v ⟨c+bw e+aN a+aN el,a7,?_⟩;exact W7
def jl(p:Src.Prog):szP p=z p.v+z p.a+z p.f+(p.f.map λf=>z f.p+z f.l+aN f.body).sum:=rfl
def JV{f:Src.Fn->Nat}{l:List Src.Fn}{k:Nat}{x:Src.Fn}(h:l[k]?=S x):((l.drop k).map f).sum=f x+((l.drop (k+1)).map f).sum:=by rw[dk h,s6,D8]
def RS(p:Src.Prog)(o:szP p<=1000000):aJ Tryz.prog 42 [cl p] (·=ae (szP p:Nat)):=by
 refine hdP Tryz.func42 rfl [2] λg=>?_;rw[jl]at o|-;obtain⟨X,r⟩:∃X,z p.v+z p.a+z p.f+(p.f.map λf=>z f.p+z f.l+aN f.body).sum=X:=⟨_,rfl⟩
 rw[r]at o|-;have y:IntKind.i64.wrap ((z p.v:Int)+(z p.a:Int))=((z p.v+z p.a:Nat):Int):=by rw[wrap_i64]<;>omega
 have A:IntKind.i64.wrap (((z p.v+z p.a:Nat):Int)+(z p.f:Int))=((z p.v+z p.a+z p.f:Nat):Int):=by rw[wrap_i64]<;>omega
 rw[bO];simp only[go_sem,j7,y,A];refine dv (λk K=>∃c:Nat,c+((p.f.drop k).map λf=>z f.p+z f.l+aN f.body).sum=X/\K.f 1=aj 1 (K.gen 1) 0/\K.obj 1=S [aq (p.v.map λs=>[.str s]),aq (p.a.map arD),aq (p.f.map fnD)]/\K.f 3=ae (c:Nat)/\K.f 4=ae k) (z p.f) ⟨_,r,?_⟩ ?_
 .exact gW
 rintro k f L O U ⟨c,Z,q1,o1,i,e⟩;simp only at q1 o1 i e;have E:=ah (k:=k) a7;by_cases t:k<z p.f
 case neg=>
  have Q:¬(k:Int)<(z p.f:Int):=a7;rw[y9 a7]at Z;have Z:c=X:=by simpa using Z
  simp only[go_sem,q1,o1,i,e,Q,j7,Z]
 have Q:(k:Int)<(z p.f:Int):=a7;obtain⟨fn,u⟩:=getq t;have w:=getD_at (f:=fnD) u;have G:fnD fn=[.str fn.name,.sl (fn.p.map λs=>[.str s]),.sl (fn.l.map λs=>[.str s]),.bool fn.word,.sl (fn.body.map smD)]:=rfl;rw[G]at w;rw[JV u]at Z;have x:=zo (aN fn.body) fn.body (l8 _) a7;unfold fH at x;have a1:IntKind.i64.wrap ((c:Int)+(z fn.p:Int))=((c+z fn.p:Nat):Int):=by rw[wrap_i64]<;>omega
 have H:IntKind.i64.wrap (((c+z fn.p:Nat):Int)+(z fn.l:Int))=((c+z fn.p+z fn.l:Nat):Int):=by rw[wrap_i64]<;>omega
 have I:IntKind.i64.wrap (((c+z fn.p+z fn.l:Nat):Int)+(aN fn.body:Nat))=((c+z fn.p+z fn.l+aN fn.body:Nat):Int):=by rw[wrap_i64]<;>omega
 simp only[go_sem,q1,o1,i,e,Q,j7];refine dr aO mixed c9 ?_;simp only[go_sem,q1,o1,i,e,Q,w,j7,a1,H];refine bc rfl x Y6 rfl ?_;simp only[go_sem,I,e,E];refine bN t ⟨c+z fn.p+z fn.l+aN fn.body,a7,?_⟩;exact Vz
def GJ{l:List (Str×Int)}{k:Nat}{x:Str×Int}(h:l[k]?=S x):((l.drop k).map (·.2)).sum=x.2+((l.drop (k+1)).map (·.2)).sum:=by rw[dk h,s6,D8]
def JW:∀{l:List (Str×Int)},(∀a∈l,0<=a.2)->0<=(l.map (·.2)).sum
 |[],_=>by simp
 |a::l,h=>by
   have:=JW (l:=l) λx I=>h x YN;have:=h a a8;simp only[s6,D8];omega
def NI(p:Src.Prog)(hp:szP p<=1000000)(O:∀a∈p.a,0<=a.2)(d:(p.a.map (·.2)).sum<=1000000000000):aJ Tryz.prog 17 [cl p] (·=bv (Src.pE p)):=by
 refine hdP Tryz.func17 rfl [2] λg=>?_;have hS:=RS p hp;rw[jl]at hp hS;obtain⟨X,o⟩:∃X,Src.pE p=X:=⟨_,rfl⟩
 rw[o];unfold Src.pE at o;obtain⟨al,Y⟩:∃al,z p.v+z p.a+z p.f+(p.f.map λf=>z f.p+z f.l+aN f.body).sum=al:=⟨_,rfl⟩
 rw[Y]at o hp hS;obtain⟨W,hW⟩:∃W,(p.a.map (·.2)).sum=W:=⟨_,rfl⟩
 rw[hW]at o d;rw[bO]at hS|-;simp only[go_sem];refine dv (λk K=>∃c:Int,c+((p.a.drop k).map (·.2)).sum=W/\0<=c/\K.f 1=aj 1 (K.gen 1) 0/\K.obj 1=S [aq (p.v.map λs=>[.str s]),aq (p.a.map arD),aq (p.f.map fnD)]/\K.f 3=ae c/\K.f 4=ae k) (z p.a) ⟨0,by simpa using hW,b9,?_⟩ ?_
 .exact gW
 rintro k f g1 av hk ⟨c,Z,bd,q1,o1,t,H⟩;simp only at q1 o1 t H;have L:=ah (k:=k) a7;by_cases y:k<z p.a
 .have Q:(k:Int)<(z p.a:Int):=a7
  obtain⟨a,u⟩:=getq y;have E:=getD_at (f:=arD) u;have A:arD a=[.str a.1,.int .i64 a.2]:=rfl;rw[A]at E;rw[GJ u]at Z;have h0:=O a (l7 u);have U:=JW (l:=p.a.drop (k+1)) λx I=>O x (M7 I);have b:IntKind.i64.wrap (c+a.2)=c+a.2:=wrap_i64 _ a7 a7;simp only[go_sem,q1,o1,t,H,Q,j7,E,b,L];refine bN y ⟨c+a.2,a7,a7,?_⟩;exact Vz
 have Q:¬(k:Int)<(z p.a:Int):=a7;rw[y9 a7]at Z;have Z:c=W:=by simpa using Z
 subst Z;clear hk y L;simp only[go_sem,q1,o1,t,H,Q,j7];obtain⟨r,V⟩:∃r,(p.f.all λf=>decide (z f.p+z f.l<=40))=r:=⟨_,rfl⟩
 rw[V]at o;refine dv (λk K=>((p.f.drop k).all λf=>decide (z f.p+z f.l<=40))=r/\K.f 1=aj 1 (K.gen 1) 0/\K.obj 1=S [aq (p.v.map λs=>[.str s]),aq (p.a.map arD),aq (p.f.map fnD)]/\K.f 3=ae c/\K.f 5=ae k) (z p.f) ⟨V,?_⟩ ?_
 .simp only[go_sem,q1,o1,t]
 clear Q q1 o1 t H;rintro k f g1 av hk ⟨hd,q1,o1,t,w⟩;simp only at q1 o1 t w;have L:=ah (k:=k) a7;by_cases y:k<z p.f
 .have Q:(k:Int)<(z p.f:Int):=a7
  obtain⟨fn,u⟩:=getq y;have E:=getD_at (f:=fnD) u;have a6:fnD fn=[.str fn.name,.sl (fn.p.map λs=>[.str s]),.sl (fn.l.map λs=>[.str s]),.bool fn.word,.sl (fn.body.map smD)]:=rfl;rw[a6]at E;obtain⟨U,h2⟩:=dw hd u;have hm:=kq (l7 u);rw[jl,Y]at hm;have b:IntKind.i64.wrap ((z fn.p:Int)+(z fn.l:Int))=((z fn.p+z fn.l:Nat):Int):=by rw[wrap_i64]<;>omega
  simp only[go_sem,q1,o1,w,Q,j7];refine jX c9 ?_;by_cases i:(40:Int)<((z fn.p+z fn.l:Nat):Int)
  .obtain rfl:X=F:=by rw[<-o,h2 (A5 a7)];rfl
   simp only[go_sem,q1,o1,w,Q,E,j7,b,i]
  .simp only[go_sem,q1,o1,w,Q,E,j7,b,i,L]
   refine bN y ⟨U (C8 a7),?_⟩;simp only[go_sem,q1,o1,t]
 have Q:¬(k:Int)<(z p.f:Int):=a7;rw[y9 a7]at hd;rw[show r=T from hd.symm,x8]at o;by_cases G:c<=4096
 case neg=>
  obtain rfl:X=F:=by rw[<-o,A5 G];rfl
  simp only[go_sem,q1,o1,t,w,Q,j7,G]
 rw[C8 G,x8]at o;by_cases hv:(z p.v:Int)<=40
 case neg=>
  obtain rfl:X=F:=by rw[<-o,A5 (show ¬z p.v<=40 by omega)];rfl
  simp only[go_sem,q1,o1,t,w,Q,j7,G,hv]
 rw[C8 (show z p.v<=40 by omega),x8]at o;simp only[go_sem,q1,o1,t,w,Q,j7,G,hv];refine cg rfl Ze ?_;rintro _ rfl;have e:decide ((al:Int)<=200)=X:=by rw[<-o];congr 1;exact propext ⟨λh=>by omega,λh=>by omega⟩
 simp only[go_sem,e]
end
end Go.Proofs.YtlacbjnmkhndiaaGreatDoor
namespace Go.Src
section
open Go.Asm (Str)
open Go.Mach (applyN)
structure Sg where
 out:Str
 rd:Nat
 tk:Nat
def Sg.tick(G:Sg):Sg:=⟨G.out,G.rd,G.tk+1⟩
def Ai(inp:Str)(k:Nat):Nat:=match inp[k]? with|some x=>x.toNat|none=>256
def xG(inp:Str)(k:Nat):Nat:=match inp[k]? with|some _=>k+1|none=>k
end
end Go.Src
namespace Go.Proofs.YtlacbjnmkhndiaaGreatDoor
section
open Go Go.Am Go.Asm
open Go.Src (aQ fP da dX)
attribute[local congr]ite_cc
section
def Ke(f:FuncId)(xs:List AV)(v:AV):Prop:=
 ∀(B:Nat)(g:Nat->Nat)(a:Obs),(∀i,B<=i->a i=N)->gY Tryz.prog f xs g a (λr b Y=>r=v/\b=g/\Y=a)
variable{s:St}{B:Nat}
section
variable{O:Bs}{rd:Option Nat}{e:St->Am.Loc->List Deferred->World->Prop}
def qg(a6:bp O e){o:Oper}{K:St->Prop}{k:Box K}{f:FuncId}{args:Array Operand}{tys:Array TypeId}(ho:o.op=.call ⟨.value (.func f),args,tys⟩){xs:List AV}{v:AV}(h:Ke f xs v)
 (I:args.toList.map s.ev=xs)(bk:∀i,B<=i->s.obj i=N){a:Nat}{b:fT}(c:K (St.put s o.dst v)):bC (spF Tryz.prog rd O e a b) o s k:=
 dA a6 ho (by rw[I];exact h B s.gen s.obj bk) (by rintro _ _ _ ⟨rfl,rfl,rfl⟩;exact c)
end
def tC{g:Nat->Nat}{ob:Obs}{j rs:List AV}{v:AV}(hf:eH B s j rs)(hv:pack rs=v)(h:∀i,i<B->s.gen i=g i/\s.obj i=ob i:=by (intro i hi;constructor<;>((try simp only[upd]);(repeat rw[j9 (by omega)])))):bB B [] g ob (λr g' Y=>r=v/\g'=g/\Y=ob) s j:=
 ⟨⟨λi hi _=>h i hi,λi hi=>(by cases hi)⟩,rs,hf,hv,zX,zY⟩
def sd{a b:Int}:eH B s [ae a,ae b] [ae a,ae b]:=⟨_,_,rfl,.one (.d _),_,_,rfl,.one (.d _),rfl⟩
def NQ(f:Src.Fn)(U:z f.p<=1000000)(k:z f.l<=1000000):Ke 26 [fnV f] (jy (fP f)):=by
 intro B g ob hf;refine dj.toR (hdM B [] Tryz.func26 rfl [.tmp 2] a8 hf λO bn s0 w0=>?_);rw[tA];simp only[go_sem];refine cB aO mixed aa [B+3] [([],[],[0],F),([1],[0],[],F),([4],[0],[],F),([3,5],[],[0],F),([1],[0],[],F),([7],[0],[],F),([6,8],[],[0],F),([9],[],[],T)] 1 rfl c9 rfl a8 ?_;simp only[go_sem]
 (apply bV;(case hg=>first|exact y8|exact⟨_,rfl,by decide,rfl⟩);(case U=>intro b ga d a J;simp only[go_sem]at J|-;exact J))
 iterate 2 (apply aw;(case hg=>first|exact y8|exact⟨_,rfl,by decide,rfl⟩);(case U=>intro b ga d a J;simp only[go_sem]at J|-;exact J))
 (apply bV;(case hg=>exact y8);(case U=>intro b ga d a J;simp only[go_sem,kf,j7]at J|-;exact⟨lM _,⟨b9,a7⟩,J⟩))
 iterate 2 (apply aw;(case hg=>first|exact y8|exact⟨_,rfl,by decide,rfl⟩);(case U=>intro b ga d a J;simp only[go_sem]at J|-;exact J))
 (apply bV;(case hg=>exact y8);(case U=>intro b ga d a J;simp only[go_sem,kf,j7]at J|-;exact⟨a7,lM _,⟨b9,a7⟩,J⟩))
 refine cC y8 ?_;intro a e;simp only[go_sem];refine e _ ?_;clear e a;simp only[go_sem];refine⟨_,ai.refl _,?_⟩;simp only[go_sem];exact tC (Jq (l:=fP f) a7 XD (by simp only[go_sem];simp[fP,kB,s7]) (by simp[fP])) rfl
def wv(p:Src.Prog)(hv:z p.v<=1000000)(q:z p.a<=1000000)(hf:z p.f<=1000000)(i:Nat)(fn:Src.Fn)(hi:p.f[i]?=S fn)(U:z fn.p<=1000000)(t:z fn.l<=1000000)(s:Str):
  Ke 97 [cl p,ae i,sv s] (.tup [ae (dX p fn s).1,ae (dX p fn s).2]):=by
 intro B g ob ar;refine dj.toR (hdM B [] Tryz.func97 rfl [.tmp 6,.tmp 7] a8 ar λO bn s0 w0=>?_);have A:=(l6.1 hi).1;have y:(i:Int)<(z p.f:Int):=a7;have n:=getD_at (f:=fnD) hi;have u:fnD fn=[.str fn.name,.sl (fn.p.map λs=>[.str s]),.sl (fn.l.map λs=>[.str s]),.bool fn.word,.sl (fn.body.map smD)]:=rfl;rw[u]at n;have o:=NQ fn U t;have W:z (fP fn)<=2000000:=by simp[fP];omega
 have E:z (da p)<=3000000:=by simp[da];omega
 have hG:=tB p hv q hf;rw[tA]at o;rw[bO]at hG|-;simp only[go_sem,y,j7,n];refine qg aa rfl o XD (B:=B+58) (λi hi=>by (try simp only[upd]);(repeat rw[j9 (by omega)]);exact ar i (by omega)) ?_;simp only[go_sem];refine FU rfl (by simp only[go_sem];exact qe (fP fn) s a7) ?_;rintro _ rfl;unfold dX;obtain⟨k,hk⟩:∃k,aQ 0 (fP fn) s=k:=⟨_,rfl⟩
 rw[hk];by_cases d:0<=k
 .simp only[go_sem,d]
  exact B2
 rw[j9 d];simp only[go_sem,d];refine FU rfl ZR ?_;rintro _ rfl;simp only[go_sem];refine FU rfl (by simp only[go_sem];exact qe (da p) s a7) ?_;rintro _ rfl;have x:=Src.jz (da p) 0 s;obtain⟨k,hk⟩:∃k,aQ 0 (da p) s=k:=⟨_,rfl⟩
 rw[hk]at x|-;by_cases hn:k<0
 .simp only[go_sem,hn]
  exact B2
 by_cases b:k<(z p.v:Int)
 .simp only[go_sem,hn,b,j7]
  exact B2
 have e:IntKind.i64.wrap (k-(z p.v:Int))=k-z p.v:=wrap_i64 _ a7 a7;by_cases c:k-(z p.v:Int)<(z p.a:Int)
 .simp only[go_sem,hn,b,j7,e,c]
  exact B2
 have w:IntKind.i64.wrap (k-(z p.v:Int)-(z p.a:Int))=k-z p.v-z p.a:=wrap_i64 _ a7 a7;simp only[go_sem,hn,b,j7,e,c];refine aP c9 ?_;simp only[go_sem,e,w,j7];refine⟨_,ai.refl _,?_⟩;simp only[go_sem];exact tC (sd) (by rw[j9 hn,j9 b,j9 c];rfl)
end
end
end Go.Proofs.YtlacbjnmkhndiaaGreatDoor

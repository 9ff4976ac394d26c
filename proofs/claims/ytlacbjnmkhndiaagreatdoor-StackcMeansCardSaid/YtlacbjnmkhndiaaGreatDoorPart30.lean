/- A part of the proof; no conditions. -/
import Derived.Test.YtlacbjnmkhndiaaGreatDoorPart29
set_option linter.unusedSimpArgs false
set_option linter.unusedVariables false
set_option linter.defProp false
open List renaming length -> z
open Option renaming some -> S, none -> N
open Bool renaming true -> T, false -> F
set_option maxHeartbeats 64000000
set_option maxRecDepth 100000
namespace Go.Proofs.YtlacbjnmkhndiaaGreatDoor
section
attribute [local congr] Go.Am.ite_cc
open Go Go.Am Go.Asm
open Go.Src (Ex Stm szE bc szS aD inE qI inS pR mQ cX mR dt)
def bK(p:Src.Prog):bS p=.agg [.d (.sl (p.vars.map λs=>[.str s])),.d (.sl (p.arrays.map arD)),.d (.sl (p.funcs.map fnD))]:=rfl
def Tw(p:Src.Prog)(hp:Src.InP p)(i:Int)(hm:0<=i/\i<=1000000):ax Tryz.prog 15 [bS p,iv .i64 i] (·=bv (Src.Tv p i)):=by
 refine hdP Tryz.func15 rfl [4] λg=>?_;obtain⟨X,E⟩:∃X,Src.Tv p i=X:=⟨_,rfl⟩
 rw[E];obtain⟨pv,pa,pf,B⟩:=hp;unfold Src.Tv at E;rw[bK];simp only[go_sem];refine bJ rfl (by simp only[go_sem];exact xE p.vars pv) ?_;rintro _ rfl;cases G:Src.Bt p.vars
 .obtain rfl:X=F:=by rw[<-E,G];rfl
  exact hx
 by_cases ha:200<(z p.arrays:Int)
 .obtain rfl:X=F:=by rw[<-E,G,show decide (z p.arrays<=200)=F from A4 a7];rfl
  simp only[go_sem,j6,ha]
 by_cases hf:70<(z p.funcs:Int)
 .obtain rfl:X=F:=by rw[<-E,G,show decide (z p.funcs<=70)=F from A4 a7,D2];rfl
  simp only[go_sem,j6,ha,hf]
 rw[G,show decide (z p.funcs<=70)=T from C9 a7,show decide (z p.arrays<=200)=T from C9 a7,j8 b9]at E;have b4:IntKind.i64.wrap (i-(z p.vars:Int))=i-z p.vars:=wrap_i64 _ a7 a7;have w:IntKind.i64.wrap (i-(z p.vars:Int)-(z p.arrays:Int))=i-z p.vars-z p.arrays:=wrap_i64 _ a7 a7;obtain⟨left,b⟩:∃x:Int,i-(z p.vars:Int)-(z p.arrays:Int)-(z p.funcs:Int)=x:=⟨_,rfl⟩
 rw[b]at E;have l:IntKind.i64.wrap (i-(z p.vars:Int)-(z p.arrays:Int)-(z p.funcs:Int))=left:=by rw[b];exact wrap_i64 _ a7 a7
 have m:-2000000000000000000<=left/\left<=1000000:=a7;obtain⟨ga,j⟩:∃y,(p.arrays.all λa=>decide ((z a.1:Int)<=60))=y:=⟨_,rfl⟩
 simp only[go_sem,j6,ha,hf,b4,w,l];refine dD (λk K=>((p.arrays.drop k).all λa=>decide ((z a.1:Int)<=60))=ga/\K.f 2=.one (.ptr 2 (K.gen 2) 0)/\K.obj 2=S [.d (.sl (p.vars.map λs=>[.str s])),.d (.sl (p.arrays.map arD)),.d (.sl (p.funcs.map fnD))]/\K.f 5=iv .i64 left/\K.f 6=iv .i64 k) (z p.arrays) ⟨j,?_⟩ ?_
 .exact hx
 rintro k f g1 av hk ⟨Z,t,v,H,Y⟩;simp only at t v H Y;have hw:=ac (k:=k) a7;by_cases L:k<z p.arrays
 .have Q:(k:Int)<(z p.arrays:Int):=a7
  obtain⟨a,G⟩:=getq L;obtain⟨U,I⟩:=cQ Z G;have O:=getD_at (f:=arD) G;have A:arD a=[.str a.1,.int .i64 a.2]:=rfl;rw[A]at O;by_cases hn:60<(z a.1:Int)
  .have e:=I (A4 a7)
   rw[e]at j;rw[j,l8 rfl]at E;subst E;simp only[go_sem,t,v,Y,Q,j6,O,hn]
  .simp only[go_sem,t,v,Y,Q,j6,O,hn,hw]
   refine bN L ⟨U (C9 a7),?_⟩;simp only[go_sem,t,v,H]
 have Q:¬(k:Int)<(z p.arrays:Int):=a7;rw[y9 a7]at Z;have e:ga=T:=Z.symm;rw[e]at j;rw[j,j8 b9]at E;clear Z hk L e j hw;simp only[go_sem,t,v,Y,Q,j6];refine dD (λk K=>∃c:Int,(match Src.Lf c (p.funcs.drop k)with|some n=>decide (0<=n)|none=>F)=X/\(-3000000000000000000<=c/\c<=1000000)/\(0<=c\/-2000000000000000000-400*(k:Int)<=c)/\K.f 2=.one (.ptr 2 (K.gen 2) 0)/\K.obj 2=S [.d (.sl (p.vars.map λs=>[.str s])),.d (.sl (p.arrays.map arD)),.d (.sl (p.funcs.map fnD))]/\K.f 5=iv .i64 c/\K.f 7=iv .i64 k) (z p.funcs) ⟨left,E,a7,a7,?_⟩ ?_
 .simp only[go_sem,t,H,v]
 clear Q t v H Y;rintro k f g1 av hk ⟨c,Z,o,b0,t,v,H,q7⟩;simp only at t v H q7;have hw:=ac (k:=k) a7;by_cases L:k<z p.funcs
 case neg=>
  have Q:¬(k:Int)<(z p.funcs:Int):=a7;rw[y9 a7]at Z;simp only[Src.Lf]at Z;simp only[go_sem,t,v,H,q7,Q,j6,Z]
 have Q:(k:Int)<(z p.funcs:Int):=a7;obtain⟨fn,G⟩:=getq L;have O:=getD_at (f:=fnD) G;have a6:fnD fn=[.str fn.name,.sl (fn.params.map λs=>[.str s]),.sl (fn.locals.map λs=>[.str s]),.bool fn.word,.sl (fn.body.map smD)]:=rfl;rw[a6]at O;obtain⟨⟨i1,u⟩,i3,r⟩:=B fn (l6 G);rw[de G,Src.Lf]at Z;simp only[go_sem,t,v,q7,Q,j6,O];refine bJ rfl (by simp only[go_sem];exact xE fn.params i1) ?_;rintro _ rfl;cases U:Src.Bt fn.params
 .obtain rfl:X=F:=by rw[<-Z,U];rfl
  exact hx
 simp only[go_sem];refine bJ rfl (by simp only[go_sem];exact xE fn.locals u) ?_;rintro _ rfl;cases I:Src.Bt fn.locals
 .obtain rfl:X=F:=by rw[<-Z,U,I];rfl
  exact hx
 by_cases hn:60<(z fn.name:Int)
 .obtain rfl:X=F:=by rw[<-Z,U,I,A4 (show ¬(z fn.name:Int)<=60 by omega)];rfl
  simp only[go_sem,hn]
 rw[U,I,C9 (show (z fn.name:Int)<=60 by omega),l8 b9]at Z;have l1:z fn.params<=200:=by unfold Src.Bt at U;simp only[s5,B4]at U;exact U.1
 have l2:z fn.locals<=200:=by unfold Src.Bt at I;simp only[s5,B4]at I;exact I.1
 have b4:IntKind.i64.wrap (c-(z fn.params:Int))=c-z fn.params:=wrap_i64 _ a7 a7;have w:IntKind.i64.wrap (c-(z fn.params:Int)-(z fn.locals:Int))=c-z fn.params-z fn.locals:=wrap_i64 _ a7 a7;simp only[go_sem,hn,H,j6,b4,w];have b1:=Src.oQ fn.body (c-z fn.params-z fn.locals) 60;have b2:c-z fn.params-z fn.locals<0->dt fn.body (c-z fn.params-z fn.locals) 60=c-z fn.params-z fn.locals:=λh=>Src.mw h _;have b3:=Src.rP fn.body (c-z fn.params-z fn.locals) 60;refine bJ rfl (by simp only[go_sem,b4,w];exact zB (aD fn.body) fn.body _ 60 (l7 _) i3 r a7 b9) ?_;rintro _ rfl;simp only[go_sem,q7,hw];refine bN L ⟨_,Z,a7,a7,?_⟩;simp only[go_sem,t,v]
end
section
attribute [local congr] Go.Am.ite_cc
open Go Go.Am Go.Asm
open Go.Src (aT iC)
def HK(c:UInt8):ax Tryz.prog 160 [iv .u8 c.toNat] (·=bv (digit c)):=by
 refine hdP Tryz.func160 rfl [2] λg=>?_;simp only[go_sem];have e:=@rF c;cases a:digit c<;>rw[a]at e<;>simp at e<;>((repeat' (first|refine⟨?_,?_⟩|intro _))<;>(first|rfl|(exfalso;omega)|(simp;omega)))
def ww(c:UInt8):ax Tryz.prog 157 [iv .u8 c.toNat] (·=bv (letter c)):=by
 refine hdP Tryz.func157 rfl [2] λg=>?_;simp only[go_sem];have e:=@un c;cases a:letter c<;>rw[a]at e<;>simp at e<;>((repeat' (first|refine⟨?_,?_⟩|intro _))<;>(first|rfl|(exfalso;omega)|(simp;omega)))
def HL:ax Tryz.prog 159 [] (·=jh iC):=by
 refine hdP Tryz.func159 rfl [0] λg=>?_;simp only[go_sem];exact⟨_,⟨_,qA (L:=iC) rfl rfl rfl,rfl⟩,rfl⟩
def HM:ax Tryz.prog 93 [] (·=jh iC):=by
 refine hdP Tryz.func93 rfl [0] λg=>?_;simp only[go_sem];exact⟨_,⟨_,qA (L:=iC) rfl rfl rfl,rfl⟩,rfl⟩
def HN{l:List Str}{k:Nat}{s x:Str}{X:Bool}(h:decide (s∈l.drop k)=X)(I:l[k]?=S x):(x=s->X=T)/\(x≠s->decide (s∈l.drop (k+1))=X):=by
 rw[de I]at h;constructor
 .rintro rfl;rw[<-h];simp
 .intro e;rw[<-h];simp[B8 e]
def Ws(l:List Str)(s:Str)(hl:z l<=1000000000000000000):ax Tryz.prog 158 [jh l,sv s] (·=bv (decide (s∈l))):=by
 refine hdP Tryz.func158 rfl [4] λg=>?_;obtain⟨X,o⟩:∃X,decide (s∈l)=X:=⟨_,rfl⟩
 rw[o];unfold jh;simp only[go_sem];refine dD (λk K=>decide (s∈l.drop k)=X/\K.f 0=.one (.d (.sl (l.map λs=>[.str s])))/\K.f 1=sv s/\K.f 5=iv .i64 k) (z l) ⟨o,?_⟩ ?_
 .exact hx
 rintro k f v w y ⟨Z,a,e,i⟩;simp only at a e i;have t:=ac (k:=k) a7;by_cases p:k<z l
 case neg=>
  have Q:¬(k:Int)<(z l:Int):=a7;rw[y9 a7]at Z;obtain rfl:X=F:=by rw[<-Z];rfl
  simp only[go_sem,a,i,Q,j6]
 have Q:(k:Int)<(z l:Int):=a7;obtain⟨x,I⟩:=getq p;obtain⟨U,u⟩:=HN Z I;have r:=getD_at (f:=λs:Str=>[D.str s]) I;by_cases hn:x=s
 .obtain rfl:=U hn
  simp only[go_sem,a,e,i,Q,j6,r,hn]
 .simp only[go_sem,a,e,i,Q,j6,r,hn,t]
  refine bN p ⟨u hn,?_⟩;simp only[go_sem,a,e]
def pV(s:Str):aT s=T↔s≠[]/\z s<=20/\s.head?.any letter=T/\s.all ew=T/\s∉iC:=by
 have e:s.takeWhile ew=s↔s.all ew=T:=by
  induction s with
  |nil=>simp
  |cons a s b=>rw[J8,E9];cases h:ew a<;>simp[b]
 unfold aT;rw[B4,e]
def Lg(s:Str):ax Tryz.prog 94 [sv s] (·=bv (aT s)):=by
 refine hdP Tryz.func94 rfl [2] λg=>?_;obtain⟨X,p⟩:∃X,aT s=X:=⟨_,rfl⟩
 rw[p]
 have u:∀h:¬(s≠[]/\z s<=20/\s.head?.any letter=T/\s.all ew=T/\s∉iC),X=F:=λh=>by
  cases X
  .rfl
  .exact absurd ((pV s).1 p) h
 by_cases A:s=[]
 .obtain rfl:=u λh=>h.1 A
  simp only[go_sem,A]
 have bk:¬(z s:Int)=0:=λe=>A (y7 a7);by_cases E:20<(z s:Int)
 .obtain rfl:=u λh=>by have:=h.2.1;omega
  simp only[go_sem,bk,E]
 obtain⟨c,Z⟩:∃c,s[0]?=S c:=getq a7;have b:s.head?=S c:=by rw[<-Z,Si]
 simp only[go_sem,bk,E,Z];refine bJ rfl (by simp only[go_sem];exact ww c) ?_;rintro _ rfl;cases H:letter c
 .obtain rfl:=u λh=>by have:=h.2.2.1;rw[b]at this;simp[H]at this
  exact hx
 simp only[go_sem];refine bJ rfl (by simp only[go_sem];exact HL) ?_;rintro _ rfl;simp only[go_sem];refine bJ rfl (by simp only[go_sem];exact Ws iC s b9) ?_;rintro _ rfl;by_cases o:s∈iC
 .obtain rfl:=u λh=>h.2.2.2.2 o
  simp only[go_sem,o,RZ]
 simp only[go_sem,o,L2];obtain⟨y,v⟩:∃y,s.all ew=y:=⟨_,rfl⟩
 have j:X=y:=by
  cases a:X
  .cases d:y
   .rfl
   .rw[a]at p;rw[d]at v
    have:=(pV s).2 ⟨A,a7,by rw[b];simp[H],v,o⟩;rw[this]at p;cases p
  .rw[a]at p
   rw[<-v,((pV s).1 p).2.2.2.1]
 rw[j];clear p u j o H;refine dD (λk K=>(s.drop k).all ew=y/\K.f 0=sv s/\K.f 3=iv .i64 k) (z s) ⟨v,?_⟩ ?_
 .exact hx
 rintro k f L O hk ⟨Z,q0,t⟩;simp only at q0 t;have o:=ac (k:=k) a7;by_cases w:k<z s
 case neg=>
  have Q:¬(k:Int)<(z s:Int):=a7;rw[y9 a7]at Z;obtain rfl:y=T:=Z.symm;simp only[go_sem,q0,t,Q]
 have Q:(k:Int)<(z s:Int):=a7;obtain⟨x,I⟩:=getq w;obtain⟨U,G⟩:=cQ Z I;simp only[go_sem,q0,t,Q,I];refine bJ rfl (by simp only[go_sem];exact ww x) ?_;rintro _ rfl;cases l:letter x
 .simp only[go_sem,q0,t,I]
  refine bJ rfl (by simp only[go_sem];exact HK x) ?_;rintro _ rfl;cases m:digit x
  .by_cases i:(x.toNat:Int)=95
   .have e:ew x=T:=by
     have:x=95:=P9.1 (by show x.toNat=95;omega);simp[ew,this]
    simp only[go_sem,q0,t,I,i,o];refine bN w ⟨U e,?_⟩;exact UP
   .have e:ew x=F:=by
     have:x≠95:=λe=>i (by rw[e];rfl);simp[ew,l,m,this]
    obtain rfl:=G e;simp only[go_sem,q0,t,I,i]
  .simp only[go_sem,t,o]
   refine bN w ⟨U (by simp[ew,m]),?_⟩;exact UP
 .simp only[go_sem,t,o]
  refine bN w ⟨U (by simp[ew,l]),?_⟩;exact UP
def iY(s:Str):ax Tryz.prog 61 [sv s] (·=bv (aT s)):=by
 refine hdP Tryz.func61 rfl [2] λg=>?_;have hn:=Lg s;have u:s∈iC->aT s=F:=λh=>A4 λq=>q.2.2.2.2 h;obtain⟨X,v⟩:∃X,aT s=X:=⟨_,rfl⟩
 rw[v]at hn u|-;simp only[go_sem];refine bJ rfl (by simp only[go_sem];exact HM) ?_;rintro _ rfl;unfold jh;simp only[go_sem];refine dD (λk K=>K.f 0=sv s/\K.f 3=.one (.d (.sl (iC.map λs=>[.str s])))/\K.f 4=iv .i64 k) 10 ⟨?_,?_⟩ ?_
 .exact hx
 .exact hx
 rintro k f y A hk ⟨q0,a,e⟩;simp only at q0 a e;have w:=ac (k:=k) a7;have o:((z iC:Nat):Int)=10:=rfl;by_cases p:k<10
 case neg=>
  have Q:¬(k:Int)<10:=a7;simp only[go_sem,q0,a,e,Q,j6,o];refine bJ rfl (by simp only[go_sem];exact hn) ?_;rintro _ rfl;exact hx
 have Q:(k:Int)<10:=a7;obtain⟨x,I⟩:=getq (l:=iC) (k:=k) p;have t:=getD_at (f:=λs:Str=>[D.str s]) I;by_cases i:s=x
 .obtain rfl:=u (by rw[i];exact l6 I)
  simp only[go_sem,q0,a,e,Q,j6,o,t,i]
 .simp only[go_sem,q0,a,e,Q,j6,o,t,i,w]
  refine bN p ⟨?_,?_⟩
  .exact UP
  .simp only[go_sem,a]
def xF(l:List Str)(hl:z l<=1000000000000000000):ax Tryz.prog 60 [jh l] (·=bv (l.all aT)):=by
 refine hdP Tryz.func60 rfl [2] λg=>?_;obtain⟨X,e⟩:∃X,l.all aT=X:=⟨_,rfl⟩
 rw[e];unfold jh;simp only[go_sem];refine dD (λk K=>(l.drop k).all aT=X/\K.f 0=.one (.d (.sl (l.map λs=>[.str s])))/\K.f 3=iv .i64 k) (z l) ⟨e,?_⟩ ?_
 .exact hx
 rintro k f u v hk ⟨Z,q0,a⟩;simp only at q0 a;have o:=ac (k:=k) a7;by_cases i:k<z l
 case neg=>
  have Q:¬(k:Int)<(z l:Int):=a7;rw[y9 a7]at Z;obtain rfl:X=T:=Z.symm;simp only[go_sem,q0,a,Q,j6]
 have Q:(k:Int)<(z l:Int):=a7;obtain⟨s,I⟩:=getq i;obtain⟨U,p⟩:=cQ Z I;have t:=getD_at (f:=λs:Str=>[D.str s]) I;simp only[go_sem,q0,a,Q,j6,t];refine bJ rfl (by simp only[go_sem];exact iY s) ?_;rintro _ rfl;cases hn:aT s
 .obtain rfl:=p hn
  exact hx
 .simp only[go_sem,a,o]
  refine bN i ⟨U hn,?_⟩;exact UP
end
section
attribute [local congr] Go.Am.ite_cc
open Go Go.Am Go.Asm
open Go.Src (aT am bD eW bg Ex szE bc inE qI)
def dJ:aT []=F:=rfl
def zC(kind op num:Int)(name:Str)(kids:List Ex)(q:Nat)(f:q<=25)(J:q<=24->ax Tryz.prog 161 [eb kids,iv .i64 (q+1:Nat)] (·=bv (bg (q+1) kids))):ax Tryz.prog 196 [exV (.mk kind op num name kids),iv .i64 q] (·=bv (eW q (.mk kind op num name kids))):=by
 refine hdP Tryz.func196 rfl [4] λg=>?_;have A:exV (.mk kind op num name kids)=.agg [.d (.int .i64 kind),.d (.int .i64 op),.d (.int .u32 num),.d (.str name),.d (.sl (kids.map exD))]:=by simp only[exV,exD,aK,l9,w9]
 obtain⟨X,hz⟩:∃X,eW q (.mk kind op num name kids)=X:=⟨_,rfl⟩
 rw[hz,A];rw[eW]at hz;by_cases j:(24:Int)<(q:Int)
 .obtain rfl:X=F:=by rw[<-hz,A4 a7,A7]
  simp only[go_sem,j]
 have a1:q<=24:=a7;have b5:=ac (k:=q) a7;have J:=J a1;unfold eb at J;have hk:kind=1\/kind=2\/kind=3\/kind=4\/kind=5\/kind=6\/kind=7\/kind=8\/kind=9\/(¬kind=1/\¬kind=2/\¬kind=3/\¬kind=4/\¬kind=5/\¬kind=6/\¬kind=7/\¬kind=8/\¬kind=9):=a7;rcases hk with rfl|rfl|rfl|rfl|rfl|rfl|rfl|rfl|rfl|⟨n,o,p,t,v,P,x,y,l⟩
 ·-- 1
  by_cases u:op=0
  case neg=>
   exact mM
  by_cases c:name=[]
  case neg=>
   obtain rfl:X=F:=by rw[<-hz];simp[bD,am,c]
   simp only[go_sem,j,u,c]
  simp only[go_sem,j,u,c];by_cases a:(z kids:Int)=0
  .obtain rfl:X=T:=by
    have:kids=[]:=y7 a7;rw[<-hz,this];simp[bD,am,bg,a1,c,u]
   simp only[go_sem,j6,a]
  .exact uo
 ·-- 2
  by_cases u:op=0
  case neg=>
   exact mM
  by_cases b:num=0
  case neg=>
   exact n9
  by_cases c:name=[]
  case pos=>
   exact SI
  simp only[go_sem,j,u,b,c];refine bJ rfl V6 ?_;rintro _ rfl;cases an:aT name
  .exact UA
  by_cases a:(z kids:Int)=0
  .obtain rfl:X=T:=by
    have:kids=[]:=y7 a7;rw[<-hz,this];simp[bD,am,bg,a1,an,b,u]
   simp only[go_sem,j6,a]
  .exact uo
 ·-- 3
  by_cases u:op=0
  case neg=>
   exact mM
  by_cases b:num=0
  case neg=>
   exact n9
  by_cases c:name=[]
  case pos=>
   exact SI
  simp only[go_sem,j,u,b,c];refine bJ rfl V6 ?_;rintro _ rfl;cases an:aT name
  .exact UA
  by_cases a:(z kids:Int)=1
  case neg=>
   exact Ux
  simp only[go_sem,j6,a,b5];refine bJ rfl WV ?_;rintro _ rfl
  obtain rfl:X=bg (q+1) kids:=by
   have:z kids=1:=a7;rw[<-hz];simp[bD,am,a1,this,an,b,u]
  exact hx
 ·-- 4
  by_cases u:op=0
  case neg=>
   exact mM
  by_cases b:num=0
  case neg=>
   exact n9
  by_cases c:name=[]
  case pos=>
   exact SI
  simp only[go_sem,j,u,b,c];refine bJ rfl V6 ?_;rintro _ rfl;cases an:aT name
  .exact UA
  by_cases a:(z kids:Int)<=6
  case neg=>
   obtain rfl:X=F:=by
    have:¬z kids<=6:=a7;rw[<-hz];simp[bD,this]
   simp only[go_sem,j6,a]
  simp only[go_sem,j6,a,b5];refine bJ rfl WV ?_;rintro _ rfl
  obtain rfl:X=bg (q+1) kids:=by
   have:z kids<=6:=a7;rw[<-hz];simp[bD,am,a1,this,an,b,u]
  exact hx
 ·-- 5
  by_cases u:op=0
  case neg=>
   exact mM
  by_cases b:num=0
  case neg=>
   exact n9
  by_cases c:name=[]
  case neg=>
   obtain rfl:X=F:=by rw[<-hz];simp[bD,am,c]
   simp only[go_sem,j,u,b,c]
  simp only[go_sem,j,u,b,c];by_cases a:(z kids:Int)=0
  .obtain rfl:X=T:=by
    have:kids=[]:=y7 a7;rw[<-hz,this];simp[bD,am,bg,a1,c,b,u]
   simp only[go_sem,j6,a]
  .exact uo
 ·-- 6
  by_cases b:num=0
  case neg=>
   obtain rfl:X=F:=by rw[<-hz];simp[bD,b]
   simp only[go_sem,j,b]
  by_cases c:name=[]
  case neg=>
   obtain rfl:X=F:=by rw[<-hz];simp[bD,am,c]
   simp only[go_sem,j,b,c]
  simp only[go_sem,j,b,c];by_cases i:4<=op
  case neg=>
   obtain rfl:X=F:=by rw[<-hz];simp[bD,i]
   simp only[go_sem,j6,i]
  by_cases w:op<=15
  case neg=>
   obtain rfl:X=F:=by rw[<-hz];simp[bD,w]
   simp only[go_sem,j6,i,w]
  by_cases a:(z kids:Int)=2
  case neg=>
   obtain rfl:X=F:=by
    have:¬z kids=2:=a7;rw[<-hz];simp[bD,this]
   simp only[go_sem,j6,i,w,a]
  simp only[go_sem,j6,i,w,a,b5];refine bJ rfl WV ?_;rintro _ rfl
  obtain rfl:X=bg (q+1) kids:=by
   have:z kids=2:=a7;rw[<-hz];simp[bD,am,a1,this,c,b,i,w]
  exact hx
 ·-- 7
  by_cases u:op=0
  case neg=>
   exact mM
  by_cases b:num=0
  case neg=>
   exact n9
  by_cases c:name=[]
  case neg=>
   obtain rfl:X=F:=by rw[<-hz];simp[bD,am,c]
   simp only[go_sem,j,u,b,c]
  simp only[go_sem,j,u,b,c];by_cases a:(z kids:Int)=1
  case neg=>
   exact Ux
  simp only[go_sem,j6,a,b5];refine bJ rfl WV ?_;rintro _ rfl
  obtain rfl:X=bg (q+1) kids:=by
   have:z kids=1:=a7;rw[<-hz];simp[bD,am,a1,this,c,b,u]
  exact hx
 ·-- 8
  exact wk
 ·-- 9
  exact wk
 .obtain rfl:X=F:=by rw[<-hz];simp[bD,n,o,p,t,v,P,x,y,l]
  by_cases u:op=0
  case neg=>simp only[go_sem,j,P,u]
  by_cases b:num=0
  case neg=>simp only[go_sem,j,P,u,n,b]
  by_cases c:name=[]
  case neg=>simp only[go_sem,j,P,u,n,b,o,p,t,c]
  simp only[go_sem,j,P,u,n,b,o,p,t,c,v,x,y,l]
def xG:∀(al:Nat)(l:List Ex)(q:Nat),bc l<=al->z l<=1000000000000000000->qI l->q<=25->ax Tryz.prog 161 [eb l,iv .i64 q] (·=bv (bg q l)):=by
 intro al
 induction al using Nat.strongRecOn with
 |ind al w=>
 intro l q E hl x j;refine hdP Tryz.func161 rfl [4] λg=>?_;obtain⟨X,o⟩:∃X,bg q l=X:=⟨_,rfl⟩
 rw[o];rw[Src.zY]at o;unfold eb;simp only[go_sem];refine dD (λk K=>(l.drop k).all (eW q)=X/\K.f 0=.one (.d (.sl (l.map exD)))/\K.f 1=iv .i64 q/\K.f 5=iv .i64 k) (z l) ⟨o,?_⟩ ?_
 .exact hx
 rintro k f G H hk ⟨Z,q0,p,q5⟩;simp only at q0 p q5;have y:=ac (k:=k) a7;by_cases u:k<z l
 case neg=>
  exact Uv
 have Q:(k:Int)<(z l:Int):=a7;obtain⟨e,i⟩:=getq u;obtain⟨U,A⟩:=cQ Z i;have t:=Src.Hw x i;have az:=Src.LU (l6 i);have v:=getD_at (f:=exD) i;have L:=aZ e;obtain⟨kind,op,num,name,a⟩:=e;rw[szE]at az;rw[inE]at t;have hE:=zC kind op num name a q j λh=>w (bc a) a7 a (q+1) (l7 _) t.1 t.2 a7;have I:exD (.mk kind op num name a)=[.int .i64 kind,.int .i64 op,.int .u32 num,.str name,.sl (a.map exD)]:=by simp only[exD,aK]
 unfold exV at hE;rw[I]at v hE;simp only[l9,w9]at hE;simp only[go_sem,q0,p,q5,Q,j6,v];refine bJ rfl W1 ?_;rintro _ rfl;cases V:eW q (.mk kind op num name a)
 .obtain rfl:=A V
  exact hx
 .simp only[go_sem,q5,y]
  refine bN u ⟨U V,?_⟩;simp only[go_sem,q0,p]
end
section
attribute [local congr] Go.Am.ite_cc
open Go Go.Am Go.Asm
open Go.Src (aT am cp bg eL ba Ex Stm szE bc szS aD inE qI inS pR)
def zD(kind:Int)(name:Str)(e:List Ex)(th el:List Stm)(q:Nat)(f:q<=25)(l:q<=24->ax Tryz.prog 161 [eb e,iv .i64 (q+1:Nat)] (·=bv (bg (q+1) e)))
 (hT:q<=24->ax Tryz.prog 62 [eS th,iv .i64 (q+1:Nat)] (·=bv (ba (q+1) th)))(n:q<=24->ax Tryz.prog 62 [eS el,iv .i64 (q+1:Nat)] (·=bv (ba (q+1) el))):
  ax Tryz.prog 95 [smV (.mk kind name e th el),iv .i64 q] (·=bv (eL q (.mk kind name e th el))):=by
 refine hdP Tryz.func95 rfl [4] λg=>?_;have w:smV (.mk kind name e th el)=.agg [.d (.int .i64 kind),.d (.str name),.d (.sl (e.map exD)),.d (.sl (th.map smD)),.d (.sl (el.map smD))]:=by simp only[smV,smD,aK,dQ,l9,w9]
 obtain⟨X,hz⟩:∃X,eL q (.mk kind name e th el)=X:=⟨_,rfl⟩
 rw[hz,w];rw[eL]at hz;by_cases j:(24:Int)<(q:Int)
 .obtain rfl:X=F:=by rw[<-hz,A4 a7,A7,A7]
  simp only[go_sem,j]
 have a1:q<=24:=a7;have a:=ac (k:=q) a7;have l:=l a1;have hT:=hT a1;have n:=n a1;unfold eb at l;unfold eS at hT n;have hk:kind=1\/kind=2\/kind=3\/kind=4\/kind=5\/kind=6\/kind=7\/(¬kind=1/\¬kind=2/\¬kind=3/\¬kind=4/\¬kind=5/\¬kind=6/\¬kind=7):=a7;rcases hk with rfl|rfl|rfl|rfl|rfl|rfl|rfl|⟨p,t,u,i,o,P,v⟩
 case' inl=>
  by_cases a6:0<(z el:Int)
  .exact ia
  have b:el=[]:=y7 a7;by_cases G:0<(z th:Int)
  .exact kn
  have J:th=[]:=y7 a7;by_cases c:name=[]
  .exact SC
  simp only[go_sem,j6,j,a6,G,c];refine bJ rfl V6 ?_;rintro _ rfl;cases an:aT name
  .exact UB
  by_cases hn:(z e:Int)=1
  case neg=>
   exact qk
  obtain rfl:X=(bg (q+1) e&&(ba (q+1) th&&ba (q+1) el)):=by
   have:z e=1:=a7;rw[<-hz];simp[cp,am,a1,this,an,b,J]
  simp only[go_sem,j6,hn,a]
 case' inr.inl=>
  by_cases a6:0<(z el:Int)
  .exact ia
  have b:el=[]:=y7 a7;by_cases G:0<(z th:Int)
  .exact kn
  have J:th=[]:=y7 a7;by_cases c:name=[]
  .exact SC
  simp only[go_sem,j6,j,a6,G,c];refine bJ rfl V6 ?_;rintro _ rfl;cases an:aT name
  .exact UB
  by_cases hn:(z e:Int)=2
  case neg=>
   obtain rfl:X=F:=by
    have:¬z e=2:=a7;rw[<-hz];simp[cp,this]
   simp only[go_sem,j6,hn]
  obtain rfl:X=(bg (q+1) e&&(ba (q+1) th&&ba (q+1) el)):=by
   have:z e=2:=a7;rw[<-hz];simp[cp,am,a1,this,an,b,J]
  simp only[go_sem,j6,hn,a]
 case' inr.inr.inl=>
  by_cases a6:0<(z el:Int)
  .exact ia
  have b:el=[]:=y7 a7;by_cases G:0<(z th:Int)
  .exact kn
  have J:th=[]:=y7 a7;by_cases c:name=[]
  case neg=>
   obtain rfl:X=F:=by rw[<-hz];simp[cp,am,c]
   simp only[go_sem,j6,j,a6,G,c]
  simp only[go_sem,j6,j,a6,G,c];by_cases hn:(z e:Int)=1
  case neg=>
   exact qk
  obtain rfl:X=(bg (q+1) e&&(ba (q+1) th&&ba (q+1) el)):=by
   have:z e=1:=a7;rw[<-hz];simp[cp,am,a1,this,c,b,J]
  simp only[go_sem,j6,hn,a]
 case' inr.inr.inr.inl=>
  by_cases c:name=[]
  case neg=>
   obtain rfl:X=F:=by rw[<-hz];simp[cp,am,c]
   simp only[go_sem,j6,j,c]
  simp only[go_sem,j6,j,c];by_cases hn:(z e:Int)=1
  case neg=>
   exact qk
  obtain rfl:X=(bg (q+1) e&&(ba (q+1) th&&ba (q+1) el)):=by
   have:z e=1:=a7;rw[<-hz];simp[cp,am,a1,this,c]
  simp only[go_sem,j6,hn,a]
 case' inr.inr.inr.inr.inl=>
  by_cases a6:0<(z el:Int)
  .exact ia
  have b:el=[]:=y7 a7;by_cases c:name=[]
  case neg=>
   obtain rfl:X=F:=by rw[<-hz];simp[cp,am,c]
   simp only[go_sem,j6,j,a6,c]
  simp only[go_sem,j6,j,a6,c];by_cases hn:(z e:Int)=1
  case neg=>
   exact qk
  obtain rfl:X=(bg (q+1) e&&(ba (q+1) th&&ba (q+1) el)):=by
   have:z e=1:=a7;rw[<-hz];simp[cp,am,a1,this,c,b]
  simp only[go_sem,j6,hn,a]
 case' inr.inr.inr.inr.inr.inl=>
  by_cases a6:0<(z el:Int)
  .exact ia
  have b:el=[]:=y7 a7;by_cases G:0<(z th:Int)
  .exact kn
  have J:th=[]:=y7 a7;by_cases c:name=[]
  .exact SC
  simp only[go_sem,j6,j,a6,G,c];refine bJ rfl V6 ?_;rintro _ rfl;cases an:aT name
  .exact UB
  by_cases hn:(z e:Int)<=6
  case neg=>
   obtain rfl:X=F:=by
    have:¬z e<=6:=a7;rw[<-hz];simp[cp,this]
   simp only[go_sem,j6,hn]
  obtain rfl:X=(bg (q+1) e&&(ba (q+1) th&&ba (q+1) el)):=by
   have:z e<=6:=a7;rw[<-hz];simp[cp,am,a1,this,an,b,J]
  simp only[go_sem,j6,hn,a]
 case' inr.inr.inr.inr.inr.inr.inl=>
  by_cases a6:0<(z el:Int)
  .exact ia
  have b:el=[]:=y7 a7;by_cases G:0<(z th:Int)
  .exact kn
  have J:th=[]:=y7 a7;by_cases c:name=[]
  case neg=>
   obtain rfl:X=F:=by rw[<-hz];simp[cp,am,c]
   simp only[go_sem,j6,j,a6,G,c]
  simp only[go_sem,j6,j,a6,G,c];by_cases hn:(z e:Int)<=1
  case neg=>
   obtain rfl:X=F:=by
    have:¬z e<=1:=a7;rw[<-hz];simp[cp,this]
   simp only[go_sem,j6,hn]
  obtain rfl:X=(bg (q+1) e&&(ba (q+1) th&&ba (q+1) el)):=by
   have:z e<=1:=a7;rw[<-hz];simp[cp,am,a1,this,c,b,J]
  simp only[go_sem,j6,hn,a]
 case inr.inr.inr.inr.inr.inr.inr=>
  obtain rfl:X=F:=by rw[<-hz];simp[cp,p,t,u,i,o,P,v]
  by_cases a6:0<(z el:Int)
  .simp only[go_sem,j,j6,i,a6]
  by_cases G:0<(z th:Int)
  .simp only[go_sem,j,j6,i,a6,o,G]
  by_cases c:name=[]
  case neg=>simp only[go_sem,j,j6,i,a6,o,G,p,t,P,c]
  simp only[go_sem,j,j6,i,a6,o,G,p,t,P,c,u,v]
 all_goals refine bJ rfl (by simp only[go_sem,a];exact l) ?_
 all_goals rintro _ rfl
 all_goals cases bg (q+1) e
 all_goals simp only[go_sem,a,A7,x6]
 all_goals refine bJ rfl (by simp only[go_sem,a];exact hT) ?_
 all_goals rintro _ rfl
 all_goals cases ba (q+1) th
 all_goals simp only[go_sem,a,A7,x6]
 all_goals refine bJ rfl (by simp only[go_sem,a];exact n) ?_
 all_goals rintro _ rfl
 all_goals simp only[go_sem,x6]
def xH:∀(al:Nat)(l:List Stm)(q:Nat),aD l<=al->z l<=1000000000000000000->pR l->q<=25->ax Tryz.prog 62 [eS l,iv .i64 q] (·=bv (ba q l)):=by
 intro al
 induction al using Nat.strongRecOn with
 |ind al u=>
 intro l q E hl x j;refine hdP Tryz.func62 rfl [4] λg=>?_;obtain⟨X,p⟩:∃X,ba q l=X:=⟨_,rfl⟩
 rw[p];rw[Src.zZ]at p;unfold eS;simp only[go_sem];refine dD (λk K=>(l.drop k).all (eL q)=X/\K.f 0=.one (.d (.sl (l.map smD)))/\K.f 1=iv .i64 q/\K.f 5=iv .i64 k) (z l) ⟨p,?_⟩ ?_
 .exact hx
 rintro k f G H hk ⟨Z,q0,t,q5⟩;simp only at q0 t q5;have y:=ac (k:=k) a7;by_cases v:k<z l
 case neg=>
  exact Uv
 have Q:(k:Int)<(z l:Int):=a7;obtain⟨s,o⟩:=getq v;obtain⟨U,A⟩:=cQ Z o;have a:=Src.Hx x o;have az:=Src.LV (l6 o);have w:=getD_at (f:=smD) o;obtain⟨kind,name,e,i,el⟩:=s;rw[szS]at az;rw[inS]at a;have hS:=zD kind name e i el q j (λh=>xG (bc e) e (q+1) (l7 _) a.1.1 a.1.2 a7) (λh=>u (aD i) a7 i (q+1) (l7 _) a.2.1.1 a.2.1.2 a7) (λh=>u (aD el) a7 el (q+1) (l7 _) a.2.2.1 a.2.2.2 a7);have I:smD (.mk kind name e i el)=[.int .i64 kind,.str name,.sl (e.map exD),.sl (i.map smD),.sl (el.map smD)]:=by simp only[smD,aK,dQ]
 unfold smV at hS;rw[I]at w hS;simp only[l9,w9]at hS;simp only[go_sem,q0,t,q5,Q,j6,w];refine bJ rfl W0 ?_;rintro _ rfl;cases V:eL q (.mk kind name e i el)
 .obtain rfl:=A V
  exact hx
 .simp only[go_sem,q5,y]
  refine bN v ⟨U V,?_⟩;simp only[go_sem,q0,t]
def HO(p:Src.Prog)(hp:Src.InP p):ax Tryz.prog 39 [bS p] (·=bv (Src.dX p)):=by
 refine hdP Tryz.func39 rfl [2] λg=>?_;obtain⟨X,o⟩:∃X,Src.dX p=X:=⟨_,rfl⟩
 rw[o];obtain⟨pv,pa,pf,B⟩:=hp;unfold Src.dX at o;rw[bK];have hn:=xF p.vars pv;unfold jh at hn;simp only[go_sem];refine bJ rfl (by simp only[go_sem];exact hn) ?_;rintro _ rfl;cases t:p.vars.all aT
 .obtain rfl:X=F:=by rw[<-o,t,D2,A7]
  exact hx
 by_cases U:(z p.funcs:Int)<1
 .obtain rfl:X=F:=by rw[<-o,A4 a7,A7,A7]
  simp only[go_sem,j6,U]
 by_cases c:64<(z p.funcs:Int)
 .obtain rfl:X=F:=by rw[<-o,A4 a7,A7,A7]
  simp only[go_sem,j6,U,c]
 rw[t,C9 a7,x6,x6]at o;obtain⟨ga,j⟩:∃y,p.arrays.all Src.ij=y:=⟨_,rfl⟩
 rw[j]at o;simp only[go_sem,j6,U,c];refine dD (λk K=>(p.arrays.drop k).all Src.ij=ga/\K.f 1=.one (.ptr 1 (K.gen 1) 0)/\K.obj 1=S [.d (.sl (p.vars.map λs=>[.str s])),.d (.sl (p.arrays.map arD)),.d (.sl (p.funcs.map fnD))]/\K.f 3=iv .i64 k) (z p.arrays) ⟨j,?_⟩ ?_
 .exact hx
 rintro k f H av hk ⟨Z,q1,o1,w⟩;simp only at q1 o1 w;have I:=ac (k:=k) a7;by_cases E:k<z p.arrays
 .have Q:(k:Int)<(z p.arrays:Int):=a7
  obtain⟨a,t⟩:=getq E;obtain⟨U,G⟩:=cQ Z t;have v:=getD_at (f:=arD) t;have A:arD a=[.str a.1,.int .i64 a.2]:=rfl;rw[A]at v;have q:Src.ij a=(aT a.1&&decide (1<=a.2)&&decide (a.2<=4096)):=rfl;have b:Src.ij a=F->X=F:=λe=>by rw[<-o,G e,A7]
  simp only[go_sem,q1,o1,w,Q,j6,v];refine bJ rfl (by simp only[go_sem];exact iY a.1) ?_;rintro _ rfl;cases an:aT a.1
  .obtain rfl:=b (by rw[q,an];rfl)
   exact hx
  by_cases l1:a.2<1
  .obtain rfl:=b (by rw[q,A4 (show ¬1<=a.2 by omega),D2,A7])
   simp only[go_sem,q1,o1,w,v,l1]
  by_cases l2:4096<a.2
  .obtain rfl:=b (by rw[q,A4 (show ¬a.2<=4096 by omega),D2])
   simp only[go_sem,q1,o1,w,v,l1,l2]
  simp only[go_sem,q1,o1,w,v,l1,l2,I];refine bN E ⟨U (by rw[q,an,C9 (show 1<=a.2 by omega),C9 (show a.2<=4096 by omega)];rfl),?_⟩;exact SW
 have Q:¬(k:Int)<(z p.arrays:Int):=a7;rw[y9 a7]at Z;rw[show ga=T from Z.symm,x6]at o;clear Z hk E j I;simp only[go_sem,q1,o1,w,Q,j6];refine dD (λk K=>(p.funcs.drop k).all Src.fp=X/\K.f 1=.one (.ptr 1 (K.gen 1) 0)/\K.obj 1=S [.d (.sl (p.vars.map λs=>[.str s])),.d (.sl (p.arrays.map arD)),.d (.sl (p.funcs.map fnD))]/\K.f 4=iv .i64 k) (z p.funcs) ⟨o,?_⟩ ?_
 .exact SW
 clear Q q1 o1 w;rintro k f H av hk ⟨Z,q1,o1,L⟩;simp only at q1 o1 L;have I:=ac (k:=k) a7;by_cases E:k<z p.funcs
 case neg=>
  have Q:¬(k:Int)<(z p.funcs:Int):=a7;rw[y9 a7]at Z;obtain rfl:X=T:=Z.symm;simp only[go_sem,q1,o1,L,Q,j6]
 have Q:(k:Int)<(z p.funcs:Int):=a7;obtain⟨fn,t⟩:=getq E;obtain⟨H,x⟩:=cQ Z t;have v:=getD_at (f:=fnD) t;have a6:fnD fn=[.str fn.name,.sl (fn.params.map λs=>[.str s]),.sl (fn.locals.map λs=>[.str s]),.bool fn.word,.sl (fn.body.map smD)]:=rfl;rw[a6]at v;obtain⟨⟨i1,u⟩,i3,r⟩:=B fn (l6 t);have bk:Src.fp fn=(aT fn.name&&decide (z fn.params<=6)&&(fn.params.all aT&&fn.locals.all aT&&ba 1 fn.body)):=rfl;rw[bk]at H x;have h:=xF fn.params i1;have l:=xF fn.locals u;have i:=xH (aD fn.body) fn.body 1 (l7 _) i3 r b9;unfold jh at h l;unfold eS at i;simp only[go_sem,q1,o1,L,Q,j6,v];refine bJ rfl (by simp only[go_sem];exact iY fn.name) ?_;rintro _ rfl;cases U:aT fn.name
 .obtain rfl:=x (by rw[U];rfl)
  exact hx
 by_cases Y:6<(z fn.params:Int)
 .obtain rfl:=x (by rw[U,A4 (show ¬z fn.params<=6 by omega)];rfl)
  simp only[go_sem,j6,Y]
 rw[U,C9 (show z fn.params<=6 by omega),x6,x6]at H x;simp only[go_sem,j6,Y];refine bJ rfl (by simp only[go_sem];exact h) ?_;rintro _ rfl;cases G:fn.params.all aT
 .obtain rfl:=x (by rw[G];rfl)
  exact hx
 simp only[go_sem];refine bJ rfl (by simp only[go_sem];exact l) ?_;rintro _ rfl;cases O:fn.locals.all aT
 .obtain rfl:=x (by rw[G,O];rfl)
  exact hx
 simp only[go_sem];refine bJ rfl (by simp only[go_sem];exact i) ?_;rintro _ rfl;cases h4:ba 1 fn.body
 .obtain rfl:=x (by rw[G,O,h4];rfl)
  exact hx
 .simp only[go_sem,L,I]
  refine bN E ⟨H (by rw[G,O,h4];rfl),?_⟩;exact SW
end
end Go.Proofs.YtlacbjnmkhndiaaGreatDoor
namespace Go.Src
section
attribute [local congr] Go.Am.ite_cc
open Go.Asm (Str)
def aL:Nat->List Str->Str->Int
 |_,[],_=>-1
 |k,x::l,s=>if x=s then(k:Int)else aL (k+1) l s
def iM:∀(l:List Str)(k:Nat)(s:Str),aL k l s = -1\/((k:Int)<=aL k l s/\aL k l s<k+z l)
 |[],_,_=>.inl rfl
 |x::l,k,s=>by
   rw[aL,j9];split
   .omega
   .have:=iM l (k+1) s;omega
def dU(l:List Str):Bool:=(List.range (z l)).all λi=>decide (aL 0 l (l.getD i [])=i)
def iB(f:Fn):List Str:=f.params++f.locals
def ea(p:Prog):List Str:=p.vars++p.arrays.map (·.1)++p.funcs.map (·.name)
def du(p:Prog)(f:Fn)(s:Str):Int×Int:=
 if 0<=aL 0 (iB f) s then(1,aL 0 (iB f) s)
 else
  let k:=aL 0 (ea p) s
  if k<0 then(0,-1)else if k<z p.vars then(2,k)else if k-z p.vars<z p.arrays then(3,k-z p.vars)else(4,k-z p.vars-z p.arrays)
end
end Go.Src
namespace Go.Proofs.YtlacbjnmkhndiaaGreatDoor
section
attribute [local congr] Go.Am.ite_cc
open Go Go.Am Go.Asm
open Go.Src (aL dU iB ea du)
def qM(l:List Str)(s:Str)(hl:z l<=1000000000000000000):ax Tryz.prog 29 [jh l,sv s] (·=iv .i64 (aL 0 l s)):=by
 refine hdP Tryz.func29 rfl [4] λg=>?_;obtain⟨X,o⟩:∃X,aL 0 l s=X:=⟨_,rfl⟩
 rw[o];unfold jh;simp only[go_sem];refine dD (λk K=>aL k (l.drop k) s=X/\K.f 0=.one (.d (.sl (l.map λs=>[.str s])))/\K.f 1=sv s/\K.f 5=iv .i64 k) (z l) ⟨o,?_⟩ ?_
 .exact hx
 rintro k f u v w ⟨Z,a,e,i⟩;simp only at a e i;have t:=ac (k:=k) a7;by_cases p:k<z l
 case neg=>
  have Q:¬(k:Int)<(z l:Int):=a7;rw[y9 a7,aL]at Z;subst Z;simp only[go_sem,a,i,Q,j6]
 have Q:(k:Int)<(z l:Int):=a7;obtain⟨x,I⟩:=getq p;rw[de I,aL]at Z;have r:=getD_at (f:=λs:Str=>[D.str s]) I;by_cases hn:x=s
 .rw[l8 hn]at Z
  subst Z;simp only[go_sem,a,e,i,Q,j6,r,hn]
 .rw[j8 hn]at Z
  simp only[go_sem,a,e,i,Q,j6,r,hn,t];refine bN p ⟨Z,?_⟩;simp only[go_sem,a,e]
def zE(l:List Str)(hl:z l<=1000000000000000000):ax Tryz.prog 96 [jh l] (·=bv (dU l)):=by
 refine hdP Tryz.func96 rfl [2] λg=>?_;obtain⟨X,o⟩:∃X,dU l=X:=⟨_,rfl⟩
 rw[o];unfold dU at o;have t:=λs=>qM l s hl;unfold jh at t|-;simp only[go_sem];refine dD (λk K=>((List.range (z l)).drop k).all (λi=>decide (aL 0 l (l.getD i [])=i))=X/\K.f 0=.one (.d (.sl (l.map λs=>[.str s])))/\K.f 3=iv .i64 k) (z l) ⟨o,?_⟩ ?_
 .exact hx
 rintro k f y A hk ⟨Z,q0,a⟩;simp only at q0 a;have v:=ac (k:=k) a7;by_cases p:k<z l
 case neg=>
  have Q:¬(k:Int)<(z l:Int):=a7;rw[y9 VC]at Z;obtain rfl:X=T:=Z.symm;simp only[go_sem,q0,a,Q,j6]
 have Q:(k:Int)<(z l:Int):=a7;obtain⟨x,I⟩:=getq p;obtain⟨U,u⟩:=cQ Z (x:=k) (by simp[p]);rw[show l.getD k []=x by simp[I]]at U u;have w:=getD_at (f:=λs:Str=>[D.str s]) I;simp only[go_sem,q0,a,Q,j6,w];refine bJ rfl (by simp only[go_sem];exact t x) ?_;rintro _ rfl;by_cases e:aL 0 l x=(k:Int)
 .simp only[go_sem,q0,a,e,v]
  refine bN p ⟨U (C9 e),?_⟩;exact UP
 .obtain rfl:=u (A4 e)
  simp only[go_sem,q0,a,e]
def uG(f:Src.Fn):fnV f=.agg [.d (.str f.name),.d (.sl (f.params.map λs=>[.str s])),.d (.sl (f.locals.map λs=>[.str s])),.d (.bool f.word),.d (.sl (f.body.map smD))]:=rfl
def lN(l:List Str):List.map C.d (l.map λs=>[D.str s]).flatten=l.map λw=>.d (.str w):=by
 induction l with
 |nil=>rfl
 |cons a l b=>simp only[l9,E8,B5,b];rfl
def nR(l:List Str):∀e∈(l.map λs=>[D.str s]),z e=1:=λe a=>by
 obtain⟨s,_,rfl⟩:=E3.1 a;rfl
def CP{o:cF}(f:Src.Fn)(U:z f.params<=1000000)(i:z f.locals<=1000000):bP Tryz.prog 1 o 26 [fnV f] (·=jh (iB f)):=by
 refine hdG Tryz.func26 rfl [.tmp 2] λO bn s0 w0 g=>?_;rw[uG];simp only[go_sem];refine bY aA mixed aE [3] [([],[],[0],F),([1],[0],[],F),([4],[0],[],F),([3,5],[],[0],F),([1],[0],[],F),([7],[0],[],F),([6,8],[],[0],F),([9],[],[],T)] 1 rfl c8 rfl b9 ?_;simp only[go_sem]
 (apply bF;(case hg=>first|exact x9|exact⟨_,rfl,by decide,rfl⟩);(case U=>intro b ga d a J;simp only[go_sem]at J|-;exact J))
 iterate 2 (apply aj;(case hg=>first|exact x9|exact⟨_,rfl,by decide,rfl⟩);(case U=>intro b ga d a J;simp only[go_sem]at J|-;exact J))
 (apply bF;(case hg=>exact x9);(case U=>intro b ga d a J;simp only[go_sem,lN,j6]at J|-;exact⟨nR _,⟨b9,a7⟩,J⟩))
 iterate 2 (apply aj;(case hg=>first|exact x9|exact⟨_,rfl,by decide,rfl⟩);(case U=>intro b ga d a J;simp only[go_sem]at J|-;exact J))
 (apply bF;(case hg=>exact x9);(case U=>intro b ga d a J;simp only[go_sem,lN,j6]at J|-;exact⟨a7,nR _,⟨b9,a7⟩,J⟩))
 refine bZ x9 ?_;intro a e;simp only[go_sem];refine e _ ?_;clear e a;simp only[go_sem];refine⟨_,⟨_,qA (L:=iB f) VF (by simp[upd,iB,s6]) (by simp[iB]),rfl⟩,rfl⟩
def rR(p:Src.Prog)(hv:z p.vars<=1000000)(O:z p.arrays<=1000000)(hf:z p.funcs<=1000000):ax Tryz.prog 25 [bS p] (·=jh (ea p)):=by
 refine hdP Tryz.func25 rfl [2] λg=>?_;rw[bK];simp only[go_sem,lN,j6];refine⟨nR _,⟨b9,a7⟩,?_⟩;refine dD (λk K=>∃G:List Str,G++(p.arrays.drop k).map (·.1)++p.funcs.map (·.name)=ea p/\z G=z p.vars+k/\K.f 1=.one (.ptr 1 (K.gen 1) 0)/\K.obj 1=S [.d (.sl (p.vars.map λs=>[.str s])),.d (.sl (p.arrays.map arD)),.d (.sl (p.funcs.map fnD))]/\K.f 3=.one (.osl 6 (K.gen 6) 1 0 (z G))/\K.obj 6=S (G.map λw=>.d (.str w))/\K.f 4=iv .i64 k) (z p.arrays) ⟨p.vars,rfl,rfl,?_⟩ ?_
 .exact hx
 rintro k f H I E ⟨G,l,b,e,o1,i,o,v⟩;simp only at e o1 i o v;have x:=ac (k:=k) a7;by_cases r:k<z p.arrays
 .have Q:(k:Int)<(z p.arrays:Int):=a7
  obtain⟨a,t⟩:=getq r;have u:=getD_at (f:=arD) t;have A:arD a=[.str a.1,.int .i64 a.2]:=rfl;rw[A]at u;simp only[go_sem,e,o1,i,o,v,Q,j6,u,x];refine⟨l7 _,⟨b9,a7⟩,bN r ⟨G++[a.1],?_,by simp;omega,?_⟩⟩
  .rw[<-l,de t];simp
  .simp only[go_sem,e,o1,j7,B5]
   rw[s6 a8]
 have Q:¬(k:Int)<(z p.arrays:Int):=a7;rw[y9 a7]at l;simp only[go_sem,e,o1,i,v,Q,j6];refine dD (λk K=>∃G:List Str,G++(p.funcs.drop k).map (·.name)=ea p/\z G<=2000000+k/\K.f 1=.one (.ptr 1 (K.gen 1) 0)/\K.obj 1=S [.d (.sl (p.vars.map λs=>[.str s])),.d (.sl (p.arrays.map arD)),.d (.sl (p.funcs.map fnD))]/\K.f 3=.one (.osl 6 (K.gen 6) 1 0 (z G))/\K.obj 6=S (G.map λw=>.d (.str w))/\K.f 5=iv .i64 k) (z p.funcs) ⟨G,by rw[<-l];simp,a7,?_⟩ ?_
 .simp only[go_sem,e,o1,i,o]
 clear e o1 i o v Q x r l b E G;rintro k f H I E ⟨G,l,b,e,o1,i,o,y⟩;simp only at e o1 i o y;have x:=ac (k:=k) a7;by_cases r:k<z p.funcs
 .have Q:(k:Int)<(z p.funcs:Int):=a7
  obtain⟨fn,t⟩:=getq r;have u:=getD_at (f:=fnD) t;have L:fnD fn=[.str fn.name,.sl (fn.params.map λs=>[.str s]),.sl (fn.locals.map λs=>[.str s]),.bool fn.word,.sl (fn.body.map smD)]:=rfl;rw[L]at u;simp only[go_sem,e,o1,i,o,y,Q,j6,u,x];refine⟨l7 _,⟨b9,a7⟩,bN r ⟨G++[fn.name],?_,by simp;omega,?_⟩⟩
  .rw[<-l,de t];simp
  .simp only[go_sem,e,o1,j7,B5]
   rw[s6 a8]
 have Q:¬(k:Int)<(z p.funcs:Int):=a7;rw[y9 a7,w9,s7]at l;simp only[go_sem,e,o1,i,y,Q,j6];exact⟨_,⟨_,qA rfl o rfl,rfl⟩,by rw[<-l];rfl⟩
def uH{s:St}{a b:Int}:ql s [iv .i64 a,iv .i64 b] (.tup [iv .i64 a,iv .i64 b]):=⟨_,⟨_,_,rfl,ke _,_,_,rfl,ke _,rfl⟩,rfl⟩
def HP{o:cF}(p:Src.Prog)(n:z p.vars<=1000000)(t:z p.arrays<=1000000)(hf:z p.funcs<=1000000)(i:Nat)(fn:Src.Fn)(j:p.funcs[i]?=S fn)(U:z fn.params<=1000000)(u:z fn.locals<=1000000)(s:Str):
  bP Tryz.prog 1 o 97 [bS p,iv .i64 i,sv s] (·=.tup [iv .i64 (du p fn s).1,iv .i64 (du p fn s).2]):=by
 refine hdG Tryz.func97 rfl [.tmp 6,.tmp 7] λO bn s0 w0 g=>?_;have y:=(l5.1 j).1;have h:(i:Int)<(z p.funcs:Int):=a7;have l:=getD_at (f:=fnD) j;have v:fnD fn=[.str fn.name,.sl (fn.params.map λs=>[.str s]),.sl (fn.locals.map λs=>[.str s]),.bool fn.word,.sl (fn.body.map smD)]:=rfl;rw[v]at l;have hN:=CP (o:=o) fn U u;have A:z (iB fn)<=2000000:=by simp[iB];omega
 have az:z (ea p)<=3000000:=by simp[ea];omega
 have hG:=rR p n t hf;rw[uG]at hN;rw[bK]at hG|-;simp only[go_sem,h,j6,l];refine cG rfl Wd ?_;rintro _ rfl;simp only[go_sem];refine ip rfl (by simp only[go_sem];exact qM (iB fn) s a7) ?_;rintro _ rfl;unfold du;obtain⟨k,hk⟩:∃k,aL 0 (iB fn) s=k:=⟨_,rfl⟩
 rw[hk];by_cases d:0<=k
 .simp only[go_sem,d]
  exact⟨_,uH,rfl⟩
 rw[j8 d];simp only[go_sem,d];refine ip rfl Xq ?_;rintro _ rfl;simp only[go_sem];refine ip rfl (by simp only[go_sem];exact qM (ea p) s a7) ?_;rintro _ rfl;have x:=Src.iM (ea p) 0 s;obtain⟨k,hk⟩:∃k,aL 0 (ea p) s=k:=⟨_,rfl⟩
 rw[hk]at x|-;by_cases hn:k<0
 .simp only[go_sem,hn]
  exact⟨_,uH,rfl⟩
 by_cases a:k<(z p.vars:Int)
 .simp only[go_sem,hn,a,j6]
  exact⟨_,uH,rfl⟩
 have e:IntKind.i64.wrap (k-(z p.vars:Int))=k-z p.vars:=wrap_i64 _ a7 a7;by_cases b:k-(z p.vars:Int)<(z p.arrays:Int)
 .simp only[go_sem,hn,a,j6,e,b]
  exact⟨_,uH,rfl⟩
 have w:IntKind.i64.wrap (k-(z p.vars:Int)-(z p.arrays:Int))=k-z p.vars-z p.arrays:=wrap_i64 _ a7 a7;simp only[go_sem,hn,a,j6,e,b];refine aF c8 ?_;simp only[go_sem,e,w,j6];exact⟨_,uH,by rw[j8 hn,j8 a,j8 b]⟩
end
end Go.Proofs.YtlacbjnmkhndiaaGreatDoor
namespace Go.Src
section
attribute [local congr] Go.Am.ite_cc
open Go.Asm (Str)
abbrev Us:=Str×Int×Int
def us1(kind:Int)(name:Str)(n:Nat):List Us:=if kind=2 then [(name,1,0)]else if kind=3 then [(name,3,0)]else if kind=4 then [(name,4,(n:Int))]else []
mutual
def usE:Ex->List Us
 |.mk kind _ _ name kids=>us1 kind name (z kids)++ll kids
def ll:List Ex->List Us
 |[]=>[]
 |e::l=>usE e++ll l
end
def us2(kind:Int)(name:Str)(n:Nat):List Us:=if kind=1 then [(name,1,0)]else if kind=2 then [(name,3,0)]else if kind=6 then [(name,4,(n:Int))]else []
mutual
def usS:Stm->List Us
 |.mk kind name e a el=>us2 kind name (z e)++ll e++gU a++gU el
def gU:List Stm->List Us
 |[]=>[]
 |e::l=>usS e++gU l
end
mutual
theorem Lh:∀e:Ex,z (usE e)<=szE e
 |.mk kind _ _ name kids=>by
   have h:=uI kids;rw[usE,szE,j7];have:(us1 kind name (z kids)).length<=1:=by unfold us1;(repeat' split)<;>simp
   omega
theorem uI:∀l:List Ex,z (ll l)<=bc l
 |[]=>by simp[ll]
 |e::l=>by
   have:=Lh e;have:=uI l;rw[ll,bc,j7];omega
end
mutual
theorem Li:∀e:Stm,z (usS e)<=szS e
 |.mk kind name e a el=>by
   have:=uI e;have:=uJ a;have:=uJ el;rw[usS,szS];simp only[j7];have:(us2 kind name (z e)).length<=1:=by unfold us2;(repeat' split)<;>simp
   omega
theorem uJ:∀l:List Stm,z (gU l)<=aD l
 |[]=>by simp[gU]
 |e::l=>by
   have:=Li e;have:=uJ l;rw[gU,aD,j7];omega
end
end
end Go.Src
namespace Go.Proofs.YtlacbjnmkhndiaaGreatDoor
section
attribute [local congr] Go.Am.ite_cc
open Go Go.Am Go.Asm
open Go.Src (Ex Stm Us us1 us2 usE ll usS gU szE bc szS aD)
def usD(u:Us):List D:=[.str u.1,.int .i64 u.2.1,.int .i64 u.2.2]
def qN(l:List Us):AV:=.one (.d (.sl (l.map usD)))
def usC(l:List Us):List C:=l.flatMap λu=>(usD u).map .d
def oS(l:List Us):z (usC l)=z l*3:=by
 induction l with
 |nil=>rfl
 |cons a l b=>simp only[usC,G2,j7]at b|-;rw[b];simp[usD];omega
def CQ(a b:List Us):usC (a++b)=usC a++usC b:=by simp[usC]
def td(l:List Us):List.map C.d (l.map usD).flatten=usC l:=by
 induction l with
 |nil=>rfl
 |cons a l b=>simp only[l9,E8,B5,b];rfl
def qO(l:List Us):∀e∈l.map usD,z e=3:=λe a=>by
 obtain⟨s,_,rfl⟩:=E3.1 a;rfl
def HQ{s:St}{id g:Nat}{l:List Us}(hg:s.gen id=g)(ho:s.obj id=S (usC l)):kR s (.one (.osl id g 3 0 (z l))) (qN l):=
 ⟨_,dN hg l usD ho rfl (λa _ x I=>by simp only[usD,A3,A9,E6]at I;rcases I with rfl|rfl|rfl<;>rfl) (λ_ _=>rfl) rfl,rfl⟩
def Lj{o:cF}:∀(al:Nat)(l:List Ex),bc l<=al->al<=1000000->bP Tryz.prog 1 o 51 [eb l] (·=qN (ll l)):=by
 intro al
 induction al using Nat.strongRecOn with
 |ind al ih=>
 intro l hN i;refine hdG Tryz.func51 rfl [.tmp 2] λO bn s0 w0 g=>?_;have bl:=Src.IF l;have Y:=Src.uI l;unfold eb;simp only[go_sem];refine Hv _ (oe (t:=3) (id:=100) (sz:=3) Vy) (λk K=>∃G:List Us,G++ll (l.drop k)=ll l/\K.f 0=.one (.d (.sl (l.map exD)))/\K.f 3=.one (.osl 100 (K.gen 100) 3 0 (z G))/\K.obj 100=S (usC G)/\K.f 4=iv .i64 k) (z l) ⟨[],rfl,?_⟩ ?_
 .simp only[St.grab]
  simp only[go_sem];rfl
 rintro k f g1 av hk ⟨G,A,w,y,oi,x⟩;simp only at w y oi x;have hw:=ac (k:=k) a7;by_cases X:k<z l
 case neg=>
  have Q:¬(k:Int)<(z l:Int):=a7;rw[y9 a7,ll,s7]at A;rw[<-A];simp only[go_sem,w,y,x,Q,j6];exact⟨_,HQ rfl oi,rfl⟩
 have Q:(k:Int)<(z l:Int):=a7;obtain⟨e,W⟩:=getq X;have az:=Src.LU (l6 W);have hg:=getD_at (f:=exD) W;obtain⟨kind,op,num,name,v⟩:=e;rw[de W,ll,usE]at A;rw[szE]at az;have I:exD (.mk kind op num name v)=[.int .i64 kind,.int .i64 op,.int .u32 num,.str name,.sl (v.map exD)]:=by simp only[exD,aK]
 rw[I]at hg;have J:=ih (bc v) a7 v (l7 _) a7;have a:=Src.uI v;unfold eb at J
 have b:z G+z (ll v)+1<=1000001:=by
  have:=congrArg z A;simp only[j7]at this;omega
 obtain⟨u,L⟩:∃u,us1 kind name (z v)=u:=⟨_,rfl⟩
 rw[L]at A;unfold us1 at L;have hC:=oS G;by_cases B:kind=2
 case' pos=>
  rw[l8 B]at L;simp only[go_sem,w,y,oi,x,Q,j6,hg,B];refine⟨a7,⟨b9,a7⟩,?_⟩
 case' neg=>
  rw[j8 B]at L;by_cases E:kind=3
  case' pos=>
   rw[l8 E]at L;simp only[go_sem,w,y,oi,x,Q,j6,hg,E];refine⟨a7,⟨b9,a7⟩,?_⟩
  case' neg=>
   rw[j8 E]at L;by_cases H:kind=4
   case' pos=>
    rw[l8 H]at L;simp only[go_sem,w,y,oi,x,Q,j6,hg,H];refine bY aA mixed aE [53,100] [([3],[0],[],F),([0],[],[],F),([4],[],[],F),([41,42],[],[],F),([43],[],[],F),([44],[],[],F),([0],[],[],F),([4],[],[],F),([46,47],[],[],F),([48],[],[],F),([49],[],[],F),([50],[],[],F),([45,51],[],[],F),([52],[],[0],F),([40,53],[],[1],F),([54],[],[],T)] 2 rfl c8 rfl b9 ?_;simp only[go_sem]
    iterate 13 (apply aj;(case hg=>first|exact x9|exact⟨_,rfl,by decide,rfl⟩);(case U=>intro Z ga oa V J;simp only[go_sem,w,y,x,Q,hg,j6]at J|-;exact J))
    (apply bF;(case hg=>first|exact x9|exact⟨_,rfl,by decide,rfl⟩);(case U=>intro Z ga oa V J;simp only[go_sem]at J|-;exact J))
    (apply bF;(case hg=>exact x9);(case U=>intro Z ga oa V J;simp only[go_sem,oi]at J|-;exact⟨a7,⟨b9,a7⟩,J⟩))
    refine bZ x9 ?_;intro V a';simp only[go_sem];refine a' _ ?_;clear a' V;simp only[go_sem,w,x,hg]
   case' neg=>
    rw[j8 H]at L;simp only[go_sem,w,y,oi,x,Q,j6,hg,B,E,H]
 all_goals refine cG rfl (by simp only[go_sem];exact J) ?_
 all_goals rintro _ rfl
 all_goals unfold qN
 all_goals simp only[go_sem,td,j6,y,oi,x,hw]
 all_goals refine⟨by simp only[j7,D1,hC,j9,l4];omega,qO _,⟨b9,a7⟩,bN X ⟨G++u++ll v,by rw[<-A];simp only[u7],?_⟩⟩
 all_goals subst L
 all_goals simp only[go_sem,w,j7,CQ,s6,hC,l7]
 all_goals rw[s6 (by simp only[j7,hC,j9,l4];omega)];rfl
def HR{o:cF}:∀(al:Nat)(l:List Stm),aD l<=al->al<=1000000->bP Tryz.prog 1 o 27 [eS l] (·=qN (gU l)):=by
 intro al
 induction al using Nat.strongRecOn with
 |ind al W=>
 intro l hN i;refine hdG Tryz.func27 rfl [.tmp 2] λO bn s0 w0 g=>?_;have bl:=Src.IG l;have Y:=Src.uJ l;unfold eS;simp only[go_sem];refine Hv _ (oe (t:=3) (id:=100) (sz:=3) Vy) (λk K=>∃G:List Us,G++gU (l.drop k)=gU l/\K.f 0=.one (.d (.sl (l.map smD)))/\K.f 3=.one (.osl 100 (K.gen 100) 3 0 (z G))/\K.obj 100=S (usC G)/\K.f 4=iv .i64 k) (z l) ⟨[],rfl,?_⟩ ?_
 .simp only[St.grab]
  simp only[go_sem];rfl
 rintro k f g1 av hk ⟨G,x,a,w,oi,v⟩;simp only at a w oi v;have hw:=ac (k:=k) a7;by_cases X:k<z l
 case neg=>
  have Q:¬(k:Int)<(z l:Int):=a7;rw[y9 a7,gU,s7]at x;rw[<-x];simp only[go_sem,a,w,v,Q,j6];exact⟨_,HQ rfl oi,rfl⟩
 have Q:(k:Int)<(z l:Int):=a7;obtain⟨e,V⟩:=getq X;have az:=Src.LV (l6 V);have hg:=getD_at (f:=smD) V;obtain⟨kind,name,e,y,el⟩:=e;rw[de V,gU,usS]at x;rw[szS]at az;have I:smD (.mk kind name e y el)=[.int .i64 kind,.str name,.sl (e.map exD),.sl (y.map smD),.sl (el.map smD)]:=by simp only[smD,aK,dQ]
 rw[I]at hg;have hE:=Lj (o:=o) (bc e) e (l7 _) a7;have hT:=W (aD y) a7 y (l7 _) a7;have hL:=W (aD el) a7 el (l7 _) a7;unfold eb at hE;unfold eS at hT hL
 have b:z G+z (ll e)+z (gU y)+z (gU el)+1<=1000001:=by
  have:=congrArg z x;simp only[j7]at this;omega
 obtain⟨u,L⟩:∃u,us2 kind name (z e)=u:=⟨_,rfl⟩
 rw[L]at x;unfold us2 at L;have hC:=oS G;by_cases A:kind=1
 case' pos=>
  rw[l8 A]at L;simp only[go_sem,a,w,oi,v,Q,j6,hg,A];refine⟨a7,⟨b9,a7⟩,?_⟩
 case' neg=>
  rw[j8 A]at L;by_cases B:kind=2
  case' pos=>
   rw[l8 B]at L;simp only[go_sem,a,w,oi,v,Q,j6,hg,B];refine⟨a7,⟨b9,a7⟩,?_⟩
  case' neg=>
   rw[j8 B]at L;by_cases E:kind=6
   case' pos=>
    rw[l8 E]at L;simp only[go_sem,a,w,oi,v,Q,j6,hg,E];refine bY aA mixed aE [53,100] [([3],[0],[],F),([0],[],[],F),([4],[],[],F),([41,42],[],[],F),([43],[],[],F),([44],[],[],F),([0],[],[],F),([4],[],[],F),([46,47],[],[],F),([48],[],[],F),([49],[],[],F),([50],[],[],F),([45,51],[],[],F),([52],[],[0],F),([40,53],[],[1],F),([54],[],[],T)] 2 rfl c8 rfl b9 ?_;simp only[go_sem]
    iterate 13 (apply aj;(case hg=>first|exact x9|exact⟨_,rfl,by decide,rfl⟩);(case U=>intro Z ga oa H J;simp only[go_sem,a,w,v,Q,hg,j6]at J|-;exact J))
    (apply bF;(case hg=>first|exact x9|exact⟨_,rfl,by decide,rfl⟩);(case U=>intro Z ga oa H J;simp only[go_sem]at J|-;exact J))
    (apply bF;(case hg=>exact x9);(case U=>intro Z ga oa H J;simp only[go_sem,oi]at J|-;exact⟨a7,⟨b9,a7⟩,J⟩))
    refine bZ x9 ?_;intro H a';simp only[go_sem];refine a' _ ?_;clear a' H;simp only[go_sem,a,v,hg]
   case' neg=>
    rw[j8 E]at L;simp only[go_sem,a,w,oi,v,Q,j6,hg,A,B,E]
 all_goals refine cG rfl W1 ?_
 all_goals rintro _ rfl
 all_goals unfold qN
 all_goals simp only[go_sem,td,j6,a,w,oi,v,hg]
 all_goals refine⟨by simp only[j7,D1,oS,j9,l4];omega,qO _,⟨b9,a7⟩,?_⟩
 all_goals try simp only[go_sem,a,v,hg]
 all_goals refine cG rfl VT ?_
 all_goals rintro _ rfl
 all_goals unfold qN
 all_goals simp only[go_sem,td,j6,a,v,hg]
 all_goals refine⟨by simp only[j7,D1,oS,j9,l4];omega,qO _,⟨b9,a7⟩,?_⟩
 all_goals try simp only[go_sem,a,v,hg]
 all_goals refine cG rfl VU ?_
 all_goals rintro _ rfl
 all_goals unfold qN
 all_goals simp only[go_sem,td,j6,a,v,hw]
 all_goals refine⟨by simp only[j7,D1,oS,j9,l4];omega,qO _,⟨b9,a7⟩,bN X ⟨G++u++ll e++gU y++gU el,by rw[<-x];simp only[u7],?_⟩⟩
 all_goals subst L
 all_goals simp only[go_sem,a,j7,CQ]
 all_goals (repeat rw[s6 (by simp only[j7,D1,oS,j9,l4];omega)])
 all_goals rfl
end
end Go.Proofs.YtlacbjnmkhndiaaGreatDoor
namespace Go.Src
section
open Go.Asm (Str)
def pX:∀(a b:List Str)(k:Nat)(s:Str),aL k (a++b) s=if aL k a s<0 then aL (k+z a) b s else aL k a s
 |[],b,k,s=>by simp[aL]
 |x::a,b,k,s=>by
   rw[C3,aL,aL];by_cases h:x=s
   .rw[l8 h,l8 h,j8 a7]
   .rw[j8 h,j8 h,pX a b,j9,show k+1+z a=k+(z a+1) by omega]
def thG(c:Nat):Nat->List Str->List Th
 |_,[]=>[]
 |k,x::l=>(x,c,k)::thG c (k+1) l
def CR(c:Nat):∀(a b:List Str)(k:Nat),thG c k (a++b)=thG c k a++thG c (k+z a) b
 |[],b,k=>by simp[thG]
 |x::a,b,k=>by simp only[C3,thG,CR c a b,j9];rw[show k+1+z a=k+(z a+1) by omega]
def ju{A:Type}(c:Nat)(g:A->Str):∀(l:List A)(k:Nat),l.mapIdx (λi x=>(g x,c,k+i))=thG c k (l.map g)
 |[],k=>rfl
 |x::l,k=>by
   rw[Mm,l9,thG,<-ju c g l (k+1)];simp only[J6];congr 2;funext i y;rw[show k+(i+1)=k+1+i by omega]
def jI(c:Nat)(s:Str):∀(l:List Str)(k:Nat),aG (thG c k l) s=if aL k l s<0 then N else S (c,(aL k l s).toNat)
 |[],k=>rfl
 |x::l,k=>by
   rw[thG,aG,aL];by_cases h:x=s
   .rw[l8 h,l8 h,j8 a7];rfl
   .rw[j8 h,j8 h,jI c s l (k+1)]
def uK(f:Fn):aV f=thG 1 0 (iB f):=by
 unfold aV thL iB;rw[CR];have U:=ju 1 (λn:Str=>n) f.params 0;have a:=ju 1 (λn:Str=>n) f.locals (z f.params);rw[List.map_id']at U a;rw[U,a,C7]
def uL(p:Prog):aO p=thG 2 0 p.vars++thG 3 0 (p.arrays.map (·.1))++thG 4 0 (p.funcs.map (·.name)):=by
 unfold aO thV thA thF;have U:=ju 2 (λn:Str=>n) p.vars 0;rw[List.map_id']at U;have b:=ju 3 (λa:Str×Int=>a.1) p.arrays 0;have c:=ju 4 (λf:Fn=>f.name) p.funcs 0;simp only[C7]at U b c;rw[U,b,c]
def kh:∀(l:List Str)(k:Nat)(s:Str),aL k l s=if aL 0 l s<0 then -1 else aL 0 l s+k
 |[],_,_=>rfl
 |x::l,k,s=>by
   rw[aL,aL];by_cases h:x=s
   .rw[l8 h,l8 h,j8 a7];omega
   .rw[j8 h,j8 h,kh l (k+1),kh l (0+1)]
    have:=iM l 0 s;split
    .rfl
    .rw[j8 a7];omega
def zF(p:Prog)(f:Fn)(s:Str):du p f s=match aQ (aO p) (aV f) s with|some x=>((x.1:Int),(x.2:Int))|none=>(0,-1):=by
 unfold du aQ;rw[uK,jI,uL,lf,lf,jI,jI,jI];have j:=iM (iB f) 0 s;by_cases h:aL 0 (iB f) s<0
 case neg=>
  rw[l8 a7,j8 h];simp only;rw[I2 a7];rfl
 rw[j8 a7,l8 h];simp only;have i:=iM p.vars 0 s;have g:=iM (p.arrays.map (·.1)) 0 s;have g4:=iM (p.funcs.map (·.name)) 0 s;rw[j6]at g g4
 have J:aL 0 (ea p) s=if aL 0 p.vars s<0 then(if aL 0 (p.arrays.map (·.1)) s<0 then(if aL 0 (p.funcs.map (·.name)) s<0 then -1 else aL 0 (p.funcs.map (·.name)) s+((z p.vars+z p.arrays:Nat):Int))else aL 0 (p.arrays.map (·.1)) s+z p.vars)else aL 0 p.vars s:=by
  unfold ea;rw[pX,pX,C7,C7,kh _ (z p.vars),kh _ (z (p.vars++p.arrays.map (·.1))),j7,j6]
  (repeat' split)<;>omega
 rw[J];generalize aL 0 p.vars s=a at i|-;generalize aL 0 (p.arrays.map (·.1)) s=b at g|-;generalize aL 0 (p.funcs.map (·.name)) s=c at g4|-;by_cases d:a<0
 case neg=>
  rw[j8 d,j8 d,j8 d,l8 a7];simp only;rw[I2 a7];rfl
 rw[l8 d,l8 d];simp only;by_cases e:b<0
 case neg=>
  rw[j8 e,j8 e,j8 a7,j8 a7,l8 a7];simp only;rw[I2 a7,show b+(z p.vars:Int)-z p.vars=b by omega];rfl
 rw[l8 e,l8 e];simp only;by_cases Z:c<0
 case neg=>
  rw[j8 Z,j8 Z,j8 a7,j8 a7,j8 a7];simp only;rw[I2 a7,show c+((z p.vars+z p.arrays:Nat):Int)-z p.vars-z p.arrays=c by omega];rfl
 rw[l8 Z,l8 Z];rfl
def CS{l:List Str}{i:Nat}(h:i<z l):l.getD i []=l[i]:=by simp[List.getD,h]
def sA:∀(l:List Str)(k:Nat),(∀i,i<z l->aL k l (l.getD i [])=((k+i:Nat):Int))↔l.Nodup
 |[],k=>by simp
 |x::l,k=>by
   rw[N7,<-sA l (k+1)];constructor
   .intro h
    have I:∀i,i<z l->x≠l.getD i []/\aL (k+1) l (l.getD i [])=((k+1+i:Nat):Int):=λi a=>by
     have:=h (i+1) VC;rw[Qc,aL]at this;split at this
     .omega
     .rename_i bz;exact⟨bz,by rw[this];congr 1;omega⟩
    refine⟨λb=>?_,λi a=>(I i a).2⟩;obtain⟨i,a,e⟩:=List.getElem_of_mem b;exact(I i a).1 (by rw[CS a,e])
   .rintro⟨b,h⟩ i a
    cases i with
    |zero=>rw[List.getD_cons_zero,aL,l8 rfl];rfl
    |succ i=>
      have a:i<z l:=by simpa using a
      rw[Qc,aL,j8 (λe=>b (by rw[e,CS a];exact I8 a)),h i a];congr 1;omega
def sB(l:List Str):dU l=T↔l.Nodup:=by
 rw[<-sA l 0];unfold dU;simp only[y8,D5,B4,C7]
def xI{l:List Th}{s:Str}:(aG l s).isNone=T↔s∉l.map (·.1):=by
 induction l with
 |nil=>simp[aG]
 |cons t l a=>
   rw[aG];by_cases h:t.1=s
   .simp[h]
   .rw[j8 h,a]
    simp only[l9,A3,R7];exact⟨λx=>⟨B8 h,x⟩,λx=>x.2⟩
def nS:∀(l a:List Th),bR a l=T↔(∀t∈l,t.1∉a.map (·.1))/\(l.map (·.1)).Nodup
 |[],a=>by simp[bR]
 |t::l,a=>by
   rw[bR,s5,xI,nS l];simp only[B5,l9,w9,C4,E0,List.forall_mem_cons,N7,R7];constructor
   .rintro⟨U,b,c⟩
    exact⟨⟨U,λx I=>(b x I).1⟩,λd=>by obtain⟨y,f,e⟩:=E3.1 d;exact(b y f).2 e,c⟩
   .rintro⟨⟨U,b⟩,c,g⟩
    exact⟨U,λx I=>⟨b x I,λe=>c (by rw[<-e];exact List.mem_map_of_mem I)⟩,g⟩
def qP(c:Nat):∀(l:List Str)(k:Nat),(thG c k l).map (·.1)=l
 |[],_=>rfl
 |x::l,k=>by rw[thG,l9,qP c l]
def Bu(f:Fn):bR [] (aV f)=dU (iB f):=by
 rw[N5,nS,sB,uK,qP];simp
def Bv(p:Prog):bR [] (aO p)=dU (ea p):=by
 rw[N5,nS,sB,uL,B5,B5,qP,qP,qP];simp[ea]
def asK(a:Int):Nat:=if a=1 then 2 else a.toNat
def vU(u:Nat->Str->Nat->Bool)(x:Us):Bool:=u (asK x.2.1) x.1 x.2.2.toNat
def Lk(u:Nat->Str->Nat->Bool)(kind:Int)(name:Str)(n:Nat):(us1 kind name n).all (vU u)=if kind=2 then u 2 name 0 else if kind=3 then u 3 name 0 else if kind=4 then u 4 name n else T:=by
 unfold us1
 (repeat' split)<;>simp[vU,asK]
def Ll(u:Nat->Str->Nat->Bool)(kind:Int)(name:Str)(n:Nat):(us2 kind name n).all (vU u)=if kind=1 then u 2 name 0 else if kind=2 then u 3 name 0 else if kind=6 then u 4 name n else T:=by
 unfold us2
 (repeat' split)<;>simp[vU,asK]
mutual
theorem Pd(u:Nat->Str->Nat->Bool):∀e:Ex,okE u e=(usE e).all (vU u)
 |.mk kind _ _ name kids=>by rw[okE,usE,H5,Lk,xJ u kids]
theorem xJ(u:Nat->Str->Nat->Bool):∀l:List Ex,df u l=(ll l).all (vU u)
 |[]=>rfl
 |e::l=>by rw[df,ll,H5,Pd u e,xJ u l]
end
mutual
theorem Pe(u:Nat->Str->Nat->Bool):∀e:Stm,okS u e=(usS e).all (vU u)
 |.mk kind name e a el=>by rw[okS,usS,H5,H5,H5,Ll,xJ u e,qQ u a,qQ u el]
theorem qQ(u:Nat->Str->Nat->Bool):∀l:List Stm,dy u l=(gU l).all (vU u)
 |[]=>rfl
 |e::l=>by rw[dy,gU,H5,Pe u e,qQ u l]
end
end
end Go.Src

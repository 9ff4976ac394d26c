/- A part of the proof; no conditions. -/
import Derived.Test.YtlacbjnmkhndiaaGreatDoorPart15
set_option linter.unusedSimpArgs false
set_option linter.unusedVariables false
set_option linter.defProp false
open List renaming length -> z
open Option renaming some -> S, none -> N
open Bool renaming true -> T, false -> F
set_option maxHeartbeats 64000000
set_option maxRecDepth 100000
namespace Go.Proofs.YtlacbjnmkhndiaaGreatDoor
section
open Go Go.Am Go.Asm
open Go.Src (Ex Stm szE bc szS aD inE qI inS pR mQ cX mR dt)
attribute[local congr]ite_cc
def bK(p:Src.Prog):bS p=.agg [.d (.sl (p.vars.map λs=>[.str s])),.d (.sl (p.arrays.map arD)),.d (.sl (p.funcs.map fnD))]:=rfl
def Tw(p:Src.Prog)(hp:Src.InP p)(i:Int)(hm:0<=i/\i<=1000000):ax Tryz.prog 15 [bS p,iv .i64 i] (·=bv (Src.Tv p i)):=by
 refine hdP Tryz.func15 rfl [4] λg=>?_;obtain⟨X,E⟩:∃X,Src.Tv p i=X:=⟨_,rfl⟩
 rw[E];obtain⟨pv,pa,pf,B⟩:=hp;unfold Src.Tv at E;rw[bK];simp only[go_sem];refine bJ rfl (by simp only[go_sem];exact xE p.vars pv) ?_;rintro _ rfl;cases G:Src.Bt p.vars
 .obtain rfl:X=F:=by rw[<-E,G];rfl
  exact hx
 by_cases ha:200<(z p.arrays:Int)
 .obtain rfl:X=F:=by rw[<-E,G,show decide (z p.arrays<=200)=F from A4 a7];rfl
  simp only[go_sem,j6,ha]
 by_cases hf:70<(z p.funcs:Int)
 .obtain rfl:X=F:=by rw[<-E,G,show decide (z p.funcs<=70)=F from A4 a7,D2];rfl
  simp only[go_sem,j6,ha,hf]
 rw[G,show decide (z p.funcs<=70)=T from C9 a7,show decide (z p.arrays<=200)=T from C9 a7,j8 b9]at E;have b4:IntKind.i64.wrap (i-(z p.vars:Int))=i-z p.vars:=wrap_i64 _ a7 a7;have w:IntKind.i64.wrap (i-(z p.vars:Int)-(z p.arrays:Int))=i-z p.vars-z p.arrays:=wrap_i64 _ a7 a7;obtain⟨left,b⟩:∃x:Int,i-(z p.vars:Int)-(z p.arrays:Int)-(z p.funcs:Int)=x:=⟨_,rfl⟩
 rw[b]at E;have l:IntKind.i64.wrap (i-(z p.vars:Int)-(z p.arrays:Int)-(z p.funcs:Int))=left:=by rw[b];exact wrap_i64 _ a7 a7
 have m:-2000000000000000000<=left/\left<=1000000:=a7;obtain⟨ga,j⟩:∃y,(p.arrays.all λa=>decide ((z a.1:Int)<=60))=y:=⟨_,rfl⟩
 simp only[go_sem,j6,ha,hf,b4,w,l];refine dD (λk K=>((p.arrays.drop k).all λa=>decide ((z a.1:Int)<=60))=ga/\K.f 2=.one (.ptr 2 (K.gen 2) 0)/\K.obj 2=S [.d (.sl (p.vars.map λs=>[.str s])),.d (.sl (p.arrays.map arD)),.d (.sl (p.funcs.map fnD))]/\K.f 5=iv .i64 left/\K.f 6=iv .i64 k) (z p.arrays) ⟨j,?_⟩ ?_
 .exact hx
 rintro k f g1 av hk ⟨Z,t,v,H,Y⟩;simp only at t v H Y;have hw:=ac (k:=k) a7;by_cases L:k<z p.arrays
 .have Q:(k:Int)<(z p.arrays:Int):=a7
  obtain⟨a,G⟩:=getq L;obtain⟨U,I⟩:=cQ Z G;have O:=getD_at (f:=arD) G;have A:arD a=[.str a.1,.int .i64 a.2]:=rfl;rw[A]at O;by_cases hn:60<(z a.1:Int)
  .have e:=I (A4 a7)
   rw[e]at j;rw[j,l8 rfl]at E;subst E;simp only[go_sem,t,v,Y,Q,j6,O,hn]
  .simp only[go_sem,t,v,Y,Q,j6,O,hn,hw]
   refine bN L ⟨U (C9 a7),?_⟩;simp only[go_sem,t,v,H]
 have Q:¬(k:Int)<(z p.arrays:Int):=a7;rw[y9 a7]at Z;have e:ga=T:=Z.symm;rw[e]at j;rw[j,j8 b9]at E;clear Z hk L e j hw;simp only[go_sem,t,v,Y,Q,j6];refine dD (λk K=>∃c:Int,(match Src.Lf c (p.funcs.drop k)with|some n=>decide (0<=n)|none=>F)=X/\(-3000000000000000000<=c/\c<=1000000)/\(0<=c\/-2000000000000000000-400*(k:Int)<=c)/\K.f 2=.one (.ptr 2 (K.gen 2) 0)/\K.obj 2=S [.d (.sl (p.vars.map λs=>[.str s])),.d (.sl (p.arrays.map arD)),.d (.sl (p.funcs.map fnD))]/\K.f 5=iv .i64 c/\K.f 7=iv .i64 k) (z p.funcs) ⟨left,E,a7,a7,?_⟩ ?_
 .simp only[go_sem,t,H,v]
 clear Q t v H Y;rintro k f g1 av hk ⟨c,Z,o,b0,t,v,H,q7⟩;simp only at t v H q7;have hw:=ac (k:=k) a7;by_cases L:k<z p.funcs
 case neg=>
  have Q:¬(k:Int)<(z p.funcs:Int):=a7;rw[y9 a7]at Z;simp only[Src.Lf]at Z;simp only[go_sem,t,v,H,q7,Q,j6,Z]
 have Q:(k:Int)<(z p.funcs:Int):=a7;obtain⟨fn,G⟩:=getq L;have O:=getD_at (f:=fnD) G;have a6:fnD fn=[.str fn.name,.sl (fn.params.map λs=>[.str s]),.sl (fn.locals.map λs=>[.str s]),.bool fn.word,.sl (fn.body.map smD)]:=rfl;rw[a6]at O;obtain⟨⟨i1,u⟩,i3,r⟩:=B fn (l6 G);rw[de G,Src.Lf]at Z;simp only[go_sem,t,v,q7,Q,j6,O];refine bJ rfl (by simp only[go_sem];exact xE fn.params i1) ?_;rintro _ rfl;cases U:Src.Bt fn.params
 .obtain rfl:X=F:=by rw[<-Z,U];rfl
  exact hx
 simp only[go_sem];refine bJ rfl (by simp only[go_sem];exact xE fn.locals u) ?_;rintro _ rfl;cases I:Src.Bt fn.locals
 .obtain rfl:X=F:=by rw[<-Z,U,I];rfl
  exact hx
 by_cases hn:60<(z fn.name:Int)
 .obtain rfl:X=F:=by rw[<-Z,U,I,A4 (show ¬(z fn.name:Int)<=60 by omega)];rfl
  simp only[go_sem,hn]
 rw[U,I,C9 (show (z fn.name:Int)<=60 by omega),l8 b9]at Z;have l1:z fn.params<=200:=by unfold Src.Bt at U;simp only[s5,B4]at U;exact U.1
 have l2:z fn.locals<=200:=by unfold Src.Bt at I;simp only[s5,B4]at I;exact I.1
 have b4:IntKind.i64.wrap (c-(z fn.params:Int))=c-z fn.params:=wrap_i64 _ a7 a7;have w:IntKind.i64.wrap (c-(z fn.params:Int)-(z fn.locals:Int))=c-z fn.params-z fn.locals:=wrap_i64 _ a7 a7;simp only[go_sem,hn,H,j6,b4,w];have b1:=Src.oQ fn.body (c-z fn.params-z fn.locals) 60;have b2:c-z fn.params-z fn.locals<0->dt fn.body (c-z fn.params-z fn.locals) 60=c-z fn.params-z fn.locals:=λh=>Src.mw h _;have b3:=Src.rP fn.body (c-z fn.params-z fn.locals) 60;refine bJ rfl (by simp only[go_sem,b4,w];exact zB (aD fn.body) fn.body _ 60 (l7 _) i3 r a7 b9) ?_;rintro _ rfl;simp only[go_sem,q7,hw];refine bN L ⟨_,Z,a7,a7,?_⟩;simp only[go_sem,t,v]
end
section
open Go Go.Am Go.Asm
open Go.Src (aT iC)
attribute[local congr]ite_cc
def HK(c:UInt8):ax Tryz.prog 160 [iv .u8 c.toNat] (·=bv (digit c)):=by
 refine hdP Tryz.func160 rfl [2] λg=>?_;simp only[go_sem];have e:=@rF c;cases a:digit c<;>rw[a]at e<;>simp at e<;>((repeat' (first|refine⟨?_,?_⟩|intro _))<;>(first|rfl|(exfalso;omega)|(simp;omega)))
def ww(c:UInt8):ax Tryz.prog 157 [iv .u8 c.toNat] (·=bv (letter c)):=by
 refine hdP Tryz.func157 rfl [2] λg=>?_;simp only[go_sem];have e:=@un c;cases a:letter c<;>rw[a]at e<;>simp at e<;>((repeat' (first|refine⟨?_,?_⟩|intro _))<;>(first|rfl|(exfalso;omega)|(simp;omega)))
def HL:ax Tryz.prog 159 [] (·=jh iC):=by
 refine hdP Tryz.func159 rfl [0] λg=>?_;simp only[go_sem];exact⟨_,⟨_,qA (L:=iC) rfl rfl rfl,rfl⟩,rfl⟩
def HM:ax Tryz.prog 93 [] (·=jh iC):=by
 refine hdP Tryz.func93 rfl [0] λg=>?_;simp only[go_sem];exact⟨_,⟨_,qA (L:=iC) rfl rfl rfl,rfl⟩,rfl⟩
def HN{l:List Str}{k:Nat}{s x:Str}{X:Bool}(h:decide (s∈l.drop k)=X)(I:l[k]?=S x):(x=s->X=T)/\(x≠s->decide (s∈l.drop (k+1))=X):=by
 rw[de I]at h;constructor
 .rintro rfl;rw[<-h];simp
 .intro e;rw[<-h];simp[B8 e]
def Ws(l:List Str)(s:Str)(hl:z l<=1000000000000000000):ax Tryz.prog 158 [jh l,sv s] (·=bv (decide (s∈l))):=by
 refine hdP Tryz.func158 rfl [4] λg=>?_;obtain⟨X,o⟩:∃X,decide (s∈l)=X:=⟨_,rfl⟩
 rw[o];unfold jh;simp only[go_sem];refine dD (λk K=>decide (s∈l.drop k)=X/\K.f 0=.one (.d (.sl (l.map λs=>[.str s])))/\K.f 1=sv s/\K.f 5=iv .i64 k) (z l) ⟨o,?_⟩ ?_
 .exact hx
 rintro k f v w y ⟨Z,a,e,i⟩;simp only at a e i;have t:=ac (k:=k) a7;by_cases p:k<z l
 case neg=>
  have Q:¬(k:Int)<(z l:Int):=a7;rw[y9 a7]at Z;obtain rfl:X=F:=by rw[<-Z];rfl
  simp only[go_sem,a,i,Q,j6]
 have Q:(k:Int)<(z l:Int):=a7;obtain⟨x,I⟩:=getq p;obtain⟨U,u⟩:=HN Z I;have r:=getD_at (f:=λs:Str=>[D.str s]) I;by_cases hn:x=s
 .obtain rfl:=U hn
  simp only[go_sem,a,e,i,Q,j6,r,hn]
 .simp only[go_sem,a,e,i,Q,j6,r,hn,t]
  refine bN p ⟨u hn,?_⟩;simp only[go_sem,a,e]
def pV(s:Str):aT s=T↔s≠[]/\z s<=20/\s.head?.any letter=T/\s.all ew=T/\s∉iC:=by
 have e:s.takeWhile ew=s↔s.all ew=T:=by
  induction s with
  |nil=>simp
  |cons a s b=>rw[J8,E9];cases h:ew a<;>simp[b]
 unfold aT;rw[B4,e]
def Lg(s:Str):ax Tryz.prog 94 [sv s] (·=bv (aT s)):=by
 refine hdP Tryz.func94 rfl [2] λg=>?_;obtain⟨X,p⟩:∃X,aT s=X:=⟨_,rfl⟩
 rw[p]
 have u:∀h:¬(s≠[]/\z s<=20/\s.head?.any letter=T/\s.all ew=T/\s∉iC),X=F:=λh=>by
  cases X
  .rfl
  .exact absurd ((pV s).1 p) h
 by_cases A:s=[]
 .obtain rfl:=u λh=>h.1 A
  simp only[go_sem,A]
 have bk:¬(z s:Int)=0:=λe=>A (y7 a7);by_cases E:20<(z s:Int)
 .obtain rfl:=u λh=>by have:=h.2.1;omega
  simp only[go_sem,bk,E]
 obtain⟨c,Z⟩:∃c,s[0]?=S c:=getq a7;have b:s.head?=S c:=by rw[<-Z,Si]
 simp only[go_sem,bk,E,Z];refine bJ rfl (by simp only[go_sem];exact ww c) ?_;rintro _ rfl;cases H:letter c
 .obtain rfl:=u λh=>by have:=h.2.2.1;rw[b]at this;simp[H]at this
  exact hx
 simp only[go_sem];refine bJ rfl (by simp only[go_sem];exact HL) ?_;rintro _ rfl;simp only[go_sem];refine bJ rfl (by simp only[go_sem];exact Ws iC s b9) ?_;rintro _ rfl;by_cases o:s∈iC
 .obtain rfl:=u λh=>h.2.2.2.2 o
  simp only[go_sem,o,RZ]
 simp only[go_sem,o,L2];obtain⟨y,v⟩:∃y,s.all ew=y:=⟨_,rfl⟩
 have j:X=y:=by
  cases a:X
  .cases d:y
   .rfl
   .rw[a]at p;rw[d]at v
    have:=(pV s).2 ⟨A,a7,by rw[b];simp[H],v,o⟩;rw[this]at p;cases p
  .rw[a]at p
   rw[<-v,((pV s).1 p).2.2.2.1]
 rw[j];clear p u j o H;refine dD (λk K=>(s.drop k).all ew=y/\K.f 0=sv s/\K.f 3=iv .i64 k) (z s) ⟨v,?_⟩ ?_
 .exact hx
 rintro k f L O hk ⟨Z,q0,t⟩;simp only at q0 t;have o:=ac (k:=k) a7;by_cases w:k<z s
 case neg=>
  have Q:¬(k:Int)<(z s:Int):=a7;rw[y9 a7]at Z;obtain rfl:y=T:=Z.symm;simp only[go_sem,q0,t,Q]
 have Q:(k:Int)<(z s:Int):=a7;obtain⟨x,I⟩:=getq w;obtain⟨U,G⟩:=cQ Z I;simp only[go_sem,q0,t,Q,I];refine bJ rfl (by simp only[go_sem];exact ww x) ?_;rintro _ rfl;cases l:letter x
 .simp only[go_sem,q0,t,I]
  refine bJ rfl (by simp only[go_sem];exact HK x) ?_;rintro _ rfl;cases m:digit x
  .by_cases i:(x.toNat:Int)=95
   .have e:ew x=T:=by
     have:x=95:=P9.1 (by show x.toNat=95;omega);simp[ew,this]
    simp only[go_sem,q0,t,I,i,o];refine bN w ⟨U e,?_⟩;exact UP
   .have e:ew x=F:=by
     have:x≠95:=λe=>i (by rw[e];rfl);simp[ew,l,m,this]
    obtain rfl:=G e;simp only[go_sem,q0,t,I,i]
  .simp only[go_sem,t,o]
   refine bN w ⟨U (by simp[ew,m]),?_⟩;exact UP
 .simp only[go_sem,t,o]
  refine bN w ⟨U (by simp[ew,l]),?_⟩;exact UP
def iY(s:Str):ax Tryz.prog 61 [sv s] (·=bv (aT s)):=by
 refine hdP Tryz.func61 rfl [2] λg=>?_;have hn:=Lg s;have u:s∈iC->aT s=F:=λh=>A4 λq=>q.2.2.2.2 h;obtain⟨X,v⟩:∃X,aT s=X:=⟨_,rfl⟩
 rw[v]at hn u|-;simp only[go_sem];refine bJ rfl (by simp only[go_sem];exact HM) ?_;rintro _ rfl;unfold jh;simp only[go_sem];refine dD (λk K=>K.f 0=sv s/\K.f 3=.one (.d (.sl (iC.map λs=>[.str s])))/\K.f 4=iv .i64 k) 10 ⟨?_,?_⟩ ?_
 .exact hx
 .exact hx
 rintro k f y A hk ⟨q0,a,e⟩;simp only at q0 a e;have w:=ac (k:=k) a7;have o:((z iC:Nat):Int)=10:=rfl;by_cases p:k<10
 case neg=>
  have Q:¬(k:Int)<10:=a7;simp only[go_sem,q0,a,e,Q,j6,o];refine bJ rfl (by simp only[go_sem];exact hn) ?_;rintro _ rfl;exact hx
 have Q:(k:Int)<10:=a7;obtain⟨x,I⟩:=getq (l:=iC) (k:=k) p;have t:=getD_at (f:=λs:Str=>[D.str s]) I;by_cases i:s=x
 .obtain rfl:=u (by rw[i];exact l6 I)
  simp only[go_sem,q0,a,e,Q,j6,o,t,i]
 .simp only[go_sem,q0,a,e,Q,j6,o,t,i,w]
  refine bN p ⟨?_,?_⟩
  .exact UP
  .simp only[go_sem,a]
def xF(l:List Str)(hl:z l<=1000000000000000000):ax Tryz.prog 60 [jh l] (·=bv (l.all aT)):=by
 refine hdP Tryz.func60 rfl [2] λg=>?_;obtain⟨X,e⟩:∃X,l.all aT=X:=⟨_,rfl⟩
 rw[e];unfold jh;simp only[go_sem];refine dD (λk K=>(l.drop k).all aT=X/\K.f 0=.one (.d (.sl (l.map λs=>[.str s])))/\K.f 3=iv .i64 k) (z l) ⟨e,?_⟩ ?_
 .exact hx
 rintro k f u v hk ⟨Z,q0,a⟩;simp only at q0 a;have o:=ac (k:=k) a7;by_cases i:k<z l
 case neg=>
  have Q:¬(k:Int)<(z l:Int):=a7;rw[y9 a7]at Z;obtain rfl:X=T:=Z.symm;simp only[go_sem,q0,a,Q,j6]
 have Q:(k:Int)<(z l:Int):=a7;obtain⟨s,I⟩:=getq i;obtain⟨U,p⟩:=cQ Z I;have t:=getD_at (f:=λs:Str=>[D.str s]) I;simp only[go_sem,q0,a,Q,j6,t];refine bJ rfl (by simp only[go_sem];exact iY s) ?_;rintro _ rfl;cases hn:aT s
 .obtain rfl:=p hn
  exact hx
 .simp only[go_sem,a,o]
  refine bN i ⟨U hn,?_⟩;exact UP
end
section
open Go Go.Am Go.Asm
open Go.Src (aT am bD eW bg Ex szE bc inE qI)
attribute[local congr]ite_cc
def dJ:aT []=F:=rfl
def zC(kind op num:Int)(name:Str)(kids:List Ex)(q:Nat)(f:q<=25)(J:q<=24->ax Tryz.prog 161 [eb kids,iv .i64 (q+1:Nat)] (·=bv (bg (q+1) kids))):ax Tryz.prog 196 [exV (.mk kind op num name kids),iv .i64 q] (·=bv (eW q (.mk kind op num name kids))):=by
 refine hdP Tryz.func196 rfl [4] λg=>?_;have A:exV (.mk kind op num name kids)=.agg [.d (.int .i64 kind),.d (.int .i64 op),.d (.int .u32 num),.d (.str name),.d (.sl (kids.map exD))]:=by simp only[exV,exD,aK,l9,w9]
 obtain⟨X,hz⟩:∃X,eW q (.mk kind op num name kids)=X:=⟨_,rfl⟩
 rw[hz,A];rw[eW]at hz;by_cases j:(24:Int)<(q:Int)
 .obtain rfl:X=F:=by rw[<-hz,A4 a7,A7]
  simp only[go_sem,j]
 have a1:q<=24:=a7;have b5:=ac (k:=q) a7;have J:=J a1;unfold eb at J;have hk:kind=1\/kind=2\/kind=3\/kind=4\/kind=5\/kind=6\/kind=7\/kind=8\/kind=9\/(¬kind=1/\¬kind=2/\¬kind=3/\¬kind=4/\¬kind=5/\¬kind=6/\¬kind=7/\¬kind=8/\¬kind=9):=a7;rcases hk with rfl|rfl|rfl|rfl|rfl|rfl|rfl|rfl|rfl|⟨n,o,p,t,v,P,x,y,l⟩
 ·-- 1
  by_cases u:op=0
  case neg=>
   exact mM
  by_cases c:name=[]
  case neg=>
   obtain rfl:X=F:=by rw[<-hz];simp[bD,am,c]
   simp only[go_sem,j,u,c]
  simp only[go_sem,j,u,c];by_cases a:(z kids:Int)=0
  .obtain rfl:X=T:=by
    have:kids=[]:=y7 a7;rw[<-hz,this];simp[bD,am,bg,a1,c,u]
   simp only[go_sem,j6,a]
  .exact uo
 ·-- 2
  by_cases u:op=0
  case neg=>
   exact mM
  by_cases b:num=0
  case neg=>
   exact n9
  by_cases c:name=[]
  case pos=>
   exact SI
  simp only[go_sem,j,u,b,c];refine bJ rfl V6 ?_;rintro _ rfl;cases an:aT name
  .exact UA
  by_cases a:(z kids:Int)=0
  .obtain rfl:X=T:=by
    have:kids=[]:=y7 a7;rw[<-hz,this];simp[bD,am,bg,a1,an,b,u]
   simp only[go_sem,j6,a]
  .exact uo
 ·-- 3
  by_cases u:op=0
  case neg=>
   exact mM
  by_cases b:num=0
  case neg=>
   exact n9
  by_cases c:name=[]
  case pos=>
   exact SI
  simp only[go_sem,j,u,b,c];refine bJ rfl V6 ?_;rintro _ rfl;cases an:aT name
  .exact UA
  by_cases a:(z kids:Int)=1
  case neg=>
   exact Ux
  simp only[go_sem,j6,a,b5];refine bJ rfl WV ?_;rintro _ rfl
  obtain rfl:X=bg (q+1) kids:=by
   have:z kids=1:=a7;rw[<-hz];simp[bD,am,a1,this,an,b,u]
  exact hx
 ·-- 4
  by_cases u:op=0
  case neg=>
   exact mM
  by_cases b:num=0
  case neg=>
   exact n9
  by_cases c:name=[]
  case pos=>
   exact SI
  simp only[go_sem,j,u,b,c];refine bJ rfl V6 ?_;rintro _ rfl;cases an:aT name
  .exact UA
  by_cases a:(z kids:Int)<=6
  case neg=>
   obtain rfl:X=F:=by
    have:¬z kids<=6:=a7;rw[<-hz];simp[bD,this]
   simp only[go_sem,j6,a]
  simp only[go_sem,j6,a,b5];refine bJ rfl WV ?_;rintro _ rfl
  obtain rfl:X=bg (q+1) kids:=by
   have:z kids<=6:=a7;rw[<-hz];simp[bD,am,a1,this,an,b,u]
  exact hx
 ·-- 5
  by_cases u:op=0
  case neg=>
   exact mM
  by_cases b:num=0
  case neg=>
   exact n9
  by_cases c:name=[]
  case neg=>
   obtain rfl:X=F:=by rw[<-hz];simp[bD,am,c]
   simp only[go_sem,j,u,b,c]
  simp only[go_sem,j,u,b,c];by_cases a:(z kids:Int)=0
  .obtain rfl:X=T:=by
    have:kids=[]:=y7 a7;rw[<-hz,this];simp[bD,am,bg,a1,c,b,u]
   simp only[go_sem,j6,a]
  .exact uo
 ·-- 6
  by_cases b:num=0
  case neg=>
   obtain rfl:X=F:=by rw[<-hz];simp[bD,b]
   simp only[go_sem,j,b]
  by_cases c:name=[]
  case neg=>
   obtain rfl:X=F:=by rw[<-hz];simp[bD,am,c]
   simp only[go_sem,j,b,c]
  simp only[go_sem,j,b,c];by_cases i:4<=op
  case neg=>
   obtain rfl:X=F:=by rw[<-hz];simp[bD,i]
   simp only[go_sem,j6,i]
  by_cases w:op<=15
  case neg=>
   obtain rfl:X=F:=by rw[<-hz];simp[bD,w]
   simp only[go_sem,j6,i,w]
  by_cases a:(z kids:Int)=2
  case neg=>
   obtain rfl:X=F:=by
    have:¬z kids=2:=a7;rw[<-hz];simp[bD,this]
   simp only[go_sem,j6,i,w,a]
  simp only[go_sem,j6,i,w,a,b5];refine bJ rfl WV ?_;rintro _ rfl
  obtain rfl:X=bg (q+1) kids:=by
   have:z kids=2:=a7;rw[<-hz];simp[bD,am,a1,this,c,b,i,w]
  exact hx
 ·-- 7
  by_cases u:op=0
  case neg=>
   exact mM
  by_cases b:num=0
  case neg=>
   exact n9
  by_cases c:name=[]
  case neg=>
   obtain rfl:X=F:=by rw[<-hz];simp[bD,am,c]
   simp only[go_sem,j,u,b,c]
  simp only[go_sem,j,u,b,c];by_cases a:(z kids:Int)=1
  case neg=>
   exact Ux
  simp only[go_sem,j6,a,b5];refine bJ rfl WV ?_;rintro _ rfl
  obtain rfl:X=bg (q+1) kids:=by
   have:z kids=1:=a7;rw[<-hz];simp[bD,am,a1,this,c,b,u]
  exact hx
 ·-- 8
  exact wk
 ·-- 9
  exact wk
 .obtain rfl:X=F:=by rw[<-hz];simp[bD,n,o,p,t,v,P,x,y,l]
  by_cases u:op=0
  case neg=>simp only[go_sem,j,P,u]
  by_cases b:num=0
  case neg=>simp only[go_sem,j,P,u,n,b]
  by_cases c:name=[]
  case neg=>simp only[go_sem,j,P,u,n,b,o,p,t,c]
  simp only[go_sem,j,P,u,n,b,o,p,t,c,v,x,y,l]
def xG:∀(al:Nat)(l:List Ex)(q:Nat),bc l<=al->z l<=1000000000000000000->qI l->q<=25->ax Tryz.prog 161 [eb l,iv .i64 q] (·=bv (bg q l)):=by
 intro al
 induction al using Nat.strongRecOn with
 |ind al w=>
 intro l q E hl x j;refine hdP Tryz.func161 rfl [4] λg=>?_;obtain⟨X,o⟩:∃X,bg q l=X:=⟨_,rfl⟩
 rw[o];rw[Src.zY]at o;unfold eb;simp only[go_sem];refine dD (λk K=>(l.drop k).all (eW q)=X/\K.f 0=.one (.d (.sl (l.map exD)))/\K.f 1=iv .i64 q/\K.f 5=iv .i64 k) (z l) ⟨o,?_⟩ ?_
 .exact hx
 rintro k f G H hk ⟨Z,q0,p,q5⟩;simp only at q0 p q5;have y:=ac (k:=k) a7;by_cases u:k<z l
 case neg=>
  exact Uv
 have Q:(k:Int)<(z l:Int):=a7;obtain⟨e,i⟩:=getq u;obtain⟨U,A⟩:=cQ Z i;have t:=Src.Hw x i;have az:=Src.LU (l6 i);have v:=getD_at (f:=exD) i;have L:=aZ e;obtain⟨kind,op,num,name,a⟩:=e;rw[szE]at az;rw[inE]at t;have hE:=zC kind op num name a q j λh=>w (bc a) a7 a (q+1) (l7 _) t.1 t.2 a7;have I:exD (.mk kind op num name a)=[.int .i64 kind,.int .i64 op,.int .u32 num,.str name,.sl (a.map exD)]:=by simp only[exD,aK]
 unfold exV at hE;rw[I]at v hE;simp only[l9,w9]at hE;simp only[go_sem,q0,p,q5,Q,j6,v];refine bJ rfl W1 ?_;rintro _ rfl;cases V:eW q (.mk kind op num name a)
 .obtain rfl:=A V
  exact hx
 .simp only[go_sem,q5,y]
  refine bN u ⟨U V,?_⟩;simp only[go_sem,q0,p]
end
section
open Go Go.Am Go.Asm
open Go.Src (aT am cp bg eL ba Ex Stm szE bc szS aD inE qI inS pR)
attribute[local congr]ite_cc
def zD(kind:Int)(name:Str)(e:List Ex)(th el:List Stm)(q:Nat)(f:q<=25)(l:q<=24->ax Tryz.prog 161 [eb e,iv .i64 (q+1:Nat)] (·=bv (bg (q+1) e)))
 (hT:q<=24->ax Tryz.prog 62 [eS th,iv .i64 (q+1:Nat)] (·=bv (ba (q+1) th)))(n:q<=24->ax Tryz.prog 62 [eS el,iv .i64 (q+1:Nat)] (·=bv (ba (q+1) el))):
  ax Tryz.prog 95 [smV (.mk kind name e th el),iv .i64 q] (·=bv (eL q (.mk kind name e th el))):=by
 refine hdP Tryz.func95 rfl [4] λg=>?_;have w:smV (.mk kind name e th el)=.agg [.d (.int .i64 kind),.d (.str name),.d (.sl (e.map exD)),.d (.sl (th.map smD)),.d (.sl (el.map smD))]:=by simp only[smV,smD,aK,dQ,l9,w9]
 obtain⟨X,hz⟩:∃X,eL q (.mk kind name e th el)=X:=⟨_,rfl⟩
 rw[hz,w];rw[eL]at hz;by_cases j:(24:Int)<(q:Int)
 .obtain rfl:X=F:=by rw[<-hz,A4 a7,A7,A7]
  simp only[go_sem,j]
 have a1:q<=24:=a7;have a:=ac (k:=q) a7;have l:=l a1;have hT:=hT a1;have n:=n a1;unfold eb at l;unfold eS at hT n;have hk:kind=1\/kind=2\/kind=3\/kind=4\/kind=5\/kind=6\/kind=7\/(¬kind=1/\¬kind=2/\¬kind=3/\¬kind=4/\¬kind=5/\¬kind=6/\¬kind=7):=a7;rcases hk with rfl|rfl|rfl|rfl|rfl|rfl|rfl|⟨p,t,u,i,o,P,v⟩
 case' inl=>
  by_cases a6:0<(z el:Int)
  .exact ia
  have b:el=[]:=y7 a7;by_cases G:0<(z th:Int)
  .exact kn
  have J:th=[]:=y7 a7;by_cases c:name=[]
  .exact SC
  simp only[go_sem,j6,j,a6,G,c];refine bJ rfl V6 ?_;rintro _ rfl;cases an:aT name
  .exact UB
  by_cases hn:(z e:Int)=1
  case neg=>
   exact qk
  obtain rfl:X=(bg (q+1) e&&(ba (q+1) th&&ba (q+1) el)):=by
   have:z e=1:=a7;rw[<-hz];simp[cp,am,a1,this,an,b,J]
  simp only[go_sem,j6,hn,a]
 case' inr.inl=>
  by_cases a6:0<(z el:Int)
  .exact ia
  have b:el=[]:=y7 a7;by_cases G:0<(z th:Int)
  .exact kn
  have J:th=[]:=y7 a7;by_cases c:name=[]
  .exact SC
  simp only[go_sem,j6,j,a6,G,c];refine bJ rfl V6 ?_;rintro _ rfl;cases an:aT name
  .exact UB
  by_cases hn:(z e:Int)=2
  case neg=>
   obtain rfl:X=F:=by
    have:¬z e=2:=a7;rw[<-hz];simp[cp,this]
   simp only[go_sem,j6,hn]
  obtain rfl:X=(bg (q+1) e&&(ba (q+1) th&&ba (q+1) el)):=by
   have:z e=2:=a7;rw[<-hz];simp[cp,am,a1,this,an,b,J]
  simp only[go_sem,j6,hn,a]
 case' inr.inr.inl=>
  by_cases a6:0<(z el:Int)
  .exact ia
  have b:el=[]:=y7 a7;by_cases G:0<(z th:Int)
  .exact kn
  have J:th=[]:=y7 a7;by_cases c:name=[]
  case neg=>
   obtain rfl:X=F:=by rw[<-hz];simp[cp,am,c]
   simp only[go_sem,j6,j,a6,G,c]
  simp only[go_sem,j6,j,a6,G,c];by_cases hn:(z e:Int)=1
  case neg=>
   exact qk
  obtain rfl:X=(bg (q+1) e&&(ba (q+1) th&&ba (q+1) el)):=by
   have:z e=1:=a7;rw[<-hz];simp[cp,am,a1,this,c,b,J]
  simp only[go_sem,j6,hn,a]
 case' inr.inr.inr.inl=>
  by_cases c:name=[]
  case neg=>
   obtain rfl:X=F:=by rw[<-hz];simp[cp,am,c]
   simp only[go_sem,j6,j,c]
  simp only[go_sem,j6,j,c];by_cases hn:(z e:Int)=1
  case neg=>
   exact qk
  obtain rfl:X=(bg (q+1) e&&(ba (q+1) th&&ba (q+1) el)):=by
   have:z e=1:=a7;rw[<-hz];simp[cp,am,a1,this,c]
  simp only[go_sem,j6,hn,a]
 case' inr.inr.inr.inr.inl=>
  by_cases a6:0<(z el:Int)
  .exact ia
  have b:el=[]:=y7 a7;by_cases c:name=[]
  case neg=>
   obtain rfl:X=F:=by rw[<-hz];simp[cp,am,c]
   simp only[go_sem,j6,j,a6,c]
  simp only[go_sem,j6,j,a6,c];by_cases hn:(z e:Int)=1
  case neg=>
   exact qk
  obtain rfl:X=(bg (q+1) e&&(ba (q+1) th&&ba (q+1) el)):=by
   have:z e=1:=a7;rw[<-hz];simp[cp,am,a1,this,c,b]
  simp only[go_sem,j6,hn,a]
 case' inr.inr.inr.inr.inr.inl=>
  by_cases a6:0<(z el:Int)
  .exact ia
  have b:el=[]:=y7 a7;by_cases G:0<(z th:Int)
  .exact kn
  have J:th=[]:=y7 a7;by_cases c:name=[]
  .exact SC
  simp only[go_sem,j6,j,a6,G,c];refine bJ rfl V6 ?_;rintro _ rfl;cases an:aT name
  .exact UB
  by_cases hn:(z e:Int)<=6
  case neg=>
   obtain rfl:X=F:=by
    have:¬z e<=6:=a7;rw[<-hz];simp[cp,this]
   simp only[go_sem,j6,hn]
  obtain rfl:X=(bg (q+1) e&&(ba (q+1) th&&ba (q+1) el)):=by
   have:z e<=6:=a7;rw[<-hz];simp[cp,am,a1,this,an,b,J]
  simp only[go_sem,j6,hn,a]
 case' inr.inr.inr.inr.inr.inr.inl=>
  by_cases a6:0<(z el:Int)
  .exact ia
  have b:el=[]:=y7 a7;by_cases G:0<(z th:Int)
  .exact kn
  have J:th=[]:=y7 a7;by_cases c:name=[]
  case neg=>
   obtain rfl:X=F:=by rw[<-hz];simp[cp,am,c]
   simp only[go_sem,j6,j,a6,G,c]
  simp only[go_sem,j6,j,a6,G,c];by_cases hn:(z e:Int)<=1
  case neg=>
   obtain rfl:X=F:=by
    have:¬z e<=1:=a7;rw[<-hz];simp[cp,this]
   simp only[go_sem,j6,hn]
  obtain rfl:X=(bg (q+1) e&&(ba (q+1) th&&ba (q+1) el)):=by
   have:z e<=1:=a7;rw[<-hz];simp[cp,am,a1,this,c,b,J]
  simp only[go_sem,j6,hn,a]
 case inr.inr.inr.inr.inr.inr.inr=>
  obtain rfl:X=F:=by rw[<-hz];simp[cp,p,t,u,i,o,P,v]
  by_cases a6:0<(z el:Int)
  .simp only[go_sem,j,j6,i,a6]
  by_cases G:0<(z th:Int)
  .simp only[go_sem,j,j6,i,a6,o,G]
  by_cases c:name=[]
  case neg=>simp only[go_sem,j,j6,i,a6,o,G,p,t,P,c]
  simp only[go_sem,j,j6,i,a6,o,G,p,t,P,c,u,v]
 all_goals refine bJ rfl (by simp only[go_sem,a];exact l) ?_
 all_goals rintro _ rfl
 all_goals cases bg (q+1) e
 all_goals simp only[go_sem,a,A7,x6]
 all_goals refine bJ rfl (by simp only[go_sem,a];exact hT) ?_
 all_goals rintro _ rfl
 all_goals cases ba (q+1) th
 all_goals simp only[go_sem,a,A7,x6]
 all_goals refine bJ rfl (by simp only[go_sem,a];exact n) ?_
 all_goals rintro _ rfl
 all_goals simp only[go_sem,x6]
def xH:∀(al:Nat)(l:List Stm)(q:Nat),aD l<=al->z l<=1000000000000000000->pR l->q<=25->ax Tryz.prog 62 [eS l,iv .i64 q] (·=bv (ba q l)):=by
 intro al
 induction al using Nat.strongRecOn with
 |ind al u=>
 intro l q E hl x j;refine hdP Tryz.func62 rfl [4] λg=>?_;obtain⟨X,p⟩:∃X,ba q l=X:=⟨_,rfl⟩
 rw[p];rw[Src.zZ]at p;unfold eS;simp only[go_sem];refine dD (λk K=>(l.drop k).all (eL q)=X/\K.f 0=.one (.d (.sl (l.map smD)))/\K.f 1=iv .i64 q/\K.f 5=iv .i64 k) (z l) ⟨p,?_⟩ ?_
 .exact hx
 rintro k f G H hk ⟨Z,q0,t,q5⟩;simp only at q0 t q5;have y:=ac (k:=k) a7;by_cases v:k<z l
 case neg=>
  exact Uv
 have Q:(k:Int)<(z l:Int):=a7;obtain⟨s,o⟩:=getq v;obtain⟨U,A⟩:=cQ Z o;have a:=Src.Hx x o;have az:=Src.LV (l6 o);have w:=getD_at (f:=smD) o;obtain⟨kind,name,e,i,el⟩:=s;rw[szS]at az;rw[inS]at a;have hS:=zD kind name e i el q j (λh=>xG (bc e) e (q+1) (l7 _) a.1.1 a.1.2 a7) (λh=>u (aD i) a7 i (q+1) (l7 _) a.2.1.1 a.2.1.2 a7) (λh=>u (aD el) a7 el (q+1) (l7 _) a.2.2.1 a.2.2.2 a7);have I:smD (.mk kind name e i el)=[.int .i64 kind,.str name,.sl (e.map exD),.sl (i.map smD),.sl (el.map smD)]:=by simp only[smD,aK,dQ]
 unfold smV at hS;rw[I]at w hS;simp only[l9,w9]at hS;simp only[go_sem,q0,t,q5,Q,j6,w];refine bJ rfl W0 ?_;rintro _ rfl;cases V:eL q (.mk kind name e i el)
 .obtain rfl:=A V
  exact hx
 .simp only[go_sem,q5,y]
  refine bN v ⟨U V,?_⟩;simp only[go_sem,q0,t]
def HO(p:Src.Prog)(hp:Src.InP p):ax Tryz.prog 39 [bS p] (·=bv (Src.dX p)):=by
 refine hdP Tryz.func39 rfl [2] λg=>?_;obtain⟨X,o⟩:∃X,Src.dX p=X:=⟨_,rfl⟩
 rw[o];obtain⟨pv,pa,pf,B⟩:=hp;unfold Src.dX at o;rw[bK];have hn:=xF p.vars pv;unfold jh at hn;simp only[go_sem];refine bJ rfl (by simp only[go_sem];exact hn) ?_;rintro _ rfl;cases t:p.vars.all aT
 .obtain rfl:X=F:=by rw[<-o,t,D2,A7]
  exact hx
 by_cases U:(z p.funcs:Int)<1
 .obtain rfl:X=F:=by rw[<-o,A4 a7,A7,A7]
  simp only[go_sem,j6,U]
 by_cases c:64<(z p.funcs:Int)
 .obtain rfl:X=F:=by rw[<-o,A4 a7,A7,A7]
  simp only[go_sem,j6,U,c]
 rw[t,C9 a7,x6,x6]at o;obtain⟨ga,j⟩:∃y,p.arrays.all Src.ij=y:=⟨_,rfl⟩
 rw[j]at o;simp only[go_sem,j6,U,c];refine dD (λk K=>(p.arrays.drop k).all Src.ij=ga/\K.f 1=.one (.ptr 1 (K.gen 1) 0)/\K.obj 1=S [.d (.sl (p.vars.map λs=>[.str s])),.d (.sl (p.arrays.map arD)),.d (.sl (p.funcs.map fnD))]/\K.f 3=iv .i64 k) (z p.arrays) ⟨j,?_⟩ ?_
 .exact hx
 rintro k f H av hk ⟨Z,q1,o1,w⟩;simp only at q1 o1 w;have I:=ac (k:=k) a7;by_cases E:k<z p.arrays
 .have Q:(k:Int)<(z p.arrays:Int):=a7
  obtain⟨a,t⟩:=getq E;obtain⟨U,G⟩:=cQ Z t;have v:=getD_at (f:=arD) t;have A:arD a=[.str a.1,.int .i64 a.2]:=rfl;rw[A]at v;have q:Src.ij a=(aT a.1&&decide (1<=a.2)&&decide (a.2<=4096)):=rfl;have b:Src.ij a=F->X=F:=λe=>by rw[<-o,G e,A7]
  simp only[go_sem,q1,o1,w,Q,j6,v];refine bJ rfl (by simp only[go_sem];exact iY a.1) ?_;rintro _ rfl;cases an:aT a.1
  .obtain rfl:=b (by rw[q,an];rfl)
   exact hx
  by_cases l1:a.2<1
  .obtain rfl:=b (by rw[q,A4 (show ¬1<=a.2 by omega),D2,A7])
   simp only[go_sem,q1,o1,w,v,l1]
  by_cases l2:4096<a.2
  .obtain rfl:=b (by rw[q,A4 (show ¬a.2<=4096 by omega),D2])
   simp only[go_sem,q1,o1,w,v,l1,l2]
  simp only[go_sem,q1,o1,w,v,l1,l2,I];refine bN E ⟨U (by rw[q,an,C9 (show 1<=a.2 by omega),C9 (show a.2<=4096 by omega)];rfl),?_⟩;exact SW
 have Q:¬(k:Int)<(z p.arrays:Int):=a7;rw[y9 a7]at Z;rw[show ga=T from Z.symm,x6]at o;clear Z hk E j I;simp only[go_sem,q1,o1,w,Q,j6];refine dD (λk K=>(p.funcs.drop k).all Src.fp=X/\K.f 1=.one (.ptr 1 (K.gen 1) 0)/\K.obj 1=S [.d (.sl (p.vars.map λs=>[.str s])),.d (.sl (p.arrays.map arD)),.d (.sl (p.funcs.map fnD))]/\K.f 4=iv .i64 k) (z p.funcs) ⟨o,?_⟩ ?_
 .exact SW
 clear Q q1 o1 w;rintro k f H av hk ⟨Z,q1,o1,L⟩;simp only at q1 o1 L;have I:=ac (k:=k) a7;by_cases E:k<z p.funcs
 case neg=>
  have Q:¬(k:Int)<(z p.funcs:Int):=a7;rw[y9 a7]at Z;obtain rfl:X=T:=Z.symm;simp only[go_sem,q1,o1,L,Q,j6]
 have Q:(k:Int)<(z p.funcs:Int):=a7;obtain⟨fn,t⟩:=getq E;obtain⟨H,x⟩:=cQ Z t;have v:=getD_at (f:=fnD) t;have a6:fnD fn=[.str fn.name,.sl (fn.params.map λs=>[.str s]),.sl (fn.locals.map λs=>[.str s]),.bool fn.word,.sl (fn.body.map smD)]:=rfl;rw[a6]at v;obtain⟨⟨i1,u⟩,i3,r⟩:=B fn (l6 t);have bk:Src.fp fn=(aT fn.name&&decide (z fn.params<=6)&&(fn.params.all aT&&fn.locals.all aT&&ba 1 fn.body)):=rfl;rw[bk]at H x;have h:=xF fn.params i1;have l:=xF fn.locals u;have i:=xH (aD fn.body) fn.body 1 (l7 _) i3 r b9;unfold jh at h l;unfold eS at i;simp only[go_sem,q1,o1,L,Q,j6,v];refine bJ rfl (by simp only[go_sem];exact iY fn.name) ?_;rintro _ rfl;cases U:aT fn.name
 .obtain rfl:=x (by rw[U];rfl)
  exact hx
 by_cases Y:6<(z fn.params:Int)
 .obtain rfl:=x (by rw[U,A4 (show ¬z fn.params<=6 by omega)];rfl)
  simp only[go_sem,j6,Y]
 rw[U,C9 (show z fn.params<=6 by omega),x6,x6]at H x;simp only[go_sem,j6,Y];refine bJ rfl (by simp only[go_sem];exact h) ?_;rintro _ rfl;cases G:fn.params.all aT
 .obtain rfl:=x (by rw[G];rfl)
  exact hx
 simp only[go_sem];refine bJ rfl (by simp only[go_sem];exact l) ?_;rintro _ rfl;cases O:fn.locals.all aT
 .obtain rfl:=x (by rw[G,O];rfl)
  exact hx
 simp only[go_sem];refine bJ rfl (by simp only[go_sem];exact i) ?_;rintro _ rfl;cases h4:ba 1 fn.body
 .obtain rfl:=x (by rw[G,O,h4];rfl)
  exact hx
 .simp only[go_sem,L,I]
  refine bN E ⟨H (by rw[G,O,h4];rfl),?_⟩;exact SW
end
end Go.Proofs.YtlacbjnmkhndiaaGreatDoor
namespace Go.Src
section
attribute [local congr] Go.Am.ite_cc
open Go.Asm (Str)
def aL:Nat->List Str->Str->Int
 |_,[],_=>-1
 |k,x::l,s=>if x=s then(k:Int)else aL (k+1) l s
def iM:∀(l:List Str)(k:Nat)(s:Str),aL k l s = -1\/((k:Int)<=aL k l s/\aL k l s<k+z l)
 |[],_,_=>.inl rfl
 |x::l,k,s=>by
   rw[aL,j9];split
   .omega
   .have:=iM l (k+1) s;omega
def dU(l:List Str):Bool:=(List.range (z l)).all λi=>decide (aL 0 l (l.getD i [])=i)
def iB(f:Fn):List Str:=f.params++f.locals
def ea(p:Prog):List Str:=p.vars++p.arrays.map (·.1)++p.funcs.map (·.name)
def du(p:Prog)(f:Fn)(s:Str):Int×Int:=
 if 0<=aL 0 (iB f) s then(1,aL 0 (iB f) s)
 else
  let k:=aL 0 (ea p) s
  if k<0 then(0,-1)else if k<z p.vars then(2,k)else if k-z p.vars<z p.arrays then(3,k-z p.vars)else(4,k-z p.vars-z p.arrays)
end
end Go.Src
namespace Go.Proofs.YtlacbjnmkhndiaaGreatDoor
section
open Go Go.Am Go.Asm
open Go.Src (aL dU iB ea du)
attribute[local congr]ite_cc
def qM(l:List Str)(s:Str)(hl:z l<=1000000000000000000):ax Tryz.prog 29 [jh l,sv s] (·=iv .i64 (aL 0 l s)):=by
 refine hdP Tryz.func29 rfl [4] λg=>?_;obtain⟨X,o⟩:∃X,aL 0 l s=X:=⟨_,rfl⟩
 rw[o];unfold jh;simp only[go_sem];refine dD (λk K=>aL k (l.drop k) s=X/\K.f 0=.one (.d (.sl (l.map λs=>[.str s])))/\K.f 1=sv s/\K.f 5=iv .i64 k) (z l) ⟨o,?_⟩ ?_
 .exact hx
 rintro k f u v w ⟨Z,a,e,i⟩;simp only at a e i;have t:=ac (k:=k) a7;by_cases p:k<z l
 case neg=>
  have Q:¬(k:Int)<(z l:Int):=a7;rw[y9 a7,aL]at Z;subst Z;simp only[go_sem,a,i,Q,j6]
 have Q:(k:Int)<(z l:Int):=a7;obtain⟨x,I⟩:=getq p;rw[de I,aL]at Z;have r:=getD_at (f:=λs:Str=>[D.str s]) I;by_cases hn:x=s
 .rw[l8 hn]at Z
  subst Z;simp only[go_sem,a,e,i,Q,j6,r,hn]
 .rw[j8 hn]at Z
  simp only[go_sem,a,e,i,Q,j6,r,hn,t];refine bN p ⟨Z,?_⟩;simp only[go_sem,a,e]
def zE(l:List Str)(hl:z l<=1000000000000000000):ax Tryz.prog 96 [jh l] (·=bv (dU l)):=by
 refine hdP Tryz.func96 rfl [2] λg=>?_;obtain⟨X,o⟩:∃X,dU l=X:=⟨_,rfl⟩
 rw[o];unfold dU at o;have t:=λs=>qM l s hl;unfold jh at t|-;simp only[go_sem];refine dD (λk K=>((List.range (z l)).drop k).all (λi=>decide (aL 0 l (l.getD i [])=i))=X/\K.f 0=.one (.d (.sl (l.map λs=>[.str s])))/\K.f 3=iv .i64 k) (z l) ⟨o,?_⟩ ?_
 .exact hx
 rintro k f y A hk ⟨Z,q0,a⟩;simp only at q0 a;have v:=ac (k:=k) a7;by_cases p:k<z l
 case neg=>
  have Q:¬(k:Int)<(z l:Int):=a7;rw[y9 VC]at Z;obtain rfl:X=T:=Z.symm;simp only[go_sem,q0,a,Q,j6]
 have Q:(k:Int)<(z l:Int):=a7;obtain⟨x,I⟩:=getq p;obtain⟨U,u⟩:=cQ Z (x:=k) (by simp[p]);rw[show l.getD k []=x by simp[I]]at U u;have w:=getD_at (f:=λs:Str=>[D.str s]) I;simp only[go_sem,q0,a,Q,j6,w];refine bJ rfl (by simp only[go_sem];exact t x) ?_;rintro _ rfl;by_cases e:aL 0 l x=(k:Int)
 .simp only[go_sem,q0,a,e,v]
  refine bN p ⟨U (C9 e),?_⟩;exact UP
 .obtain rfl:=u (A4 e)
  simp only[go_sem,q0,a,e]
def uG(f:Src.Fn):fnV f=.agg [.d (.str f.name),.d (.sl (f.params.map λs=>[.str s])),.d (.sl (f.locals.map λs=>[.str s])),.d (.bool f.word),.d (.sl (f.body.map smD))]:=rfl
def lN(l:List Str):List.map C.d (l.map λs=>[D.str s]).flatten=l.map λw=>.d (.str w):=by
 induction l with
 |nil=>rfl
 |cons a l b=>simp only[l9,E8,B5,b];rfl
def nR(l:List Str):∀e∈(l.map λs=>[D.str s]),z e=1:=λe a=>by
 obtain⟨s,_,rfl⟩:=E3.1 a;rfl
def CP{o:cF}(f:Src.Fn)(U:z f.params<=1000000)(i:z f.locals<=1000000):bP Tryz.prog 1 o 26 [fnV f] (·=jh (iB f)):=by
 refine hdG Tryz.func26 rfl [.tmp 2] λO bn s0 w0 g=>?_;rw[uG];simp only[go_sem];refine bY aA mixed aE [3] [([],[],[0],F),([1],[0],[],F),([4],[0],[],F),([3,5],[],[0],F),([1],[0],[],F),([7],[0],[],F),([6,8],[],[0],F),([9],[],[],T)] 1 rfl c8 rfl b9 ?_;simp only[go_sem]
 (apply bF;(case hg=>first|exact x9|exact⟨_,rfl,by decide,rfl⟩);(case U=>intro b ga d a J;simp only[go_sem]at J|-;exact J))
 iterate 2 (apply aj;(case hg=>first|exact x9|exact⟨_,rfl,by decide,rfl⟩);(case U=>intro b ga d a J;simp only[go_sem]at J|-;exact J))
 (apply bF;(case hg=>exact x9);(case U=>intro b ga d a J;simp only[go_sem,lN,j6]at J|-;exact⟨nR _,⟨b9,a7⟩,J⟩))
 iterate 2 (apply aj;(case hg=>first|exact x9|exact⟨_,rfl,by decide,rfl⟩);(case U=>intro b ga d a J;simp only[go_sem]at J|-;exact J))
 (apply bF;(case hg=>exact x9);(case U=>intro b ga d a J;simp only[go_sem,lN,j6]at J|-;exact⟨a7,nR _,⟨b9,a7⟩,J⟩))
 refine bZ x9 ?_;intro a e;simp only[go_sem];refine e _ ?_;clear e a;simp only[go_sem];refine⟨_,⟨_,qA (L:=iB f) VF (by simp[upd,iB,s6]) (by simp[iB]),rfl⟩,rfl⟩
def rR(p:Src.Prog)(hv:z p.vars<=1000000)(O:z p.arrays<=1000000)(hf:z p.funcs<=1000000):ax Tryz.prog 25 [bS p] (·=jh (ea p)):=by
 refine hdP Tryz.func25 rfl [2] λg=>?_;rw[bK];simp only[go_sem,lN,j6];refine⟨nR _,⟨b9,a7⟩,?_⟩;refine dD (λk K=>∃G:List Str,G++(p.arrays.drop k).map (·.1)++p.funcs.map (·.name)=ea p/\z G=z p.vars+k/\K.f 1=.one (.ptr 1 (K.gen 1) 0)/\K.obj 1=S [.d (.sl (p.vars.map λs=>[.str s])),.d (.sl (p.arrays.map arD)),.d (.sl (p.funcs.map fnD))]/\K.f 3=.one (.osl 6 (K.gen 6) 1 0 (z G))/\K.obj 6=S (G.map λw=>.d (.str w))/\K.f 4=iv .i64 k) (z p.arrays) ⟨p.vars,rfl,rfl,?_⟩ ?_
 .exact hx
 rintro k f H I E ⟨G,l,b,e,o1,i,o,v⟩;simp only at e o1 i o v;have x:=ac (k:=k) a7;by_cases r:k<z p.arrays
 .have Q:(k:Int)<(z p.arrays:Int):=a7
  obtain⟨a,t⟩:=getq r;have u:=getD_at (f:=arD) t;have A:arD a=[.str a.1,.int .i64 a.2]:=rfl;rw[A]at u;simp only[go_sem,e,o1,i,o,v,Q,j6,u,x];refine⟨l7 _,⟨b9,a7⟩,bN r ⟨G++[a.1],?_,by simp;omega,?_⟩⟩
  .rw[<-l,de t];simp
  .simp only[go_sem,e,o1,j7,B5]
   rw[s6 a8]
 have Q:¬(k:Int)<(z p.arrays:Int):=a7;rw[y9 a7]at l;simp only[go_sem,e,o1,i,v,Q,j6];refine dD (λk K=>∃G:List Str,G++(p.funcs.drop k).map (·.name)=ea p/\z G<=2000000+k/\K.f 1=.one (.ptr 1 (K.gen 1) 0)/\K.obj 1=S [.d (.sl (p.vars.map λs=>[.str s])),.d (.sl (p.arrays.map arD)),.d (.sl (p.funcs.map fnD))]/\K.f 3=.one (.osl 6 (K.gen 6) 1 0 (z G))/\K.obj 6=S (G.map λw=>.d (.str w))/\K.f 5=iv .i64 k) (z p.funcs) ⟨G,by rw[<-l];simp,a7,?_⟩ ?_
 .simp only[go_sem,e,o1,i,o]
 clear e o1 i o v Q x r l b E G;rintro k f H I E ⟨G,l,b,e,o1,i,o,y⟩;simp only at e o1 i o y;have x:=ac (k:=k) a7;by_cases r:k<z p.funcs
 .have Q:(k:Int)<(z p.funcs:Int):=a7
  obtain⟨fn,t⟩:=getq r;have u:=getD_at (f:=fnD) t;have L:fnD fn=[.str fn.name,.sl (fn.params.map λs=>[.str s]),.sl (fn.locals.map λs=>[.str s]),.bool fn.word,.sl (fn.body.map smD)]:=rfl;rw[L]at u;simp only[go_sem,e,o1,i,o,y,Q,j6,u,x];refine⟨l7 _,⟨b9,a7⟩,bN r ⟨G++[fn.name],?_,by simp;omega,?_⟩⟩
  .rw[<-l,de t];simp
  .simp only[go_sem,e,o1,j7,B5]
   rw[s6 a8]
 have Q:¬(k:Int)<(z p.funcs:Int):=a7;rw[y9 a7,w9,s7]at l;simp only[go_sem,e,o1,i,y,Q,j6];exact⟨_,⟨_,qA rfl o rfl,rfl⟩,by rw[<-l];rfl⟩
def uH{s:St}{a b:Int}:ql s [iv .i64 a,iv .i64 b] (.tup [iv .i64 a,iv .i64 b]):=⟨_,⟨_,_,rfl,ke _,_,_,rfl,ke _,rfl⟩,rfl⟩
def HP{o:cF}(p:Src.Prog)(n:z p.vars<=1000000)(t:z p.arrays<=1000000)(hf:z p.funcs<=1000000)(i:Nat)(fn:Src.Fn)(j:p.funcs[i]?=S fn)(U:z fn.params<=1000000)(u:z fn.locals<=1000000)(s:Str):
  bP Tryz.prog 1 o 97 [bS p,iv .i64 i,sv s] (·=.tup [iv .i64 (du p fn s).1,iv .i64 (du p fn s).2]):=by
 refine hdG Tryz.func97 rfl [.tmp 6,.tmp 7] λO bn s0 w0 g=>?_;have y:=(l5.1 j).1;have h:(i:Int)<(z p.funcs:Int):=a7;have l:=getD_at (f:=fnD) j;have v:fnD fn=[.str fn.name,.sl (fn.params.map λs=>[.str s]),.sl (fn.locals.map λs=>[.str s]),.bool fn.word,.sl (fn.body.map smD)]:=rfl;rw[v]at l;have hN:=CP (o:=o) fn U u;have A:z (iB fn)<=2000000:=by simp[iB];omega
 have az:z (ea p)<=3000000:=by simp[ea];omega
 have hG:=rR p n t hf;rw[uG]at hN;rw[bK]at hG|-;simp only[go_sem,h,j6,l];refine cG rfl Wd ?_;rintro _ rfl;simp only[go_sem];refine ip rfl (by simp only[go_sem];exact qM (iB fn) s a7) ?_;rintro _ rfl;unfold du;obtain⟨k,hk⟩:∃k,aL 0 (iB fn) s=k:=⟨_,rfl⟩
 rw[hk];by_cases d:0<=k
 .simp only[go_sem,d]
  exact⟨_,uH,rfl⟩
 rw[j8 d];simp only[go_sem,d];refine ip rfl Xq ?_;rintro _ rfl;simp only[go_sem];refine ip rfl (by simp only[go_sem];exact qM (ea p) s a7) ?_;rintro _ rfl;have x:=Src.iM (ea p) 0 s;obtain⟨k,hk⟩:∃k,aL 0 (ea p) s=k:=⟨_,rfl⟩
 rw[hk]at x|-;by_cases hn:k<0
 .simp only[go_sem,hn]
  exact⟨_,uH,rfl⟩
 by_cases a:k<(z p.vars:Int)
 .simp only[go_sem,hn,a,j6]
  exact⟨_,uH,rfl⟩
 have e:IntKind.i64.wrap (k-(z p.vars:Int))=k-z p.vars:=wrap_i64 _ a7 a7;by_cases b:k-(z p.vars:Int)<(z p.arrays:Int)
 .simp only[go_sem,hn,a,j6,e,b]
  exact⟨_,uH,rfl⟩
 have w:IntKind.i64.wrap (k-(z p.vars:Int)-(z p.arrays:Int))=k-z p.vars-z p.arrays:=wrap_i64 _ a7 a7;simp only[go_sem,hn,a,j6,e,b];refine aF c8 ?_;simp only[go_sem,e,w,j6];exact⟨_,uH,by rw[j8 hn,j8 a,j8 b]⟩
end
end Go.Proofs.YtlacbjnmkhndiaaGreatDoor
namespace Go.Src
section
attribute [local congr] Go.Am.ite_cc
open Go.Asm (Str)
abbrev Us:=Str×Int×Int
def us1(kind:Int)(name:Str)(n:Nat):List Us:=if kind=2 then [(name,1,0)]else if kind=3 then [(name,3,0)]else if kind=4 then [(name,4,(n:Int))]else []
mutual
def usE:Ex->List Us
 |.mk kind _ _ name kids=>us1 kind name (z kids)++ll kids
def ll:List Ex->List Us
 |[]=>[]
 |e::l=>usE e++ll l
end
def us2(kind:Int)(name:Str)(n:Nat):List Us:=if kind=1 then [(name,1,0)]else if kind=2 then [(name,3,0)]else if kind=6 then [(name,4,(n:Int))]else []
mutual
def usS:Stm->List Us
 |.mk kind name e a el=>us2 kind name (z e)++ll e++gU a++gU el
def gU:List Stm->List Us
 |[]=>[]
 |e::l=>usS e++gU l
end
mutual
theorem Lh:∀e:Ex,z (usE e)<=szE e
 |.mk kind _ _ name kids=>by
   have h:=uI kids;rw[usE,szE,j7];have:(us1 kind name (z kids)).length<=1:=by unfold us1;(repeat' split)<;>simp
   omega
theorem uI:∀l:List Ex,z (ll l)<=bc l
 |[]=>by simp[ll]
 |e::l=>by
   have:=Lh e;have:=uI l;rw[ll,bc,j7];omega
end
mutual
theorem Li:∀e:Stm,z (usS e)<=szS e
 |.mk kind name e a el=>by
   have:=uI e;have:=uJ a;have:=uJ el;rw[usS,szS];simp only[j7];have:(us2 kind name (z e)).length<=1:=by unfold us2;(repeat' split)<;>simp
   omega
theorem uJ:∀l:List Stm,z (gU l)<=aD l
 |[]=>by simp[gU]
 |e::l=>by
   have:=Li e;have:=uJ l;rw[gU,aD,j7];omega
end
end
end Go.Src
namespace Go.Proofs.YtlacbjnmkhndiaaGreatDoor
section
open Go Go.Am Go.Asm
open Go.Src (Ex Stm Us us1 us2 usE ll usS gU szE bc szS aD)
attribute[local congr]ite_cc
def usD(u:Us):List D:=[.str u.1,.int .i64 u.2.1,.int .i64 u.2.2]
def qN(l:List Us):AV:=.one (.d (.sl (l.map usD)))
def usC(l:List Us):List C:=l.flatMap λu=>(usD u).map .d
def oS(l:List Us):z (usC l)=z l*3:=by
 induction l with
 |nil=>rfl
 |cons a l b=>simp only[usC,G2,j7]at b|-;rw[b];simp[usD];omega
def CQ(a b:List Us):usC (a++b)=usC a++usC b:=by simp[usC]
def td(l:List Us):List.map C.d (l.map usD).flatten=usC l:=by
 induction l with
 |nil=>rfl
 |cons a l b=>simp only[l9,E8,B5,b];rfl
def qO(l:List Us):∀e∈l.map usD,z e=3:=λe a=>by
 obtain⟨s,_,rfl⟩:=E3.1 a;rfl
def HQ{s:St}{id g:Nat}{l:List Us}(hg:s.gen id=g)(ho:s.obj id=S (usC l)):kR s (.one (.osl id g 3 0 (z l))) (qN l):=
 ⟨_,dN hg l usD ho rfl (λa _ x I=>by simp only[usD,A3,A9,E6]at I;rcases I with rfl|rfl|rfl<;>rfl) (λ_ _=>rfl) rfl,rfl⟩
def Lj{o:cF}:∀(al:Nat)(l:List Ex),bc l<=al->al<=1000000->bP Tryz.prog 1 o 51 [eb l] (·=qN (ll l)):=by
 intro al
 induction al using Nat.strongRecOn with
 |ind al ih=>
 intro l hN i;refine hdG Tryz.func51 rfl [.tmp 2] λO bn s0 w0 g=>?_;have bl:=Src.IF l;have Y:=Src.uI l;unfold eb;simp only[go_sem];refine Hv _ (oe (t:=3) (id:=100) (sz:=3) Vy) (λk K=>∃G:List Us,G++ll (l.drop k)=ll l/\K.f 0=.one (.d (.sl (l.map exD)))/\K.f 3=.one (.osl 100 (K.gen 100) 3 0 (z G))/\K.obj 100=S (usC G)/\K.f 4=iv .i64 k) (z l) ⟨[],rfl,?_⟩ ?_
 .simp only[St.grab]
  simp only[go_sem];rfl
 rintro k f g1 av hk ⟨G,A,w,y,oi,x⟩;simp only at w y oi x;have hw:=ac (k:=k) a7;by_cases X:k<z l
 case neg=>
  have Q:¬(k:Int)<(z l:Int):=a7;rw[y9 a7,ll,s7]at A;rw[<-A];simp only[go_sem,w,y,x,Q,j6];exact⟨_,HQ rfl oi,rfl⟩
 have Q:(k:Int)<(z l:Int):=a7;obtain⟨e,W⟩:=getq X;have az:=Src.LU (l6 W);have hg:=getD_at (f:=exD) W;obtain⟨kind,op,num,name,v⟩:=e;rw[de W,ll,usE]at A;rw[szE]at az;have I:exD (.mk kind op num name v)=[.int .i64 kind,.int .i64 op,.int .u32 num,.str name,.sl (v.map exD)]:=by simp only[exD,aK]
 rw[I]at hg;have J:=ih (bc v) a7 v (l7 _) a7;have a:=Src.uI v;unfold eb at J
 have b:z G+z (ll v)+1<=1000001:=by
  have:=congrArg z A;simp only[j7]at this;omega
 obtain⟨u,L⟩:∃u,us1 kind name (z v)=u:=⟨_,rfl⟩
 rw[L]at A;unfold us1 at L;have hC:=oS G;by_cases B:kind=2
 case' pos=>
  rw[l8 B]at L;simp only[go_sem,w,y,oi,x,Q,j6,hg,B];refine⟨a7,⟨b9,a7⟩,?_⟩
 case' neg=>
  rw[j8 B]at L;by_cases E:kind=3
  case' pos=>
   rw[l8 E]at L;simp only[go_sem,w,y,oi,x,Q,j6,hg,E];refine⟨a7,⟨b9,a7⟩,?_⟩
  case' neg=>
   rw[j8 E]at L;by_cases H:kind=4
   case' pos=>
    rw[l8 H]at L;simp only[go_sem,w,y,oi,x,Q,j6,hg,H];refine bY aA mixed aE [53,100] [([3],[0],[],F),([0],[],[],F),([4],[],[],F),([41,42],[],[],F),([43],[],[],F),([44],[],[],F),([0],[],[],F),([4],[],[],F),([46,47],[],[],F),([48],[],[],F),([49],[],[],F),([50],[],[],F),([45,51],[],[],F),([52],[],[0],F),([40,53],[],[1],F),([54],[],[],T)] 2 rfl c8 rfl b9 ?_;simp only[go_sem]
    iterate 13 (apply aj;(case hg=>first|exact x9|exact⟨_,rfl,by decide,rfl⟩);(case U=>intro Z ga oa V J;simp only[go_sem,w,y,x,Q,hg,j6]at J|-;exact J))
    (apply bF;(case hg=>first|exact x9|exact⟨_,rfl,by decide,rfl⟩);(case U=>intro Z ga oa V J;simp only[go_sem]at J|-;exact J))
    (apply bF;(case hg=>exact x9);(case U=>intro Z ga oa V J;simp only[go_sem,oi]at J|-;exact⟨a7,⟨b9,a7⟩,J⟩))
    refine bZ x9 ?_;intro V a';simp only[go_sem];refine a' _ ?_;clear a' V;simp only[go_sem,w,x,hg]
   case' neg=>
    rw[j8 H]at L;simp only[go_sem,w,y,oi,x,Q,j6,hg,B,E,H]
 all_goals refine cG rfl (by simp only[go_sem];exact J) ?_
 all_goals rintro _ rfl
 all_goals unfold qN
 all_goals simp only[go_sem,td,j6,y,oi,x,hw]
 all_goals refine⟨by simp only[j7,D1,hC,j9,l4];omega,qO _,⟨b9,a7⟩,bN X ⟨G++u++ll v,by rw[<-A];simp only[u7],?_⟩⟩
 all_goals subst L
 all_goals simp only[go_sem,w,j7,CQ,s6,hC,l7]
 all_goals rw[s6 (by simp only[j7,hC,j9,l4];omega)];rfl
def HR{o:cF}:∀(al:Nat)(l:List Stm),aD l<=al->al<=1000000->bP Tryz.prog 1 o 27 [eS l] (·=qN (gU l)):=by
 intro al
 induction al using Nat.strongRecOn with
 |ind al W=>
 intro l hN i;refine hdG Tryz.func27 rfl [.tmp 2] λO bn s0 w0 g=>?_;have bl:=Src.IG l;have Y:=Src.uJ l;unfold eS;simp only[go_sem];refine Hv _ (oe (t:=3) (id:=100) (sz:=3) Vy) (λk K=>∃G:List Us,G++gU (l.drop k)=gU l/\K.f 0=.one (.d (.sl (l.map smD)))/\K.f 3=.one (.osl 100 (K.gen 100) 3 0 (z G))/\K.obj 100=S (usC G)/\K.f 4=iv .i64 k) (z l) ⟨[],rfl,?_⟩ ?_
 .simp only[St.grab]
  simp only[go_sem];rfl
 rintro k f g1 av hk ⟨G,x,a,w,oi,v⟩;simp only at a w oi v;have hw:=ac (k:=k) a7;by_cases X:k<z l
 case neg=>
  have Q:¬(k:Int)<(z l:Int):=a7;rw[y9 a7,gU,s7]at x;rw[<-x];simp only[go_sem,a,w,v,Q,j6];exact⟨_,HQ rfl oi,rfl⟩
 have Q:(k:Int)<(z l:Int):=a7;obtain⟨e,V⟩:=getq X;have az:=Src.LV (l6 V);have hg:=getD_at (f:=smD) V;obtain⟨kind,name,e,y,el⟩:=e;rw[de V,gU,usS]at x;rw[szS]at az;have I:smD (.mk kind name e y el)=[.int .i64 kind,.str name,.sl (e.map exD),.sl (y.map smD),.sl (el.map smD)]:=by simp only[smD,aK,dQ]
 rw[I]at hg;have hE:=Lj (o:=o) (bc e) e (l7 _) a7;have hT:=W (aD y) a7 y (l7 _) a7;have hL:=W (aD el) a7 el (l7 _) a7;unfold eb at hE;unfold eS at hT hL
 have b:z G+z (ll e)+z (gU y)+z (gU el)+1<=1000001:=by
  have:=congrArg z x;simp only[j7]at this;omega
 obtain⟨u,L⟩:∃u,us2 kind name (z e)=u:=⟨_,rfl⟩
 rw[L]at x;unfold us2 at L;have hC:=oS G;by_cases A:kind=1
 case' pos=>
  rw[l8 A]at L;simp only[go_sem,a,w,oi,v,Q,j6,hg,A];refine⟨a7,⟨b9,a7⟩,?_⟩
 case' neg=>
  rw[j8 A]at L;by_cases B:kind=2
  case' pos=>
   rw[l8 B]at L;simp only[go_sem,a,w,oi,v,Q,j6,hg,B];refine⟨a7,⟨b9,a7⟩,?_⟩
  case' neg=>
   rw[j8 B]at L;by_cases E:kind=6
   case' pos=>
    rw[l8 E]at L;simp only[go_sem,a,w,oi,v,Q,j6,hg,E];refine bY aA mixed aE [53,100] [([3],[0],[],F),([0],[],[],F),([4],[],[],F),([41,42],[],[],F),([43],[],[],F),([44],[],[],F),([0],[],[],F),([4],[],[],F),([46,47],[],[],F),([48],[],[],F),([49],[],[],F),([50],[],[],F),([45,51],[],[],F),([52],[],[0],F),([40,53],[],[1],F),([54],[],[],T)] 2 rfl c8 rfl b9 ?_;simp only[go_sem]
    iterate 13 (apply aj;(case hg=>first|exact x9|exact⟨_,rfl,by decide,rfl⟩);(case U=>intro Z ga oa H J;simp only[go_sem,a,w,v,Q,hg,j6]at J|-;exact J))
    (apply bF;(case hg=>first|exact x9|exact⟨_,rfl,by decide,rfl⟩);(case U=>intro Z ga oa H J;simp only[go_sem]at J|-;exact J))
    (apply bF;(case hg=>exact x9);(case U=>intro Z ga oa H J;simp only[go_sem,oi]at J|-;exact⟨a7,⟨b9,a7⟩,J⟩))
    refine bZ x9 ?_;intro H a';simp only[go_sem];refine a' _ ?_;clear a' H;simp only[go_sem,a,v,hg]
   case' neg=>
    rw[j8 E]at L;simp only[go_sem,a,w,oi,v,Q,j6,hg,A,B,E]
 all_goals refine cG rfl W1 ?_
 all_goals rintro _ rfl
 all_goals unfold qN
 all_goals simp only[go_sem,td,j6,a,w,oi,v,hg]
 all_goals refine⟨by simp only[j7,D1,oS,j9,l4];omega,qO _,⟨b9,a7⟩,?_⟩
 all_goals try simp only[go_sem,a,v,hg]
 all_goals refine cG rfl VT ?_
 all_goals rintro _ rfl
 all_goals unfold qN
 all_goals simp only[go_sem,td,j6,a,v,hg]
 all_goals refine⟨by simp only[j7,D1,oS,j9,l4];omega,qO _,⟨b9,a7⟩,?_⟩
 all_goals try simp only[go_sem,a,v,hg]
 all_goals refine cG rfl VU ?_
 all_goals rintro _ rfl
 all_goals unfold qN
 all_goals simp only[go_sem,td,j6,a,v,hw]
 all_goals refine⟨by simp only[j7,D1,oS,j9,l4];omega,qO _,⟨b9,a7⟩,bN X ⟨G++u++ll e++gU y++gU el,by rw[<-x];simp only[u7],?_⟩⟩
 all_goals subst L
 all_goals simp only[go_sem,a,j7,CQ]
 all_goals (repeat rw[s6 (by simp only[j7,D1,oS,j9,l4];omega)])
 all_goals rfl
end
end Go.Proofs.YtlacbjnmkhndiaaGreatDoor
namespace Go.Src
section
open Go.Asm (Str)
def pX:∀(a b:List Str)(k:Nat)(s:Str),aL k (a++b) s=if aL k a s<0 then aL (k+z a) b s else aL k a s
 |[],b,k,s=>by simp[aL]
 |x::a,b,k,s=>by
   rw[C3,aL,aL];by_cases h:x=s
   .rw[l8 h,l8 h,j8 a7]
   .rw[j8 h,j8 h,pX a b,j9,show k+1+z a=k+(z a+1) by omega]
def thG(c:Nat):Nat->List Str->List Th
 |_,[]=>[]
 |k,x::l=>(x,c,k)::thG c (k+1) l
def CR(c:Nat):∀(a b:List Str)(k:Nat),thG c k (a++b)=thG c k a++thG c (k+z a) b
 |[],b,k=>by simp[thG]
 |x::a,b,k=>by simp only[C3,thG,CR c a b,j9];rw[show k+1+z a=k+(z a+1) by omega]
def ju{A:Type}(c:Nat)(g:A->Str):∀(l:List A)(k:Nat),l.mapIdx (λi x=>(g x,c,k+i))=thG c k (l.map g)
 |[],k=>rfl
 |x::l,k=>by
   rw[Mm,l9,thG,<-ju c g l (k+1)];simp only[J6];congr 2;funext i y;rw[show k+(i+1)=k+1+i by omega]
def jI(c:Nat)(s:Str):∀(l:List Str)(k:Nat),aG (thG c k l) s=if aL k l s<0 then N else S (c,(aL k l s).toNat)
 |[],k=>rfl
 |x::l,k=>by
   rw[thG,aG,aL];by_cases h:x=s
   .rw[l8 h,l8 h,j8 a7];rfl
   .rw[j8 h,j8 h,jI c s l (k+1)]
def uK(f:Fn):aV f=thG 1 0 (iB f):=by
 unfold aV thL iB;rw[CR];have U:=ju 1 (λn:Str=>n) f.params 0;have a:=ju 1 (λn:Str=>n) f.locals (z f.params);rw[List.map_id']at U a;rw[U,a,C7]
def uL(p:Prog):aO p=thG 2 0 p.vars++thG 3 0 (p.arrays.map (·.1))++thG 4 0 (p.funcs.map (·.name)):=by
 unfold aO thV thA thF;have U:=ju 2 (λn:Str=>n) p.vars 0;rw[List.map_id']at U;have b:=ju 3 (λa:Str×Int=>a.1) p.arrays 0;have c:=ju 4 (λf:Fn=>f.name) p.funcs 0;simp only[C7]at U b c;rw[U,b,c]
def kh:∀(l:List Str)(k:Nat)(s:Str),aL k l s=if aL 0 l s<0 then -1 else aL 0 l s+k
 |[],_,_=>rfl
 |x::l,k,s=>by
   rw[aL,aL];by_cases h:x=s
   .rw[l8 h,l8 h,j8 a7];omega
   .rw[j8 h,j8 h,kh l (k+1),kh l (0+1)]
    have:=iM l 0 s;split
    .rfl
    .rw[j8 a7];omega
def zF(p:Prog)(f:Fn)(s:Str):du p f s=match aQ (aO p) (aV f) s with|some x=>((x.1:Int),(x.2:Int))|none=>(0,-1):=by
 unfold du aQ;rw[uK,jI,uL,lf,lf,jI,jI,jI];have j:=iM (iB f) 0 s;by_cases h:aL 0 (iB f) s<0
 case neg=>
  rw[l8 a7,j8 h];simp only;rw[I2 a7];rfl
 rw[j8 a7,l8 h];simp only;have i:=iM p.vars 0 s;have g:=iM (p.arrays.map (·.1)) 0 s;have g4:=iM (p.funcs.map (·.name)) 0 s;rw[j6]at g g4
 have J:aL 0 (ea p) s=if aL 0 p.vars s<0 then(if aL 0 (p.arrays.map (·.1)) s<0 then(if aL 0 (p.funcs.map (·.name)) s<0 then -1 else aL 0 (p.funcs.map (·.name)) s+((z p.vars+z p.arrays:Nat):Int))else aL 0 (p.arrays.map (·.1)) s+z p.vars)else aL 0 p.vars s:=by
  unfold ea;rw[pX,pX,C7,C7,kh _ (z p.vars),kh _ (z (p.vars++p.arrays.map (·.1))),j7,j6]
  (repeat' split)<;>omega
 rw[J];generalize aL 0 p.vars s=a at i|-;generalize aL 0 (p.arrays.map (·.1)) s=b at g|-;generalize aL 0 (p.funcs.map (·.name)) s=c at g4|-;by_cases d:a<0
 case neg=>
  rw[j8 d,j8 d,j8 d,l8 a7];simp only;rw[I2 a7];rfl
 rw[l8 d,l8 d];simp only;by_cases e:b<0
 case neg=>
  rw[j8 e,j8 e,j8 a7,j8 a7,l8 a7];simp only;rw[I2 a7,show b+(z p.vars:Int)-z p.vars=b by omega];rfl
 rw[l8 e,l8 e];simp only;by_cases Z:c<0
 case neg=>
  rw[j8 Z,j8 Z,j8 a7,j8 a7,j8 a7];simp only;rw[I2 a7,show c+((z p.vars+z p.arrays:Nat):Int)-z p.vars-z p.arrays=c by omega];rfl
 rw[l8 Z,l8 Z];rfl
def CS{l:List Str}{i:Nat}(h:i<z l):l.getD i []=l[i]:=by simp[List.getD,h]
def sA:∀(l:List Str)(k:Nat),(∀i,i<z l->aL k l (l.getD i [])=((k+i:Nat):Int))↔l.Nodup
 |[],k=>by simp
 |x::l,k=>by
   rw[N7,<-sA l (k+1)];constructor
   .intro h
    have I:∀i,i<z l->x≠l.getD i []/\aL (k+1) l (l.getD i [])=((k+1+i:Nat):Int):=λi a=>by
     have:=h (i+1) VC;rw[Qc,aL]at this;split at this
     .omega
     .rename_i bz;exact⟨bz,by rw[this];congr 1;omega⟩
    refine⟨λb=>?_,λi a=>(I i a).2⟩;obtain⟨i,a,e⟩:=List.getElem_of_mem b;exact(I i a).1 (by rw[CS a,e])
   .rintro⟨b,h⟩ i a
    cases i with
    |zero=>rw[List.getD_cons_zero,aL,l8 rfl];rfl
    |succ i=>
      have a:i<z l:=by simpa using a
      rw[Qc,aL,j8 (λe=>b (by rw[e,CS a];exact I8 a)),h i a];congr 1;omega
def sB(l:List Str):dU l=T↔l.Nodup:=by
 rw[<-sA l 0];unfold dU;simp only[y8,D5,B4,C7]
def xI{l:List Th}{s:Str}:(aG l s).isNone=T↔s∉l.map (·.1):=by
 induction l with
 |nil=>simp[aG]
 |cons t l a=>
   rw[aG];by_cases h:t.1=s
   .simp[h]
   .rw[j8 h,a]
    simp only[l9,A3,R7];exact⟨λx=>⟨B8 h,x⟩,λx=>x.2⟩
def nS:∀(l a:List Th),bR a l=T↔(∀t∈l,t.1∉a.map (·.1))/\(l.map (·.1)).Nodup
 |[],a=>by simp[bR]
 |t::l,a=>by
   rw[bR,s5,xI,nS l];simp only[B5,l9,w9,C4,E0,List.forall_mem_cons,N7,R7];constructor
   .rintro⟨U,b,c⟩
    exact⟨⟨U,λx I=>(b x I).1⟩,λd=>by obtain⟨y,f,e⟩:=E3.1 d;exact(b y f).2 e,c⟩
   .rintro⟨⟨U,b⟩,c,g⟩
    exact⟨U,λx I=>⟨b x I,λe=>c (by rw[<-e];exact List.mem_map_of_mem I)⟩,g⟩
def qP(c:Nat):∀(l:List Str)(k:Nat),(thG c k l).map (·.1)=l
 |[],_=>rfl
 |x::l,k=>by rw[thG,l9,qP c l]
def Bu(f:Fn):bR [] (aV f)=dU (iB f):=by
 rw[N5,nS,sB,uK,qP];simp
def Bv(p:Prog):bR [] (aO p)=dU (ea p):=by
 rw[N5,nS,sB,uL,B5,B5,qP,qP,qP];simp[ea]
def asK(a:Int):Nat:=if a=1 then 2 else a.toNat
def vU(u:Nat->Str->Nat->Bool)(x:Us):Bool:=u (asK x.2.1) x.1 x.2.2.toNat
def Lk(u:Nat->Str->Nat->Bool)(kind:Int)(name:Str)(n:Nat):(us1 kind name n).all (vU u)=if kind=2 then u 2 name 0 else if kind=3 then u 3 name 0 else if kind=4 then u 4 name n else T:=by
 unfold us1
 (repeat' split)<;>simp[vU,asK]
def Ll(u:Nat->Str->Nat->Bool)(kind:Int)(name:Str)(n:Nat):(us2 kind name n).all (vU u)=if kind=1 then u 2 name 0 else if kind=2 then u 3 name 0 else if kind=6 then u 4 name n else T:=by
 unfold us2
 (repeat' split)<;>simp[vU,asK]
mutual
theorem Pd(u:Nat->Str->Nat->Bool):∀e:Ex,okE u e=(usE e).all (vU u)
 |.mk kind _ _ name kids=>by rw[okE,usE,H5,Lk,xJ u kids]
theorem xJ(u:Nat->Str->Nat->Bool):∀l:List Ex,df u l=(ll l).all (vU u)
 |[]=>rfl
 |e::l=>by rw[df,ll,H5,Pd u e,xJ u l]
end
mutual
theorem Pe(u:Nat->Str->Nat->Bool):∀e:Stm,okS u e=(usS e).all (vU u)
 |.mk kind name e a el=>by rw[okS,usS,H5,H5,H5,Ll,xJ u e,qQ u a,qQ u el]
theorem qQ(u:Nat->Str->Nat->Bool):∀l:List Stm,dy u l=(gU l).all (vU u)
 |[]=>rfl
 |e::l=>by rw[dy,gU,H5,Pe u e,qQ u l]
end
end
section
attribute [local congr] Go.Am.ite_cc
open Go.Asm (Str)
def uE(p:Prog)(i:Nat)(f:Fn)(x:Us):Bool:=
 !(decide (x.2.1=1/\(du p f x.1).1≠1/\(du p f x.1).1≠2)||decide (x.2.1=3/\(du p f x.1).1≠3)||decide (x.2.1=4/\((du p f x.1).1≠4\/(i:Int)<=(du p f x.1).2)))
def fT(p:Prog)(i:Nat)(f:Fn):Bool:=dU (iB f)&&(gU f.body).all (uE p i f)
def rQ(p:Prog)(f:Fn)(x:Us):Bool:=if x.2.1=4 then(match p.funcs[(du p f x.1).2.toNat]? with|some g=>decide ((z g.params:Int)=x.2.2)|none=>T)else T
def vy(x:Us):Prop:=(x.2.1=1\/x.2.1=3\/x.2.1=4)/\0<=x.2.2
def OW(kind:Int)(name:Str)(n:Nat):∀x∈us1 kind name n,vy x:=by
 unfold us1
 (repeat' split)<;>simp[vy]
def OX(kind:Int)(name:Str)(n:Nat):∀x∈us2 kind name n,vy x:=by
 unfold us2
 (repeat' split)<;>simp[vy]
mutual
theorem OY:∀(e:Ex),∀x∈usE e,vy x
 |.mk kind _ _ name kids=>by rw[usE];exact I9.2 ⟨OW _ _ _,xy kids⟩
theorem xy:∀(l:List Ex),∀x∈ll l,vy x
 |[]=>λ_ h=>by rw[ll]at h;cases h
 |e::l=>by rw[ll];exact I9.2 ⟨OY e,xy l⟩
end
mutual
theorem OZ:∀(e:Stm),∀x∈usS e,vy x
 |.mk kind name e a el=>by rw[usS];exact I9.2 ⟨I9.2 ⟨I9.2 ⟨OX _ _ _,xy e⟩,qJ a⟩,qJ el⟩
theorem qJ:∀(l:List Stm),∀x∈gU l,vy x
 |[]=>λ_ h=>by rw[gU]at h;cases h
 |e::l=>by rw[gU];exact I9.2 ⟨OZ e,qJ l⟩
end
def pU{A:Type}{p q:A->Bool}:∀{l:List A},(∀x∈l,p x=q x)->l.all p=l.all q
 |[],_=>rfl
 |a::l,h=>by rw[E9,E9,h a a8,pU λx I=>h x We]
def KY(p:Prog)(i:Nat)(f:Fn)(x:Us)(h:vy x):uE p i f x=vU (λk n _=>bj (aQ (aO p) (aV f)) i k n) x:=by
 unfold uE vU bj;simp only;rw[zF];generalize aQ (aO p) (aV f) x.1=r;cases r with
 |none=>rcases h.1 with e|e|e<;>simp[e]
 |some y=>
   obtain⟨a,b⟩:=y;simp only;have U:((a:Int)=1↔a=1)/\((a:Int)=2↔a=2)/\((a:Int)=3↔a=3)/\((a:Int)=4↔a=4)/\((i:Int)<=(b:Int)↔¬b<i):=a7;simp only[ne_eq,U];rcases h.1 with e|e|e<;>rw[e]<;>by_cases c:a=1<;>by_cases d:a=2<;>by_cases E:a=3<;>by_cases g:a=4<;>by_cases j:b<i<;>simp[asK,c,d,E,g,j]<;>omega
def Es(p:Prog)(i:Nat)(f:Fn):fT p i f=jw p i f:=by
 unfold fT jw;rw[Bu,qQ,pU λx I=>KY p i f x (qJ _ x I)]
def KZ(p:Prog)(i:Nat)(f:Fn)(x:Us)(h:vy x)(b:uE p i f x=T):rQ p f x=vU (λk n a=>eP (aQ (aO p) (aV f)) p.funcs i k n a) x:=by
 unfold uE at b;unfold rQ vU eP;simp only;rw[zF]at b|-;generalize aQ (aO p) (aV f) x.1=r at b|-;cases r with
 |none=>rcases h.1 with e|e|e<;>simp[e]at b|-
 |some y=>
   simp only at b|-;rcases h.1 with e|e|e
   .simp[e,asK]
   .simp[e,asK]
   .have U:y.1=4/\y.2<i:=by
     rw[e]at b;simp at b;omega
    have c:=h.2;rw[l8 e,l8 ⟨by rw[e];rfl,U.1,U.2⟩];simp only[B3];cases p.funcs[y.2]? with
    |none=>rfl
    |some g=>simp only;rw[N5,B4,I3];omega
def HD(p:Prog):Nat:=
 if (dU (ea p) && bp (fT p) 0 p.funcs)=F then 4
 else match p.funcs.getLast? with
  |none=>0
  |some f=>if (p.funcs.all λf=>(gU f.body).all (rQ p f))=T/\f.name=Np/\f.params=[]/\f.word=F then 0 else 1
def my{A:Type}{c d:Nat->A->Bool}:∀(l:List A)(i:Nat),(∀k x,l[k]?=S x->c (i+k) x=d (i+k) x)->bp c i l=bp d i l
 |[],_,_=>rfl
 |a::l,i,h=>by
   have b:=my (c:=c) (d:=d) l (i+1) λk x I=>by
    have:=h (k+1) x Wk
    rwa [show i+(k+1)=i+1+k by omega]at this
   rw[bp,bp,show c i a=d i a from h 0 a rfl,b]
def wv{A:Type}{c:Nat->A->Bool}:∀{l:List A}{i k:Nat}{x:A},bp c i l=T->l[k]?=S x->c (i+k) x=T
 |a::l,i,0,x,h,I=>by cases I;rw[bp,s5]at h;exact h.1
 |a::l,i,k+1,x,h,I=>by
   rw[bp,s5]at h;rw[show i+(k+1)=i+1+k by omega];exact wv h.2 Wk
def qK{A:Type}{c:A->Bool}:∀(l:List A)(i:Nat),bp (λ_=>c) i l=l.all c
 |[],_=>rfl
 |a::l,i=>by rw[bp,E9,qK l]
def QA(p:Prog):HD p=iZ p:=by
 unfold HD iZ;rw[Bv,show bp (jw p) 0 p.funcs=bp (fT p) 0 p.funcs from my _ _ λk x _=>(Es p _ x).symm];by_cases a:(dU (ea p)&&bp (fT p) 0 p.funcs)=F
 .rw[l8 a,l8 a]
 rw[j8 a,j8 a]
 have a:bp (fT p) 0 p.funcs=T:=by
  have:(dU (ea p)&&bp (fT p) 0 p.funcs)=T:=by simpa using a
  exact(s5 _ _▸this).2
 have e:(p.funcs.all λf=>(gU f.body).all (rQ p f))=bp (xN p) 0 p.funcs:=by
  rw[<-qK _ 0];refine my _ _ λk x I=>?_;unfold xN;rw[qQ];have b:=wv a I;unfold fT at b;rw[s5,y8]at b;exact pU λy c=>KZ p (0+k) x y (qJ _ y c) (b.2 y c)
 rw[e];cases p.funcs.getLast?<;>rfl
end
end Go.Src
namespace Go.Proofs.YtlacbjnmkhndiaaGreatDoor
section
open Go Go.Am Go.Asm
open Go.Src (aL dU iB ea du Us gU uE rQ fT bp aD)
attribute[local congr]ite_cc
section
structure Sm (p:Src.Prog):Prop where
 v:p.vars.length<=100000
 a:p.arrays.length<=100000
 f:p.funcs.length<=100000
 fs:∀f∈p.funcs,(f.params.length<=100000/\f.locals.length<=100000)/\aD f.body<=100000
variable{o:cF}
def La(p:Src.Prog)(hp:Sm p):bP Tryz.prog 1 o 63 [bS p] (·=bv (dU (ea p)&&bp (fT p) 0 p.funcs)):=by
 refine hdG Tryz.func63 rfl [.tmp 2] λO bn s0 w0 g=>?_;obtain⟨X,hz⟩:∃X,(dU (ea p)&&bp (fT p) 0 p.funcs)=X:=⟨_,rfl⟩
 rw[hz];obtain⟨pv,pa,pf,B⟩:=hp;have hG:=rR p a7 a7 a7;have hF:=λi fn hi s=>HP (o:=o) p a7 a7 a7 i fn hi (by have:=(B fn (l6 hi)).1.1;omega) (by have:=(B fn (l6 hi)).1.2;omega) s;have az:z (ea p)<=300000:=by simp[ea];omega
 rw[bK]at hG hF|-;simp only[go_sem];refine ip rfl Xq ?_;rintro _ rfl;simp only[go_sem];refine ip rfl (by simp only[go_sem];exact zE (ea p) a7) ?_;rintro _ rfl;cases hu:dU (ea p)
 .obtain rfl:X=F:=by rw[<-hz,hu];rfl
  exact hx
 rw[hu,x6]at hz;clear hu;simp only[go_sem];refine dD (λk K=>bp (fT p) k (p.funcs.drop k)=X/\K.f 1=.one (.ptr 1 (K.gen 1) 0)/\K.obj 1=S [.d (.sl (p.vars.map λs=>[.str s])),.d (.sl (p.arrays.map arD)),.d (.sl (p.funcs.map fnD))]/\K.f 3=iv .i64 k) (z p.funcs) ⟨hz,?_⟩ ?_
 .exact hx
 rintro k f g1 av hk ⟨Z,q1,o1,l⟩;simp only at q1 o1 l;have hw:=ac (k:=k) a7;by_cases af:k<z p.funcs
 case neg=>
  have Q:¬(k:Int)<(z p.funcs:Int):=a7;rw[y9 a7,bp]at Z;subst Z;simp only[go_sem,q1,o1,l,Q,j6]
 have Q:(k:Int)<(z p.funcs:Int):=a7;obtain⟨fn,hs⟩:=getq af;have hg:=getD_at (f:=fnD) hs;have a6:fnD fn=[.str fn.name,.sl (fn.params.map λs=>[.str s]),.sl (fn.locals.map λs=>[.str s]),.bool fn.word,.sl (fn.body.map smD)]:=rfl;rw[a6]at hg;obtain⟨⟨i1,u⟩,i3⟩:=B fn (l6 hs);have hF:=hF k fn hs;have hN:=CP (o:=o) fn a7 a7;have hU:=HR (o:=o) (aD fn.body) fn.body (l7 _) a7;have ad:z (iB fn)<=200000:=by simp[iB];omega
 have Y:=Src.uJ fn.body;rw[uG]at hN;unfold eS at hU;rw[de hs,bp]at Z;unfold fT at Z;simp only[go_sem,q1,o1,l,Q,j6,hg];refine cG rfl Wd ?_;rintro _ rfl;simp only[go_sem];refine ip rfl (by simp only[go_sem];exact zE (iB fn) a7) ?_;rintro _ rfl;cases hu:dU (iB fn)
 .obtain rfl:X=F:=by rw[<-Z,hu];rfl
  exact hx
 rw[hu,x6]at Z;simp only[go_sem,q1,o1,l,hg];refine cG rfl (by simp only[go_sem];exact hU) ?_;rintro _ rfl;unfold qN;obtain⟨E,al⟩:∃E,gU fn.body=E:=⟨_,rfl⟩
 rw[al]at Z Y|-;obtain⟨y,hy⟩:∃y,E.all (uE p k fn)=y:=⟨_,rfl⟩
 rw[hy]at Z;simp only[go_sem];refine dD (λj K=>(E.drop j).all (uE p k fn)=y/\K.f 1=.one (.ptr 1 (K.gen 1) 0)/\K.obj 1=S [.d (.sl (p.vars.map λs=>[.str s])),.d (.sl (p.arrays.map arD)),.d (.sl (p.funcs.map fnD))]/\K.f 3=iv .i64 k/\K.f 4=.one (.d (.sl (E.map usD)))/\K.f 5=iv .i64 j) (z E) ⟨hy,?_⟩ ?_
 .simp only[go_sem,q1,o1,l]
 clear q1 o1 l;rintro j f g1 av hj ⟨hd,q1,o1,l,H,L⟩;simp only at q1 o1 l H L;have cu:=ac (k:=j) a7;by_cases G:j<z E
 case neg=>
  have bd:¬(j:Int)<(z E:Int):=a7;rw[y9 a7]at hd;obtain rfl:y=T:=hd.symm;rw[x6]at Z;simp only[go_sem,H,L,bd,j6,l,hw];refine bN af ⟨Z,?_⟩;exact SW
 have bd:(j:Int)<(z E:Int):=a7;obtain⟨x,I⟩:=getq G;obtain⟨U,h2⟩:=cQ hd I;have t:=getD_at (f:=usD) I;have w:usD x=[.str x.1,.int .i64 x.2.1,.int .i64 x.2.2]:=rfl;rw[w]at t;have b:uE p k fn x=F->X=F:=λe=>by rw[<-Z,h2 e,A7]
 have hF:=hF x.1;unfold uE at U b;obtain⟨A,hA⟩:∃A,(du p fn x.1).1=A:=⟨_,rfl⟩
 obtain⟨n,hn⟩:∃n,(du p fn x.1).2=n:=⟨_,rfl⟩
 obtain⟨s,a,c⟩:=x;simp only at hA hn hF U b t;rw[hA,hn]at U b hF;simp only[go_sem,H,L,bd,j6];refine bY aA mixed aE [] [([1],[],[],F),([3],[],[],F),([4],[],[],F),([5],[],[],F),([43,44],[],[],F),([45],[],[],F),([46],[],[],F),([41,42,47],[],[],F),([48],[],[],F),([40],[],[],F),([40],[],[],F),([49],[],[],F),([50],[],[],T)] 0 rfl c8 rfl b9 ?_;simp only[go_sem]
 iterate 7 (apply aj;(case hg=>first|exact x9|exact⟨_,rfl,by decide,rfl⟩);(case U=>intro fa ga oa K' J;simp only[go_sem,q1,o1,l,H,L,t]at J|-;exact J))
 refine aj (v:=.tup [iv .i64 A,iv .i64 n]) x9 (λfa ga oa K' J=>?_) ?_
 .exact U3
 iterate 4 (apply aj;(case hg=>first|exact x9|exact⟨_,rfl,by decide,rfl⟩);(case U=>intro fa ga oa K' J;simp only[go_sem]at J|-;exact J))
 refine bZ x9 ?_;intro K' a';simp only[go_sem];refine a' _ ?_;clear a' K';have b4:(a=1/\A=1)\/(a=1/\A=2)\/(a=3/\A=3)\/(a=4/\A=4/\¬(k:Int)<=n)\/(¬a=1/\¬a=3/\¬a=4)\/(a=1/\¬A=1/\¬A=2)\/(a=3/\¬A=3)\/(a=4/\¬A=4)\/(a=4/\A=4/\(k:Int)<=n):=a7;rcases b4 with h|h|h|h|h|h|h|h|h
 iterate 5
  .simp only[go_sem,q1,o1,l,H,L,t,h,cu]
   refine bN G ⟨U (by simp[h]),?_⟩;simp only[go_sem,q1,o1,l,H]
 iterate 4
  .obtain rfl:=b (by simp[h])
   simp only[go_sem,q1,o1,l,H,L,t,h]
def Br{A:Type}{l:List A}{a:A}(h:l[z l-1]?=S a):l.getLast?=S a:=by rw[NA];exact h
def Et(p:Src.Prog)(hp:Sm p)(c:bp (fT p) 0 p.funcs=T)(a:Src.Fn)(bf:p.funcs[z p.funcs-1]?=S a):
  bP Tryz.prog 1 o 64 [bS p] (·=bv (decide ((p.funcs.all λf=>(gU f.body).all (rQ p f))=T/\a.name=Src.Np/\a.params=[]/\a.word=F))):=by
 refine hdG Tryz.func64 rfl [.tmp 2] λO bn s0 w0 g=>?_;obtain⟨X,hz⟩:∃X,decide ((p.funcs.all λf=>(gU f.body).all (rQ p f))=T/\a.name=Src.Np/\a.params=[]/\a.word=F)=X:=⟨_,rfl⟩
 rw[hz];obtain⟨pv,pa,pf,B⟩:=hp;have hF:=λi fn hi s=>HP (o:=o) p a7 a7 a7 i fn hi (by have:=(B fn (l6 hi)).1.1;omega) (by have:=(B fn (l6 hi)).1.2;omega) s;rw[bK]at hF|-;obtain⟨q,hq⟩:∃q,(p.funcs.all λf=>(gU f.body).all (rQ p f))=q:=⟨_,rfl⟩
 rw[hq]at hz;simp only[go_sem];refine dD (λk K=>((p.funcs.drop k).all λf=>(gU f.body).all (rQ p f))=q/\K.f 1=.one (.ptr 1 (K.gen 1) 0)/\K.obj 1=S [.d (.sl (p.vars.map λs=>[.str s])),.d (.sl (p.arrays.map arD)),.d (.sl (p.funcs.map fnD))]/\K.f 3=iv .i64 k) (z p.funcs) ⟨hq,?_⟩ ?_
 .exact hx
 rintro k f g1 av hk ⟨Z,q1,o1,q3⟩;simp only at q1 o1 q3;have hw:=ac (k:=k) a7;by_cases af:k<z p.funcs
 case neg=>
  have Q:¬(k:Int)<(z p.funcs:Int):=a7;rw[y9 a7]at Z;rw[show q=T from Z.symm]at hz;have az:0<z p.funcs:=by have:=(l5.1 bf).1;omega
  have b4:IntKind.i64.wrap ((z p.funcs:Int)-1)=((z p.funcs-1:Nat):Int):=by rw[wrap_i64]<;>omega
  have hg:=getD_at (f:=fnD) bf;have a6:fnD a=[.str a.name,.sl (a.params.map λs=>[.str s]),.sl (a.locals.map λs=>[.str s]),.bool a.word,.sl (a.body.map smD)]:=rfl;rw[a6]at hg;have cz:Src.Np=[109,97,105,110]:=rfl;rw[cz]at hz;have dc:(0:Int)<=((z p.funcs-1:Nat):Int):=a7;simp only[go_sem,q1,o1,q3,Q,j6,b4,hg];by_cases e1:a.name=[109,97,105,110]
  case neg=>
   obtain rfl:X=F:=by rw[<-hz];simp[e1]
   simp only[go_sem,e1]
  by_cases e2:a.params=[]
  case neg=>
   obtain rfl:X=F:=by rw[<-hz];simp[e2]
   have:¬(z a.params:Int)=0:=λe=>e2 (y7 a7);simp only[go_sem,e1,j6,this]
  cases e3:a.word
  .obtain rfl:X=T:=by rw[<-hz];simp[e1,e2,e3]
   simp only[go_sem,e1,e2]
  .obtain rfl:X=F:=by rw[<-hz];simp[e3]
   simp only[go_sem,e1,e2]
 have Q:(k:Int)<(z p.funcs:Int):=a7;obtain⟨fn,hs⟩:=getq af;have hg:=getD_at (f:=fnD) hs;have a6:fnD fn=[.str fn.name,.sl (fn.params.map λs=>[.str s]),.sl (fn.locals.map λs=>[.str s]),.bool fn.word,.sl (fn.body.map smD)]:=rfl;rw[a6]at hg;obtain⟨⟨i1,u⟩,i3⟩:=B fn (l6 hs);have hF:=hF k fn hs;have hU:=HR (o:=o) (aD fn.body) fn.body (l7 _) a7;have Y:=Src.uJ fn.body;have an:=Src.qJ fn.body;have bo:=Src.wv c hs;unfold fT at bo;rw[s5,y8,C7]at bo;have bo:=bo.2;unfold eS at hU;obtain⟨b1,b2⟩:=cQ Z hs;simp only[go_sem,q1,o1,q3,Q,j6,hg];refine cG rfl (by simp only[go_sem];exact hU) ?_;rintro _ rfl;unfold qN;obtain⟨us,al⟩:∃us,gU fn.body=us:=⟨_,rfl⟩
 rw[al]at b1 b2 Y an bo|-;obtain⟨y,hy⟩:∃y,us.all (rQ p fn)=y:=⟨_,rfl⟩
 rw[hy]at b1 b2;simp only[go_sem];refine dD (λj K=>(us.drop j).all (rQ p fn)=y/\K.f 1=.one (.ptr 1 (K.gen 1) 0)/\K.obj 1=S [.d (.sl (p.vars.map λs=>[.str s])),.d (.sl (p.arrays.map arD)),.d (.sl (p.funcs.map fnD))]/\K.f 3=iv .i64 k/\K.f 4=.one (.d (.sl (us.map usD)))/\K.f 5=iv .i64 j) (z us) ⟨hy,?_⟩ ?_
 .simp only[go_sem,q1,o1,q3]
 clear q1 o1 q3;rintro j f g1 av hj ⟨hd,q1,o1,q3,q4,q5⟩;simp only at q1 o1 q3 q4 q5;have cu:=ac (k:=j) a7;by_cases G:j<z us
 case neg=>
  have bd:¬(j:Int)<(z us:Int):=a7;rw[y9 a7]at hd;simp only[go_sem,q4,q5,bd,j6,q3,hw];refine bN af ⟨b1 hd.symm,?_⟩;exact SW
 have bd:(j:Int)<(z us:Int):=a7;obtain⟨x,I⟩:=getq G;obtain⟨U,h2⟩:=cQ hd I;have t:=getD_at (f:=usD) I;have h:=l6 I;have ar:=an x h;have L:=bo x h;have w:usD x=[.str x.1,.int .i64 x.2.1,.int .i64 x.2.2]:=rfl;rw[w]at t;have hF:=hF x.1;unfold rQ at U h2;unfold uE at L;by_cases e4:x.2.1=4
 case neg=>
  rw[j8 e4]at U;simp only[go_sem,q1,o1,q3,q4,q5,bd,j6,t,e4,cu];refine bN G ⟨U rfl,?_⟩;simp only[go_sem,q1,o1,q3,q4]
 rw[l8 e4]at U h2;obtain⟨A,hA⟩:∃A,(du p fn x.1).1=A:=⟨_,rfl⟩
 obtain⟨n,hn⟩:∃n,(du p fn x.1).2=n:=⟨_,rfl⟩
 have W:=Src.zF p fn x.1
 have bk:0<=n/\n<z p.funcs:=by
  rw[hA,hn,e4]at L;simp at L;refine⟨?_,a7⟩;rw[<-hn,W];cases V:Src.aQ (Src.aO p) (Src.aV fn) x.1 with
  |none=>
    rw[W,V]at hA;simp only at hA;omega
  |some r=>simp
 rw[hn]at U h2;rw[hA,hn]at hF;obtain⟨m,rfl⟩:∃m:Nat,n=(m:Int):=⟨n.toNat,a7⟩
 rw[B3]at U h2;obtain⟨b,P⟩:=getq (l:=p.funcs) (k:=m) a7;rw[P]at U h2;simp only at U h2;have H:=getD_at (f:=fnD) P;have a6:fnD b=[.str b.name,.sl (b.params.map λs=>[.str s]),.sl (b.locals.map λs=>[.str s]),.bool b.word,.sl (b.body.map smD)]:=rfl;rw[a6]at H;simp only[go_sem,q1,o1,q3,q4,q5,bd,j6,t,e4];refine bY aA mixed aE [] [([1],[],[],F),([3],[],[],F),([4],[],[],F),([5],[],[],F),([38,39],[],[],F),([40],[],[],F),([41],[],[],F),([36,37,42],[],[],F),([43],[],[],F),([35],[],[],F),([35],[],[],F),([44],[],[],F),([45],[],[],T)] 0 rfl c8 rfl b9 ?_;simp only[go_sem]
 iterate 7 (apply aj;(case hg=>first|exact x9|exact⟨_,rfl,by decide,rfl⟩);(case U=>intro fa ga oa K' J;simp only[go_sem,q1,o1,q3,q4,q5,t]at J|-;exact J))
 refine aj (v:=.tup [iv .i64 A,iv .i64 m]) x9 (λfa ga oa K' J=>?_) ?_
 .exact U3
 iterate 4 (apply aj;(case hg=>first|exact x9|exact⟨_,rfl,by decide,rfl⟩);(case U=>intro fa ga oa K' J;simp only[go_sem]at J|-;exact J))
 refine bZ x9 ?_;intro K' a';simp only[go_sem];refine a' _ ?_;clear a' K';simp only[go_sem];refine aF c8 ?_;have E:(0:Int)<=(m:Int):=a7;by_cases e5:(z b.params:Int)=x.2.2
 .simp only[go_sem,q1,o1,q3,q4,q5,t,H,E,j6,e5,cu]
  refine bN G ⟨U (C9 e5),?_⟩;simp only[go_sem,q1,o1,q3,q4]
 .have ad:y=F:=h2 (A4 e5)
  rw[b2 ad]at hz;obtain rfl:X=F:=by rw[<-hz];simp
  simp only[go_sem,q1,o1,q3,q4,q5,t,H,E,j6,e5]
def HF(p:Src.Prog)(hp:Sm p)(U:1<=z p.funcs):bP Tryz.prog 1 o 40 [bS p] (·=iv .i64 (Src.iZ p:Nat)):=by
 refine hdG Tryz.func40 rfl [.tmp 2] λO bn s0 w0 g=>?_;rw[<-Src.QA];have hN:=La (o:=o) p hp;obtain⟨a,d⟩:=getq (l:=p.funcs) (k:=z p.funcs-1) a7;have j:=λh=>Et (o:=o) p hp h a d;obtain⟨X,b⟩:∃X,Src.HD p=X:=⟨_,rfl⟩
 rw[b];unfold Src.HD at b;rw[Br d]at b;rw[bK]at hN j|-;simp only[go_sem];refine cG rfl Wd ?_;rintro _ rfl;by_cases hb:(dU (ea p)&&bp (fT p) 0 p.funcs)=F
 .rw[l8 hb]at b
  subst b;simp only[go_sem,hb]
 rw[j8 hb]at b;have hb:(dU (ea p)&&bp (fT p) 0 p.funcs)=T:=by simpa using hb
 have j:=j (s5 _ _▸hb).2;simp only[go_sem,hb];refine cG rfl (by simp only[go_sem];exact j) ?_;rintro _ rfl;by_cases h:(p.funcs.all λf=>(gU f.body).all (rQ p f))=T/\a.name=Src.Np/\a.params=[]/\a.word=F
 .simp only[l8 h]at b
  subst b;simp only[go_sem,C9 h]
 .simp only[j8 h]at b
  subst b;simp only[go_sem,A4 h]
end
end
end Go.Proofs.YtlacbjnmkhndiaaGreatDoor
namespace Go.Src
section
attribute [local congr] Go.Am.ite_cc
open Go.Asm (Str)
section
def mz:∀(fs:List Fn)(k:Nat)(s:Str),cn fs s=if aL k (fs.map (·.name)) s<0 then N else fs[(aL k (fs.map (·.name)) s).toNat-k]?
 |[],_,_=>rfl
 |f::l,k,s=>by
   rw[cn,l9,aL];by_cases h:f.name=s
   .rw[l8 h,l8 h,j8 a7,show ((k:Int).toNat-k)=0 by omega];rfl
   .rw[j8 h,j8 h,mz l (k+1)]
    have:=iM (l.map (·.name)) (k+1) s;split
    .rfl
    .rename_i a
     rw[show (aL (k+1) (l.map (·.name)) s).toNat-k=((aL (k+1) (l.map (·.name)) s).toNat-(k+1))+1 by omega,s9]
def qL(fs:List Fn)(s:Str):Int:=aL 0 (fs.map (·.name)) s
variable{fs:List Fn}
def QB{s:Str}(h:qL fs s<0):cn fs s=N:=(mz fs 0 s).trans (l8 h)
def QC{s:Str}(h:¬qL fs s<0):∃(k:Nat)(f:Fn),qL fs s=(k:Int)/\fs[k]?=S f/\cn fs s=S f:=by
 have c:=iM (fs.map (·.name)) 0 s;rw[j6]at c;unfold qL at h|-;obtain⟨k,a⟩:∃k:Nat,aL 0 (fs.map (·.name)) s=(k:Int):=⟨(aL 0 (fs.map (·.name)) s).toNat,a7⟩
 have b:k<z fs:=a7;refine⟨k,fs[k],a,v8 b,?_⟩;rw[mz fs 0,j8 h,a];simp[b]
end
end
end Go.Src
namespace Go.Proofs.YtlacbjnmkhndiaaGreatDoor
section
open Go Go.Am Go.Asm
open Go.Src (Ex Stm szE bc szS aD qL cn fJ fV cq lp bU dg cA ja bh)
attribute[local congr]ite_cc
section
def mA(p:Src.Prog)(hf:z p.funcs<=1000000)(s:Str):ax Tryz.prog 98 [bS p,sv s] (·=iv .i64 (qL p.funcs s)):=by
 refine hdP Tryz.func98 rfl [4] λg=>?_;unfold qL;obtain⟨X,i⟩:∃X,Src.aL 0 (p.funcs.map (·.name)) s=X:=⟨_,rfl⟩
 rw[i,bK];simp only[go_sem];refine dD (λk K=>Src.aL k ((p.funcs.drop k).map (·.name)) s=X/\K.f 2=.one (.ptr 2 (K.gen 2) 0)/\K.obj 2=S [.d (.sl (p.vars.map λs=>[.str s])),.d (.sl (p.arrays.map arD)),.d (.sl (p.funcs.map fnD))]/\K.f 1=sv s/\K.f 5=iv .i64 k) (z p.funcs) ⟨i,?_⟩ ?_
 .exact hx
 rintro k f x y A ⟨Z,a,e,l,o⟩;simp only at a e l o;have v:=ac (k:=k) a7;by_cases t:k<z p.funcs
 case neg=>
  have Q:¬(k:Int)<(z p.funcs:Int):=a7;rw[y9 a7]at Z;have i:X = -1:=Z.symm;simp only[go_sem,a,e,o,Q,j6,i]
 have Q:(k:Int)<(z p.funcs:Int):=a7;obtain⟨fn,u⟩:=getq t;have r:=getD_at (f:=fnD) u;have w:fnD fn=[.str fn.name,.sl (fn.params.map λs=>[.str s]),.sl (fn.locals.map λs=>[.str s]),.bool fn.word,.sl (fn.body.map smD)]:=rfl;rw[w]at r;rw[de u,l9,Src.aL]at Z;by_cases hn:fn.name=s
 .rw[l8 hn]at Z
  subst Z;simp only[go_sem,a,e,l,o,Q,j6,r,hn]
 .rw[j8 hn]at Z
  simp only[go_sem,a,e,l,o,Q,j6,r,hn,v];refine bN t ⟨Z,?_⟩;simp only[go_sem,a,e,l]
section
variable{s:St}{p:Src.Prog}
def xz{x:Str}:dC s [.agg [.d (.sl (p.vars.map λs=>[.str s])),.d (.sl (p.arrays.map arD)),.d (.sl (p.funcs.map fnD))],sv x] [bS p,sv x]:=⟨_,_,rfl,ux (iH p),_,_,rfl,⟨_,.d _,rfl⟩,rfl⟩
def xA{x:List (List D)}:dC s [.agg [.d (.sl (p.vars.map λs=>[.str s])),.d (.sl (p.arrays.map arD)),.d (.sl (p.funcs.map fnD))],.one (.d (.sl x))] [bS p,.one (.d (.sl x))]:=⟨_,_,rfl,ux (iH p),_,_,rfl,⟨_,.d _,rfl⟩,rfl⟩
end
def sx{fs:List Src.Fn}:∀l:List Ex,cq fs l=l.all (fV fs)
 |[]=>by simp[cq]
 |e::l=>by simp[cq,sx l]
def nQ{fs:List Src.Fn}:∀l:List Stm,bU fs l=l.all (lp fs)
 |[]=>by simp[bU]
 |e::l=>by simp[bU,nQ l]
def zA{fs:List Src.Fn}{t:Int}:∀l:List Ex,cA fs t l=l.all λe=>decide (dg fs e=t)
 |[]=>by simp[cA]
 |e::l=>by simp[cA,zA l]
def sy{fs:List Src.Fn}{w:Bool}:∀l:List Stm,bh fs w l=l.all (ja fs w)
 |[]=>by simp[bh]
 |e::l=>by simp[bh,sy l]
def Lb(p:Src.Prog)(hf:z p.funcs<=1000000):∀(al:Nat)(l:List Ex),bc l<=al->al<=1000000000->ax Tryz.prog 99 [bS p,eb l] (·=bv (cq p.funcs l)):=by
 intro al
 induction al using Nat.strongRecOn with
 |ind al E=>
 intro l L i;refine hdP Tryz.func99 rfl [4] λg=>?_;obtain⟨X,x⟩:∃X,cq p.funcs l=X:=⟨_,rfl⟩
 rw[x,bK];rw[sx]at x;have bl:=Src.IF l;unfold eb;simp only[go_sem];refine dD (λk K=>(l.drop k).all (fV p.funcs)=X/\K.f 2=.one (.ptr 2 (K.gen 2) 0)/\K.obj 2=S [.d (.sl (p.vars.map λs=>[.str s])),.d (.sl (p.arrays.map arD)),.d (.sl (p.funcs.map fnD))]/\K.f 1=.one (.d (.sl (l.map exD)))/\K.f 5=iv .i64 k) (z l) ⟨x,?_⟩ ?_
 .exact hx
 rintro k f O Y hk ⟨Z,t,u,q1,q5⟩;simp only at t u q1 q5;have G:=ac (k:=k) a7;by_cases A:k<z l
 case neg=>
  exact ys
 have Q:(k:Int)<(z l:Int):=a7;obtain⟨e,y⟩:=getq A;obtain⟨U,r⟩:=cQ Z y;have az:=Src.LU (l6 y);have v:=getD_at (f:=exD) y;obtain⟨kind,op,num,name,o⟩:=e;rw[szE]at az;rw[fV]at U r;have I:exD (.mk kind op num name o)=[.int .i64 kind,.int .i64 op,.int .u32 num,.str name,.sl (o.map exD)]:=by simp only[exD,aK]
 rw[I]at v;have J:=E (bc o) a7 o (l7 _) a7;unfold eb at J;simp only[go_sem,q1,q5,Q,j6];refine cO aA mixed c8 ?_;by_cases w:kind=4
 case' pos=>
  rw[l8 w]at U r;simp only[go_sem,q1,t,u,q5,v,Q,w];refine aP rfl (mA p hf name) W2 rfl ?_;by_cases hn:qL p.funcs name<0
  .obtain rfl:=r (by rw[Src.QB hn];rfl)
   simp only[go_sem,hn]
  obtain⟨_,_,_,_,H⟩:=Src.QC hn;rw[H,C6,x6]at U r;simp only[go_sem,q1,t,u,q5,v,Q,hn]
 case' neg=>
  rw[j8 w,x6]at U r;simp only[go_sem,q1,t,u,q5,v,Q,w]
 all_goals refine aP rfl J W3 rfl ?_
 all_goals cases a:cq p.funcs o
 all_goals simp only[go_sem,a,q5,G]
 any_goals exact(r a).symm
 all_goals refine bN A ⟨U a,?_⟩
 all_goals simp only[go_sem,t,u,q1]
def xB(p:Src.Prog)(hf:z p.funcs<=1000000):∀(al:Nat)(l:List Stm),aD l<=al->al<=1000000000->ax Tryz.prog 65 [bS p,eS l] (·=bv (bU p.funcs l)):=by
 intro al
 induction al using Nat.strongRecOn with
 |ind al A=>
 intro l hN i;refine hdP Tryz.func65 rfl [4] λg=>?_;obtain⟨X,x⟩:∃X,bU p.funcs l=X:=⟨_,rfl⟩
 rw[x,bK];rw[nQ]at x;have bl:=Src.IG l;unfold eS;simp only[go_sem];refine dD (λk K=>(l.drop k).all (lp p.funcs)=X/\K.f 2=.one (.ptr 2 (K.gen 2) 0)/\K.obj 2=S [.d (.sl (p.vars.map λs=>[.str s])),.d (.sl (p.arrays.map arD)),.d (.sl (p.funcs.map fnD))]/\K.f 1=.one (.d (.sl (l.map smD)))/\K.f 5=iv .i64 k) (z l) ⟨x,?_⟩ ?_
 .exact hx
 rintro k f g1 av hk ⟨Z,r,t,q1,q5⟩;simp only at r t q1 q5;have O:=ac (k:=k) a7;by_cases E:k<z l
 case neg=>
  exact ys
 have Q:(k:Int)<(z l:Int):=a7;obtain⟨e,y⟩:=getq E;obtain⟨U,o⟩:=cQ Z y;have az:=Src.LV (l6 y);have u:=getD_at (f:=smD) y;obtain⟨kind,name,e,v,el⟩:=e;rw[szS]at az;rw[lp]at U o;have I:smD (.mk kind name e v el)=[.int .i64 kind,.str name,.sl (e.map exD),.sl (v.map smD),.sl (el.map smD)]:=by simp only[smD,aK,dQ]
 rw[I]at u;have G:=Lb p hf (bc e) e (l7 _) a7;have H:=A (aD v) a7 v (l7 _) a7;have L:=A (aD el) a7 el (l7 _) a7;unfold eb at G;unfold eS at H L;simp only[go_sem,q1,q5,Q,j6];refine cO aA mixed c8 ?_;by_cases w:kind=6
 case' pos=>
  rw[l8 w]at U o;simp only[go_sem,q1,r,t,q5,u,Q,w];refine aP rfl (mA p hf name) W2 rfl ?_;by_cases hn:qL p.funcs name<0
  .obtain rfl:=o (by rw[Src.QB hn];rfl)
   simp only[go_sem,hn]
  obtain⟨_,_,_,_,Y⟩:=Src.QC hn;rw[Y,C6,x6]at U o;simp only[go_sem,q1,r,t,q5,u,Q,hn]
 case' neg=>
  rw[j8 w,x6]at U o;simp only[go_sem,q1,r,t,q5,u,Q,w]
 all_goals refine aP rfl G W3 rfl ?_
 all_goals cases a:cq p.funcs e
 all_goals simp only[go_sem,a,q1,r,t,q5,u,Q]
 any_goals exact(o (by rw[a];rfl)).symm
 all_goals refine aP rfl H W3 rfl ?_
 all_goals cases c:bU p.funcs v
 all_goals simp only[go_sem,c,q1,r,t,q5,u,Q]
 any_goals exact(o (by rw[a,c];rfl)).symm
 all_goals refine aP rfl L W3 rfl ?_
 all_goals cases b:bU p.funcs el
 all_goals simp only[go_sem,b,q5,O]
 any_goals exact(o (by rw[a,c,b];rfl)).symm
 all_goals refine bN E ⟨U (by rw[a,c,b];rfl),?_⟩
 all_goals simp only[go_sem,r,t,q1]
end
section
variable{fs:List Src.Fn}
def HG{s:Str}(h:qL fs s<0):fJ fs s=F:=by unfold fJ;rw[Src.QB h]
def Pa(p:Src.Prog)(hf:z p.funcs<=1000000)(kind op num:Int)(name:Str)(kids:List Ex)(hW:ax Tryz.prog 101 [bS p,eb kids] (·=bv (cA p.funcs 1 kids)))(hB:ax Tryz.prog 100 [bS p,eb kids] (·=bv (cA p.funcs 2 kids))):
  ax Tryz.prog 162 [bS p,exV (.mk kind op num name kids)] (·=iv .i64 (dg p.funcs (.mk kind op num name kids))):=by
 refine hdP Tryz.func162 rfl [4] λg=>?_;have j:exV (.mk kind op num name kids)=.agg [.d (.int .i64 kind),.d (.int .i64 op),.d (.int .u32 num),.d (.str name),.d (.sl (kids.map exD))]:=by simp only[exV,exD,aK,l9,w9]
 have hN:=mA p hf name;obtain⟨X,hz⟩:∃X,dg p.funcs (.mk kind op num name kids)=X:=⟨_,rfl⟩
 rw[hz,j];rw[dg]at hz;unfold eb at hW hB;rw[bK]at hW hB hN|-;have hk:kind=1\/kind=2\/kind=5\/kind=3\/kind=4\/kind=6\/kind=7\/kind=8\/kind=9\/(¬kind=1/\¬kind=2/\¬kind=3/\¬kind=4/\¬kind=5/\¬kind=6/\¬kind=7/\¬kind=8/\¬kind=9):=a7;rcases hk with rfl|rfl|rfl|rfl|rfl|rfl|rfl|rfl|rfl|⟨n,o,q,t,u,P,v,x,l⟩
 iterate 3
  .obtain rfl:X=1:=by rw[<-hz];simp
   simp only[go_sem]
 .simp only[go_sem]
  refine bJ rfl W4 ?_;rintro _ rfl;cases hw:cA p.funcs 1 kids
  .exact S6
  .obtain rfl:X=1:=by rw[<-hz,hw];simp
   exact hx
 .simp only[go_sem]
  refine bJ rfl Wd ?_;rintro _ rfl;by_cases hn:qL p.funcs name<0
  .obtain rfl:X=0:=by rw[<-hz,HG hn];simp
   simp only[go_sem,show ¬0<=qL p.funcs name by omega]
  obtain⟨k,fn,hk,Y,y⟩:=Src.QC hn;have e:=getD_at (f:=fnD) Y;have A:fnD fn=[.str fn.name,.sl (fn.params.map λs=>[.str s]),.sl (fn.locals.map λs=>[.str s]),.bool fn.word,.sl (fn.body.map smD)]:=rfl;rw[A]at e;have G:fJ p.funcs name=fn.word:=by unfold fJ;rw[y]
  rw[G]at hz;have i:(0:Int)<=(k:Int):=a7;cases b:fn.word
  .obtain rfl:X=0:=by rw[<-hz,b];simp
   simp only[go_sem,hk,i,e,b]
  simp only[go_sem,hk,i,e,b];refine bJ rfl W4 ?_;rintro _ rfl;cases hw:cA p.funcs 1 kids
  .exact S6
  .obtain rfl:X=1:=by rw[<-hz,hw,b];simp
   exact hx
 .simp only[go_sem]
  refine bJ rfl W4 ?_;rintro _ rfl;cases hw:cA p.funcs 1 kids
  .exact S6
  by_cases a:op=14
  .obtain rfl:X=2:=by rw[<-hz,hw,a];simp
   simp only[go_sem,a]
  by_cases w:op=15
  .obtain rfl:X=2:=by rw[<-hz,hw,w];simp
   simp only[go_sem,w]
  obtain rfl:X=1:=by rw[<-hz,hw];simp[a,w]
  simp only[go_sem,a,w]
 iterate 3
  .simp only[go_sem]
   refine bJ rfl WH ?_;rintro _ rfl;cases hw:cA p.funcs 2 kids
   .exact S6
   .obtain rfl:X=2:=by rw[<-hz,hw];simp
    exact hx
 .obtain rfl:X=0:=by rw[<-hz,l8 a7]
  simp only[go_sem,n,o,q,t,u,P,v,x,l]
def Lc(p:Src.Prog)(hf:z p.funcs<=1000000):∀(al:Nat)(l:List Ex),bc l<=al->al<=1000000000->ax Tryz.prog 101 [bS p,eb l] (·=bv (cA p.funcs 1 l))/\ax Tryz.prog 100 [bS p,eb l] (·=bv (cA p.funcs 2 l)):=by
 intro al
 induction al using Nat.strongRecOn with
 |ind al O=>
 intro l hN i;have bl:=Src.IF l
 have H:∀(k:Nat)(e:Ex),l[k]?=S e->ax Tryz.prog 162 [bS p,exV e] (·=iv .i64 (dg p.funcs e)):=λk e w=>by
  have az:=Src.LU (l6 w);obtain⟨kind,op,num,name,o⟩:=e;rw[szE]at az;have:=O (bc o) a7 o (l7 _) a7;exact Pa p hf kind op num name o this.1 this.2
 unfold eb;rw[bK]at H|-;constructor
 case' left=>
  refine hdP Tryz.func101 rfl [4] λg=>?_;obtain⟨t,u⟩:∃t:Int,t=1:=⟨_,rfl⟩
  rw[show cA p.funcs 1 l=cA p.funcs t l by rw[u]]
 case' right=>
  refine hdP Tryz.func100 rfl [4] λg=>?_;obtain⟨t,u⟩:∃t:Int,t=2:=⟨_,rfl⟩
  rw[show cA p.funcs 2 l=cA p.funcs t l by rw[u]]
 all_goals obtain⟨X,y⟩:∃X,cA p.funcs t l=X:=⟨_,rfl⟩
 all_goals rw[y]
 all_goals rw[zA]at y
 all_goals simp only[go_sem]
 all_goals refine dD (λk K=>((l.drop k).all λe=>decide (dg p.funcs e=t))=X/\K.f 2=.one (.ptr 2 (K.gen 2) 0)/\K.obj 2=S [.d (.sl (p.vars.map λs=>[.str s])),.d (.sl (p.arrays.map arD)),.d (.sl (p.funcs.map fnD))]/\K.f 1=.one (.d (.sl (l.map exD)))/\K.f 5=iv .i64 k) (z l) ⟨y,Vy⟩ ?_
 all_goals rintro k f g1 av hk ⟨Z,A,E,q1,q5⟩
 all_goals simp only at A E q1 q5
 all_goals have Y:=ac (k:=k) a7
 all_goals
  by_cases I:k<z l
  rotate_left
  .exact ys
  have Q:(k:Int)<(z l:Int):=a7;obtain⟨e,w⟩:=getq I;obtain⟨U,h2⟩:=cQ Z w;have L:=getD_at (f:=exD) w;have h:=H k e w;have G:∃a b c d x,exD e=[.int .i64 a,.int .i64 b,.int .u32 c,.str d,.sl x]:=by cases e;exact⟨_,_,_,_,_,by rw[exD]⟩
  obtain⟨a,b,c,d,x,G⟩:=G;unfold exV at h;rw[G]at h L;simp only[go_sem,q1,q5,Q,j6];refine jn c8 ?_;simp only[go_sem,q1,A,E,q5,Q,L];refine bJ rfl (by simp only[go_sem];exact h) ?_;rintro _ rfl;by_cases v:dg p.funcs e=t
  .rw[u]at v
   simp only[go_sem,v,q5,Y];refine bN I ⟨U (C9 (by rw[v,u])),?_⟩;simp only[go_sem,A,E,q1]
  .obtain rfl:=h2 (A4 v)
   rw[u]at v;simp only[go_sem,v]
def Ts{kind:Int}{e:List Ex}:cA fs (if kind=4\/kind=5 then 2 else 1) e=if kind=4\/kind=5 then cA fs 2 e else cA fs 1 e:=by split<;>rfl
def Pb(p:Src.Prog)(hf:z p.funcs<=1000000)(w:Bool):∀(al:Nat)(l:List Stm),aD l<=al->al<=1000000000->bU p.funcs l=T->ax Tryz.prog 66 [bS p,bv w,eS l] (·=bv (bh p.funcs w l)):=by
 intro al
 induction al using Nat.strongRecOn with
 |ind al ih=>
 intro l hN i a;refine hdP Tryz.func66 rfl [6] λg=>?_;obtain⟨X,hz⟩:∃X,bh p.funcs w l=X:=⟨_,rfl⟩
 rw[hz,bK];rw[sy]at hz;rw[nQ,y8]at a;have bl:=Src.IG l;unfold eS;simp only[go_sem];refine dD (λk K=>(l.drop k).all (ja p.funcs w)=X/\K.f 3=.one (.ptr 3 (K.gen 3) 0)/\K.obj 3=S [.d (.sl (p.vars.map λs=>[.str s])),.d (.sl (p.arrays.map arD)),.d (.sl (p.funcs.map fnD))]/\K.f 1=bv w/\K.f 2=.one (.d (.sl (l.map smD)))/\K.f 7=iv .i64 k) (z l) ⟨hz,?_⟩ ?_
 .exact hx
 rintro k f g1 av hk ⟨Z,o,B,t,x,A⟩;simp only at o B t x A;have hw:=ac (k:=k) a7;by_cases af:k<z l
 case neg=>
  have Q:¬(k:Int)<(z l:Int):=a7;rw[y9 a7]at Z;obtain rfl:X=T:=Z.symm;simp only[go_sem,x,A,Q,j6]
 have Q:(k:Int)<(z l:Int):=a7;obtain⟨e,he⟩:=getq af;obtain⟨U,u⟩:=cQ Z he;have az:=Src.LV (l6 he);have a:=a e (l6 he);have hg:=getD_at (f:=smD) he;obtain⟨kind,name,e,H,el⟩:=e;rw[szS]at az;rw[lp]at a;simp only[s5]at a;rw[ja,Ts]at U u;have I:smD (.mk kind name e H el)=[.int .i64 kind,.str name,.sl (e.map exD),.sl (H.map smD),.sl (el.map smD)]:=by simp only[smD,aK,dQ]
 rw[I]at hg;obtain⟨hW,hB⟩:=Lc p hf (bc e) e (l7 _) a7;have hT:=ih (aD H) a7 H (l7 _) a7 a.2.1;have hL:=ih (aD el) a7 el (l7 _) a7 a.2.2;have hN:=mA p hf name;rw[bK]at hW hB hT hL;unfold eb at hW hB;unfold eS at hT hL;obtain⟨y,O⟩:∃y,(if kind=4\/kind=5 then cA p.funcs 2 e else cA p.funcs 1 e)=y:=⟨_,rfl⟩
 rw[O]at U u;have ad:y=F->X=F:=λe=>u (by rw[e];simp);by_cases k4:kind=4
 case' pos=>
  rw[l8 (.inl k4)]at O;simp only[go_sem,x,o,B,A,Q,j6,hg,k4];refine bJ rfl WH ?_;rintro _ rfl;rw[O];have P:¬kind=6:=a7
 case' neg=>
  by_cases k5:kind=5
  case' pos=>
   rw[l8 (.inr k5)]at O;simp only[go_sem,x,o,B,A,Q,j6,hg,k5];refine bJ rfl WH ?_;rintro _ rfl;rw[O];have P:¬kind=6:=a7
  case' neg=>
   rw[j8 a7]at O;simp only[go_sem,x,o,B,A,Q,j6,hg,k4,k5];refine bJ rfl W4 ?_;rintro _ rfl;rw[O];by_cases P:kind=6
   case pos=>
    cases y
    .obtain rfl:=ad rfl
     exact hx
    simp only[go_sem];refine cO aA mixed c8 ?_;have b:(cn p.funcs name).isSome=T:=by have:=a.1.1;rwa [l8 P]at this
    have hn:¬qL p.funcs name<0:=λh=>by rw[Src.QB h]at b;cases b
    obtain⟨m,fn,hm,Y,hs⟩:=Src.QC hn;have cb:=getD_at (f:=fnD) Y;have a6:fnD fn=[.str fn.name,.sl (fn.params.map λs=>[.str s]),.sl (fn.locals.map λs=>[.str s]),.bool fn.word,.sl (fn.body.map smD)]:=rfl;rw[a6]at cb;have G:fJ p.funcs name=fn.word:=by unfold fJ;rw[hs]
    have E:(0:Int)<=(m:Int):=a7;rw[G]at U u;cases bz:fn.word
    case true=>
     obtain rfl:=u (by simp[bz,P]);simp only[go_sem,P,o,B];refine aP rfl hN W2 rfl ?_;simp only[go_sem,hm,E,cb,bz]
    simp only[go_sem,P,o,B];refine aP rfl hN W2 rfl ?_;simp only[go_sem,hm,E,cb,bz,P,t,o,B];refine bJ rfl VT ?_;rintro _ rfl;cases v:bh p.funcs w H
    .obtain rfl:=u (by simp[v])
     exact hx
    simp only[go_sem,t,o,B];refine bJ rfl VU ?_;rintro _ rfl;cases hl:bh p.funcs w el
    .obtain rfl:=u (by simp[hl])
     exact hx
    simp only[go_sem,A,hw];refine bN af ⟨U (by simp[v,hl,bz,P]),?_⟩;simp only[go_sem,o,B,t,x]
 all_goals
  cases y
  .obtain rfl:=ad rfl
   exact hx
  simp only[go_sem];refine cO aA mixed c8 ?_;by_cases L:kind=7
  rotate_left
  .simp only[go_sem,P,L,t,o,B]
   refine bJ rfl VT ?_;rintro _ rfl;cases v:bh p.funcs w H
   .obtain rfl:=u (by simp[v])
    exact hx
   simp only[go_sem,t,o,B];refine bJ rfl VU ?_;rintro _ rfl;cases hl:bh p.funcs w el
   .obtain rfl:=u (by simp[hl])
    exact hx
   simp only[go_sem,A,hw];refine bN af ⟨U (by simp[v,hl,P,L]),?_⟩;simp only[go_sem,o,B,t,x]
  by_cases a':0<(z e:Int)
  rotate_left
  .have bs:¬0<z e:=a7
   simp only[go_sem,P,L,t,o,B,j6,a'];refine bJ rfl VT ?_;rintro _ rfl;cases v:bh p.funcs w H
   .obtain rfl:=u (by simp[v])
    exact hx
   simp only[go_sem,t,o,B];refine bJ rfl VU ?_;rintro _ rfl;cases hl:bh p.funcs w el
   .obtain rfl:=u (by simp[hl])
    exact hx
   simp only[go_sem,A,hw];refine bN af ⟨U (by simp[v,hl,L,bs]),?_⟩;simp only[go_sem,o,B,t,x]
  cases j:w
  .have bs:0<z e:=a7
   obtain rfl:=u (by simp[L,bs,j]);simp only[go_sem,P,L,t,o,B,j6,a',j]
   all_goals (exfalso;omega)
  .rw[j]at hT hL t U u
   simp only[go_sem,P,L,t,o,B,j6,a',j];refine bJ rfl VT ?_;rintro _ rfl;cases v:bh p.funcs T H
   .obtain rfl:=u (by simp[j,v])
    exact hx
   simp only[go_sem,t,o,B];refine bJ rfl VU ?_;rintro _ rfl;cases hl:bh p.funcs T el
   .obtain rfl:=u (by simp[j,hl])
    exact hx
   simp only[go_sem,A,hw];refine bN af ⟨U (by simp[v,hl,L,j]),?_⟩;simp only[go_sem,o,B,t,x]
def HH(p:Src.Prog)(hp:Sm p):ax Tryz.prog 41 [bS p] (·=iv .i64 (Src.qd p:Nat)):=by
 refine hdP Tryz.func41 rfl [2] λg=>?_;obtain⟨X,i⟩:∃X,Src.qd p=X:=⟨_,rfl⟩
 rw[i];unfold Src.qd at i;obtain⟨Y,pa,pf,B⟩:=hp;have J:=λ(f:Src.Fn)(hf:f∈p.funcs)=>xB p a7 (aD f.body) f.body (l7 _) (by have:=(B f hf).2;omega);have y:=λ(f:Src.Fn)(hf:f∈p.funcs)=>Pb p a7 f.word (aD f.body) f.body (l7 _) (by have:=(B f hf).2;omega);unfold eS at J y;rw[bK]at J y|-;obtain⟨q,u⟩:∃q,(p.funcs.all λf=>bU p.funcs f.body)=q:=⟨_,rfl⟩
 have b:q=F->X=4:=λe=>by rw[<-i,u,l8 e]
 simp only[go_sem];refine dD (λk K=>((p.funcs.drop k).all λf=>bU p.funcs f.body)=q/\K.f 1=.one (.ptr 1 (K.gen 1) 0)/\K.obj 1=S [.d (.sl (p.vars.map λs=>[.str s])),.d (.sl (p.arrays.map arD)),.d (.sl (p.funcs.map fnD))]/\K.f 3=iv .i64 k) (z p.funcs) ⟨u,?_⟩ ?_
 .exact hx
 rintro k f I L hk ⟨Z,q1,o1,o⟩;simp only at q1 o1 o;have x:=ac (k:=k) a7;by_cases t:k<z p.funcs
 .have Q:(k:Int)<(z p.funcs:Int):=a7
  obtain⟨fn,l⟩:=getq t;have v:=getD_at (f:=fnD) l;have A:fnD fn=[.str fn.name,.sl (fn.params.map λs=>[.str s]),.sl (fn.locals.map λs=>[.str s]),.bool fn.word,.sl (fn.body.map smD)]:=rfl;rw[A]at v;obtain⟨U,E⟩:=cQ Z l;simp only[go_sem,q1,o1,o,Q,j6];refine jn c8 ?_;simp only[go_sem,q1,o1,o,Q,v];refine bJ rfl (by simp only[go_sem];exact J fn (l6 l)) ?_;rintro _ rfl;cases a:bU p.funcs fn.body
  .obtain rfl:=b (E a)
   exact hx
  .simp only[go_sem,o,x]
   refine bN t ⟨U a,?_⟩;exact SW
 have Q:¬(k:Int)<(z p.funcs:Int):=a7;rw[y9 a7]at Z;have G:q=T:=Z.symm;rw[u,j8 (by rw[G];decide)]at i;rw[G,y8]at u;clear Z hk t x b;simp only[go_sem,q1,o1,o,Q,j6];obtain⟨r,V⟩:∃r,(p.funcs.all λf=>bh p.funcs f.word f.body)=r:=⟨_,rfl⟩
 rw[V]at i;refine dD (λk K=>((p.funcs.drop k).all λf=>bh p.funcs f.word f.body)=r/\K.f 1=.one (.ptr 1 (K.gen 1) 0)/\K.obj 1=S [.d (.sl (p.vars.map λs=>[.str s])),.d (.sl (p.arrays.map arD)),.d (.sl (p.funcs.map fnD))]/\K.f 4=iv .i64 k) (z p.funcs) ⟨V,?_⟩ ?_
 .exact SW
 clear Q q1 o1 o;rintro k f I L hk ⟨Z,q1,o1,w⟩;simp only at q1 o1 w;have x:=ac (k:=k) a7;by_cases t:k<z p.funcs
 .have Q:(k:Int)<(z p.funcs:Int):=a7
  obtain⟨fn,l⟩:=getq t;have v:=getD_at (f:=fnD) l;have A:fnD fn=[.str fn.name,.sl (fn.params.map λs=>[.str s]),.sl (fn.locals.map λs=>[.str s]),.bool fn.word,.sl (fn.body.map smD)]:=rfl;rw[A]at v;have H:=l6 l;obtain⟨U,E⟩:=cQ Z l;simp only[go_sem,q1,o1,w,Q,j6];refine jn c8 ?_;simp only[go_sem,q1,o1,w,Q,v];refine bJ rfl (by simp only[go_sem];exact y fn H (u fn H)) ?_;rintro _ rfl;cases a:bh p.funcs fn.word fn.body
  .rw[l8 (E a)]at i
   subst i;exact hx
  .simp only[go_sem,w,x]
   refine bN t ⟨U a,?_⟩;exact SW
 have Q:¬(k:Int)<(z p.funcs:Int):=a7;rw[y9 a7]at Z;have O:r=T:=Z.symm;rw[j8 (by rw[O];decide)]at i;subst i;simp only[go_sem,q1,o1,w,Q,j6]
def Sm.inP{p:Src.Prog}(h:Sm p)(b:∀f∈p.funcs,Src.pR f.body):Src.InP p:=⟨by have:=h.v;omega,by have:=h.a;omega,by have:=h.f;omega,λf hf=>by
 have:=h.fs f hf;have:=Src.IG f.body;exact⟨⟨a7,a7⟩,a7,b f hf⟩⟩
def Ld{o:cF}(p:Src.Prog)(hp:Sm p)(i:∀f∈p.funcs,Src.pR f.body):bP Tryz.prog 1 o 16 [bS p] (·=iv .i64 (Src.aX p:Nat)):=by
 refine hdG Tryz.func16 rfl [.tmp 2] λO bn s0 w0 g=>?_;obtain⟨X,a⟩:∃X,Src.aX p=X:=⟨_,rfl⟩
 rw[a];unfold Src.aX at a;have hR:=HO p (hp.inP i);have hT:=HH p hp;have d:=λh=>HF (o:=o) p hp h;rw[bK]at hR hT d|-;simp only[go_sem];refine ip rfl Xo ?_;rintro _ rfl;cases V:Src.dX p
 .rw[l8 V]at a
  subst a;exact hx
 rw[j8 (by rw[V];decide)]at a;have U:1<=z p.funcs:=by unfold Src.dX at V;simp at V;exact V.1.1.1
 simp only[go_sem];refine cG rfl (by simp only[go_sem];exact d U) ?_;rintro _ rfl;by_cases b:Src.iZ p=0
 .rw[j8 (by simp[b])]at a
  subst a;simp only[go_sem,b];refine ip rfl VT ?_;rintro _ rfl;exact hx
 .rw[l8 b]at a
  subst a;have e:¬(Src.iZ p:Int)=0:=a7;simp only[go_sem,e]
end
end
end Go.Proofs.YtlacbjnmkhndiaaGreatDoor
namespace Go.Src
section
attribute [local congr] Go.Am.ite_cc
def uF(p:Prog):Bool:=(p.funcs.all λf=>decide (z f.params+z f.locals<=40))&&(decide ((p.arrays.map (·.2)).sum<=4096)&&(decide (z p.vars<=40)&&decide (z p.vars+z p.arrays+z p.funcs+(p.funcs.map λf=>z f.params+z f.locals+aD f.body).sum<=200)))
end
end Go.Src
namespace Go.Proofs.YtlacbjnmkhndiaaGreatDoor
section
open Go Go.Am Go.Asm
open Go.Src (Ex Stm szE bc szS aD)
attribute[local congr]ite_cc
def xC:∀(al:Nat)(l:List Ex),bc l<=al->al<=1000000000->ax Tryz.prog 102 [eb l] (·=iv .i64 (bc l:Nat)):=by
 intro al
 induction al using Nat.strongRecOn with
 |ind al w=>
 intro l y i;refine hdP Tryz.func102 rfl [2] λg=>?_;have bl:=Src.IF l;unfold eb;simp only[go_sem,j6];refine dD (λk K=>∃c:Nat,c+bc (l.drop k)=bc l+z (l.drop k)/\K.f 0=.one (.d (.sl (l.map exD)))/\K.f 3=iv .i64 (c:Nat)/\K.f 4=iv .i64 k) (z l) ⟨z l,by simp;omega,?_⟩ ?_
 .exact hx
 rintro k f A E hk ⟨c,Z,q0,p,o⟩;simp only at q0 p o;have x:=ac (k:=k) a7;by_cases u:k<z l
 case neg=>
  have Q:¬(k:Int)<(z l:Int):=a7;rw[y9 a7,bc]at Z;have Z:c=bc l:=by simpa using Z
  simp only[go_sem,q0,p,o,Q,j6,Z]
 have Q:(k:Int)<(z l:Int):=a7;obtain⟨e,t⟩:=getq u;have az:=Src.LU (l6 t);have v:=getD_at (f:=exD) t;obtain⟨kind,op,num,name,a⟩:=e;rw[de t,bc,szE,j9]at Z;rw[szE]at az;have I:exD (.mk kind op num name a)=[.int .i64 kind,.int .i64 op,.int .u32 num,.str name,.sl (a.map exD)]:=by simp only[exD,aK]
 rw[I]at v;have J:=w (bc a) a7 a (l7 _) a7;have X:=Src.IF (l.drop (k+1));have b:IntKind.i64.wrap ((c:Int)+(bc a:Nat))=((c+bc a:Nat):Int):=by rw[wrap_i64]<;>omega
 unfold eb at J;simp only[go_sem,q0,p,o,Q,j6,v];refine bJ rfl (by simp only[go_sem];exact J) ?_;rintro _ rfl;simp only[go_sem,b,o,x];refine bN u ⟨c+bc a,a7,?_⟩;exact UP
def xD:∀(al:Nat)(l:List Stm),aD l<=al->al<=1000000000->ax Tryz.prog 67 [eS l] (·=iv .i64 (aD l:Nat)):=by
 intro al
 induction al using Nat.strongRecOn with
 |ind al u=>
 intro l H i;refine hdP Tryz.func67 rfl [2] λg=>?_;have bl:=Src.IG l;unfold eS;simp only[go_sem,j6];refine dD (λk K=>∃c:Nat,c+aD (l.drop k)=aD l+z (l.drop k)/\K.f 0=.one (.d (.sl (l.map smD)))/\K.f 3=iv .i64 (c:Nat)/\K.f 4=iv .i64 k) (z l) ⟨z l,by simp;omega,?_⟩ ?_
 .exact hx
 rintro k f L O U ⟨c,Z,q0,p,o⟩;simp only at q0 p o;have A:=ac (k:=k) a7;by_cases v:k<z l
 case neg=>
  have Q:¬(k:Int)<(z l:Int):=a7;rw[y9 a7,aD]at Z;have Z:c=aD l:=by simpa using Z
  simp only[go_sem,q0,p,o,Q,j6,Z]
 have Q:(k:Int)<(z l:Int):=a7;obtain⟨e,t⟩:=getq v;have az:=Src.LV (l6 t);have r:=getD_at (f:=smD) t;obtain⟨kind,name,e,a,el⟩:=e;rw[de t,aD,szS,j9]at Z;rw[szS]at az;have I:smD (.mk kind name e a el)=[.int .i64 kind,.str name,.sl (e.map exD),.sl (a.map smD),.sl (el.map smD)]:=by simp only[smD,aK,dQ]
 rw[I]at r;have w:=xC (bc e) e (l7 _) a7;have x:=u (aD a) a7 a (l7 _) a7;have y:=u (aD el) a7 el (l7 _) a7;have X:=Src.IG (l.drop (k+1));have a1:IntKind.i64.wrap ((c:Int)+(bc e:Nat))=((c+bc e:Nat):Int):=by rw[wrap_i64]<;>omega
 have G:IntKind.i64.wrap (((c+bc e:Nat):Int)+(aD a:Nat))=((c+bc e+aD a:Nat):Int):=by rw[wrap_i64]<;>omega
 have E:IntKind.i64.wrap (((c+bc e+aD a:Nat):Int)+(aD el:Nat))=((c+bc e+aD a+aD el:Nat):Int):=by rw[wrap_i64]<;>omega
 unfold eb at w;unfold eS at x y;simp only[go_sem,q0,p,o,Q,j6];refine cO aA mixed c8 ?_;simp only[go_sem,q0,p,o,Q,r];refine aP rfl w WT rfl ?_;simp only[go_sem,q0,o,Q,r,a1];refine aP rfl x WT rfl ?_;simp only[go_sem,q0,o,Q,r,G];refine aP rfl y WT rfl ?_;simp only[go_sem,E,o,A];refine bN v ⟨c+bc e+aD a+aD el,a7,?_⟩;exact UP
def lk(p:Src.Prog):szP p=z p.vars+z p.arrays+z p.funcs+(p.funcs.map λf=>z f.params+z f.locals+aD f.body).sum:=rfl
def HI{f:Src.Fn->Nat}{l:List Src.Fn}{k:Nat}{x:Src.Fn}(h:l[k]?=S x):((l.drop k).map f).sum=f x+((l.drop (k+1)).map f).sum:=by rw[de h,l9,D9]
def Pc(p:Src.Prog)(i:szP p<=1000000):ax Tryz.prog 42 [bS p] (·=iv .i64 (szP p:Nat)):=by
 refine hdP Tryz.func42 rfl [2] λg=>?_;rw[lk]at i|-;obtain⟨X,l⟩:∃X,z p.vars+z p.arrays+z p.funcs+(p.funcs.map λf=>z f.params+z f.locals+aD f.body).sum=X:=⟨_,rfl⟩
 rw[l]at i|-;have v:IntKind.i64.wrap ((z p.vars:Int)+(z p.arrays:Int))=((z p.vars+z p.arrays:Nat):Int):=by rw[wrap_i64]<;>omega
 have b2:IntKind.i64.wrap (((z p.vars+z p.arrays:Nat):Int)+(z p.funcs:Int))=((z p.vars+z p.arrays+z p.funcs:Nat):Int):=by rw[wrap_i64]<;>omega
 rw[bK];simp only[go_sem,j6,v,b2];refine dD (λk K=>∃c:Nat,c+((p.funcs.drop k).map λf=>z f.params+z f.locals+aD f.body).sum=X/\K.f 1=.one (.ptr 1 (K.gen 1) 0)/\K.obj 1=S [.d (.sl (p.vars.map λs=>[.str s])),.d (.sl (p.arrays.map arD)),.d (.sl (p.funcs.map fnD))]/\K.f 3=iv .i64 (c:Nat)/\K.f 4=iv .i64 k) (z p.funcs) ⟨_,l,?_⟩ ?_
 .exact hx
 rintro k f A G H ⟨c,Z,q1,o1,e,a⟩;simp only at q1 o1 e a;have w:=ac (k:=k) a7;by_cases o:k<z p.funcs
 case neg=>
  have Q:¬(k:Int)<(z p.funcs:Int):=a7;rw[y9 a7]at Z;have Z:c=X:=by simpa using Z
  simp only[go_sem,q1,o1,e,a,Q,j6,Z]
 have Q:(k:Int)<(z p.funcs:Int):=a7;obtain⟨fn,r⟩:=getq o;have t:=getD_at (f:=fnD) r;have x:fnD fn=[.str fn.name,.sl (fn.params.map λs=>[.str s]),.sl (fn.locals.map λs=>[.str s]),.bool fn.word,.sl (fn.body.map smD)]:=rfl;rw[x]at t;rw[HI r]at Z;have u:=xD (aD fn.body) fn.body (l7 _) a7;unfold eS at u;have a1:IntKind.i64.wrap ((c:Int)+(z fn.params:Int))=((c+z fn.params:Nat):Int):=by rw[wrap_i64]<;>omega
 have y:IntKind.i64.wrap (((c+z fn.params:Nat):Int)+(z fn.locals:Int))=((c+z fn.params+z fn.locals:Nat):Int):=by rw[wrap_i64]<;>omega
 have E:IntKind.i64.wrap (((c+z fn.params+z fn.locals:Nat):Int)+(aD fn.body:Nat))=((c+z fn.params+z fn.locals+aD fn.body:Nat):Int):=by rw[wrap_i64]<;>omega
 simp only[go_sem,q1,o1,e,a,Q,j6];refine cO aA mixed c8 ?_;simp only[go_sem,q1,o1,e,a,Q,t,j6,a1,y];refine aP rfl u WT rfl ?_;simp only[go_sem,E,a,w];refine bN o ⟨c+z fn.params+z fn.locals+aD fn.body,a7,?_⟩;exact SW
def Eu{l:List (Str×Int)}{k:Nat}{x:Str×Int}(h:l[k]?=S x):((l.drop k).map (·.2)).sum=x.2+((l.drop (k+1)).map (·.2)).sum:=by rw[de h,l9,D9]
def HJ:∀{l:List (Str×Int)},(∀a∈l,0<=a.2)->0<=(l.map (·.2)).sum
 |[],_=>by simp
 |a::l,h=>by
   have:=HJ (l:=l) λx I=>h x We;have:=h a a8;simp only[l9,D9];omega
def Le(p:Src.Prog)(hp:szP p<=1000000)(L:∀a∈p.arrays,0<=a.2)(i:(p.arrays.map (·.2)).sum<=1000000000000):ax Tryz.prog 17 [bS p] (·=bv (Src.uF p)):=by
 refine hdP Tryz.func17 rfl [2] λg=>?_;have hS:=Pc p hp;rw[lk]at hp hS;obtain⟨X,o⟩:∃X,Src.uF p=X:=⟨_,rfl⟩
 rw[o];unfold Src.uF at o;obtain⟨al,O⟩:∃al,z p.vars+z p.arrays+z p.funcs+(p.funcs.map λf=>z f.params+z f.locals+aD f.body).sum=al:=⟨_,rfl⟩
 rw[O]at o hp hS;obtain⟨W,hW⟩:∃W,(p.arrays.map (·.2)).sum=W:=⟨_,rfl⟩
 rw[hW]at o i;rw[bK]at hS|-;simp only[go_sem];refine dD (λk K=>∃c:Int,c+((p.arrays.drop k).map (·.2)).sum=W/\0<=c/\K.f 1=.one (.ptr 1 (K.gen 1) 0)/\K.obj 1=S [.d (.sl (p.vars.map λs=>[.str s])),.d (.sl (p.arrays.map arD)),.d (.sl (p.funcs.map fnD))]/\K.f 3=iv .i64 c/\K.f 4=iv .i64 k) (z p.arrays) ⟨0,by simpa using hW,b9,?_⟩ ?_
 .exact hx
 rintro k f Y av hk ⟨c,Z,bd,q1,o1,t,G⟩;simp only at q1 o1 t G;have H:=ac (k:=k) a7;by_cases w:k<z p.arrays
 .have Q:(k:Int)<(z p.arrays:Int):=a7
  obtain⟨a,u⟩:=getq w;have y:=getD_at (f:=arD) u;have A:arD a=[.str a.1,.int .i64 a.2]:=rfl;rw[A]at y;rw[Eu u]at Z;have h0:=L a (l6 u);have U:=HJ (l:=p.arrays.drop (k+1)) λx I=>L x (L9 I);have b:IntKind.i64.wrap (c+a.2)=c+a.2:=wrap_i64 _ a7 a7;simp only[go_sem,q1,o1,t,G,Q,j6,y,b,H];refine bN w ⟨c+a.2,a7,a7,?_⟩;exact SW
 have Q:¬(k:Int)<(z p.arrays:Int):=a7;rw[y9 a7]at Z;have Z:c=W:=by simpa using Z
 subst Z;clear hk w H;simp only[go_sem,q1,o1,t,G,Q,j6];obtain⟨r,V⟩:∃r,(p.funcs.all λf=>decide (z f.params+z f.locals<=40))=r:=⟨_,rfl⟩
 rw[V]at o;refine dD (λk K=>((p.funcs.drop k).all λf=>decide (z f.params+z f.locals<=40))=r/\K.f 1=.one (.ptr 1 (K.gen 1) 0)/\K.obj 1=S [.d (.sl (p.vars.map λs=>[.str s])),.d (.sl (p.arrays.map arD)),.d (.sl (p.funcs.map fnD))]/\K.f 3=iv .i64 c/\K.f 5=iv .i64 k) (z p.funcs) ⟨V,?_⟩ ?_
 .simp only[go_sem,q1,o1,t]
 clear Q q1 o1 t G;rintro k f Y av hk ⟨hd,q1,o1,t,v⟩;simp only at q1 o1 t v;have H:=ac (k:=k) a7;by_cases w:k<z p.funcs
 .have Q:(k:Int)<(z p.funcs:Int):=a7
  obtain⟨fn,u⟩:=getq w;have y:=getD_at (f:=fnD) u;have a6:fnD fn=[.str fn.name,.sl (fn.params.map λs=>[.str s]),.sl (fn.locals.map λs=>[.str s]),.bool fn.word,.sl (fn.body.map smD)]:=rfl;rw[a6]at y;obtain⟨U,h2⟩:=cQ hd u;have hm:=kf (l6 u);rw[lk,O]at hm;have b:IntKind.i64.wrap ((z fn.params:Int)+(z fn.locals:Int))=((z fn.params+z fn.locals:Nat):Int):=by rw[wrap_i64]<;>omega
  simp only[go_sem,q1,o1,v,Q,j6];refine jn c8 ?_;by_cases j:(40:Int)<((z fn.params+z fn.locals:Nat):Int)
  .obtain rfl:X=F:=by rw[<-o,h2 (A4 a7)];rfl
   simp only[go_sem,q1,o1,v,Q,y,j6,b,j]
  .simp only[go_sem,q1,o1,v,Q,y,j6,b,j,H]
   refine bN w ⟨U (C9 a7),?_⟩;simp only[go_sem,q1,o1,t]
 have Q:¬(k:Int)<(z p.funcs:Int):=a7;rw[y9 a7]at hd;rw[show r=T from hd.symm,x6]at o;by_cases E:c<=4096
 case neg=>
  obtain rfl:X=F:=by rw[<-o,A4 E];rfl
  simp only[go_sem,q1,o1,t,v,Q,j6,E]
 rw[C9 E,x6]at o;by_cases hv:(z p.vars:Int)<=40
 case neg=>
  obtain rfl:X=F:=by rw[<-o,A4 (show ¬z p.vars<=40 by omega)];rfl
  simp only[go_sem,q1,o1,t,v,Q,j6,E,hv]
 rw[C9 (show z p.vars<=40 by omega),x6]at o;simp only[go_sem,q1,o1,t,v,Q,j6,E,hv];refine bJ rfl W0 ?_;rintro _ rfl;have e:decide ((al:Int)<=200)=X:=by rw[<-o];congr 1;exact propext ⟨λh=>by omega,λh=>by omega⟩
 simp only[go_sem,e]
end
end Go.Proofs.YtlacbjnmkhndiaaGreatDoor
namespace Go.Src
section
open Go.Asm (Str)
open Go.Mach (applyN)
structure Sg where
 out:Str
 rd:Nat
 tk:Nat
def Sg.tick(G:Sg):Sg:=⟨G.out,G.rd,G.tk+1⟩
def yz(inp:Str)(k:Nat):Nat:=match inp[k]? with|some x=>x.toNat|none=>256
def vV(inp:Str)(k:Nat):Nat:=match inp[k]? with|some _=>k+1|none=>k
end
end Go.Src
namespace Go.Proofs.YtlacbjnmkhndiaaGreatDoor
section
open Go Go.Am Go.Asm
open Go.Src (aL iB ea du)
attribute[local congr]ite_cc
section
def HT(f:FuncId)(xs:List AV)(v:AV):Prop:=
 ∀(B:Nat)(g:Nat->Nat)(a:Obs),(∀i,B<=i->a i=N)->fX Tryz.prog f xs g a (λr b Y=>r=v/\b=g/\Y=a)
variable{s:St}{B:Nat}
section
variable{O:Bs}{rd:Option Nat}{c:St->Am.Loc->List Deferred->World->Prop}
def oU(a6:aY O c){o:Oper}{K:St->Prop}{k:Box K}{f:FuncId}{args:Array Operand}{tys:Array TypeId}(ho:o.op=.call ⟨.value (.func f),args,tys⟩){xs:List AV}{v:AV}(h:HT f xs v)
 (I:args.toList.map s.ev=xs)(bk:∀i,B<=i->s.obj i=N){a:Nat}{b:ff}(d:K (St.put s o.dst v)):bm (spF Tryz.prog rd O c a b) o s k:=
 dj a6 ho (by rw[I];exact h B s.gen s.obj bk) (by rintro _ _ _ ⟨rfl,rfl,rfl⟩;exact d)
end
def rU{g:Nat->Nat}{ob:Obs}{j rs:List AV}{v:AV}(hf:dY B s j rs)(hv:pack rs=v)(h:∀i,i<B->s.gen i=g i/\s.obj i=ob i:=by (intro i hi;constructor<;>((try simp only[upd]);(repeat rw[j8 (by omega)])))):bi B [] g ob (λr g' Y=>r=v/\g'=g/\Y=ob) s j:=
 ⟨⟨λi hi _=>h i hi,λi hi=>(by cases hi)⟩,rs,hf,hv,yn,yo⟩
def qR{a b:Int}:dY B s [iv .i64 a,iv .i64 b] [iv .i64 a,iv .i64 b]:=⟨_,_,rfl,.one (.d _),_,_,rfl,.one (.d _),rfl⟩
def Ln(f:Src.Fn)(U:z f.params<=1000000)(k:z f.locals<=1000000):HT 26 [fnV f] (jh (iB f)):=by
 intro B g ob hf;refine cM.toR (hdM B [] Tryz.func26 rfl [.tmp 2] a8 hf λO bn s0 w0=>?_);rw[uG];simp only[go_sem];refine bY aA mixed aa [B+3] [([],[],[0],F),([1],[0],[],F),([4],[0],[],F),([3,5],[],[0],F),([1],[0],[],F),([7],[0],[],F),([6,8],[],[0],F),([9],[],[],T)] 1 rfl c8 rfl a8 ?_;simp only[go_sem]
 (apply bF;(case hg=>first|exact x9|exact⟨_,rfl,by decide,rfl⟩);(case U=>intro b ga d a J;simp only[go_sem]at J|-;exact J))
 iterate 2 (apply aj;(case hg=>first|exact x9|exact⟨_,rfl,by decide,rfl⟩);(case U=>intro b ga d a J;simp only[go_sem]at J|-;exact J))
 (apply bF;(case hg=>exact x9);(case U=>intro b ga d a J;simp only[go_sem,lN,j6]at J|-;exact⟨nR _,⟨b9,a7⟩,J⟩))
 iterate 2 (apply aj;(case hg=>first|exact x9|exact⟨_,rfl,by decide,rfl⟩);(case U=>intro b ga d a J;simp only[go_sem]at J|-;exact J))
 (apply bF;(case hg=>exact x9);(case U=>intro b ga d a J;simp only[go_sem,lN,j6]at J|-;exact⟨a7,nR _,⟨b9,a7⟩,J⟩))
 refine bZ x9 ?_;intro a e;simp only[go_sem];refine e _ ?_;clear e a;simp only[go_sem];refine⟨_,ae.refl _,?_⟩;simp only[go_sem];exact rU (GZ (l:=iB f) a7 Vy (by simp only[go_sem];simp[iB,jH,s6]) (by simp[iB])) rfl
def uM(p:Src.Prog)(hv:z p.vars<=1000000)(o:z p.arrays<=1000000)(hf:z p.funcs<=1000000)(i:Nat)(fn:Src.Fn)(hi:p.funcs[i]?=S fn)(U:z fn.params<=1000000)(q:z fn.locals<=1000000)(s:Str):
  HT 97 [bS p,iv .i64 i,sv s] (.tup [iv .i64 (du p fn s).1,iv .i64 (du p fn s).2]):=by
 intro B g ob ar;refine cM.toR (hdM B [] Tryz.func97 rfl [.tmp 6,.tmp 7] a8 ar λO bn s0 w0=>?_);have x:=(l5.1 hi).1;have h:(i:Int)<(z p.funcs:Int):=a7;have l:=getD_at (f:=fnD) hi;have t:fnD fn=[.str fn.name,.sl (fn.params.map λs=>[.str s]),.sl (fn.locals.map λs=>[.str s]),.bool fn.word,.sl (fn.body.map smD)]:=rfl;rw[t]at l;have n:=Ln fn U q;have y:z (iB fn)<=2000000:=by simp[iB];omega
 have az:z (ea p)<=3000000:=by simp[ea];omega
 have hG:=rR p hv o hf;rw[uG]at n;rw[bK]at hG|-;simp only[go_sem,h,j6,l];refine oU aa rfl n Vy (B:=B+58) (λi hi=>by (try simp only[upd]);(repeat rw[j8 (by omega)]);exact ar i (by omega)) ?_;simp only[go_sem];refine DH rfl (by simp only[go_sem];exact qM (iB fn) s a7) ?_;rintro _ rfl;unfold du;obtain⟨k,hk⟩:∃k,aL 0 (iB fn) s=k:=⟨_,rfl⟩
 rw[hk];by_cases d:0<=k
 .simp only[go_sem,d]
  exact Lm
 rw[j8 d];simp only[go_sem,d];refine DH rfl Xq ?_;rintro _ rfl;simp only[go_sem];refine DH rfl (by simp only[go_sem];exact qM (ea p) s a7) ?_;rintro _ rfl;have u:=Src.iM (ea p) 0 s;obtain⟨k,hk⟩:∃k,aL 0 (ea p) s=k:=⟨_,rfl⟩
 rw[hk]at u|-;by_cases hn:k<0
 .simp only[go_sem,hn]
  exact Lm
 by_cases a:k<(z p.vars:Int)
 .simp only[go_sem,hn,a,j6]
  exact Lm
 have e:IntKind.i64.wrap (k-(z p.vars:Int))=k-z p.vars:=wrap_i64 _ a7 a7;by_cases b:k-(z p.vars:Int)<(z p.arrays:Int)
 .simp only[go_sem,hn,a,j6,e,b]
  exact Lm
 have w:IntKind.i64.wrap (k-(z p.vars:Int)-(z p.arrays:Int))=k-z p.vars-z p.arrays:=wrap_i64 _ a7 a7;simp only[go_sem,hn,a,j6,e,b];refine aF c8 ?_;simp only[go_sem,e,w,j6];refine⟨_,ae.refl _,?_⟩;simp only[go_sem];exact rU (qR) (by rw[j8 hn,j8 a,j8 b];rfl)
end
end
end Go.Proofs.YtlacbjnmkhndiaaGreatDoor

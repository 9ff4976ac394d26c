/- A part of the proof; no conditions. -/
import Derived.Test.YtednjibjomfhfaaGreatDoorPart17
import Derived.Shelf.Strconv.Itoa3
import Derived.Shelf.Strings.OnBuilder
import Derived.Test.YtednjibjomfhfaaGreatDoorProg
import Derived.Lib.Join
import Derived.Lib.LaidTab
import Derived.Lib.LaidU8
import Derived.OpenShut
import Derived.Laws.IdiomArrays
import Derived.Test.YtednjibjomfhfaaGreatDoorTie
import Derived.Test.YtednjibjomfhfaaGreatDoorCards
set_option linter.all false
open List renaming length -> z
open Option renaming some -> S, none -> N
open Bool renaming true -> T, false -> F
set_option maxHeartbeats 64000000
set_option maxRecDepth 100000
namespace Go.Proofs.YtednjibjomfhfaaGreatDoor
section
open Go Go.Am Go.Asm
open Go.Src (Ex Stm szE aH szS aE inE rN inS qM nR dN nS ee)
attribute[local congr]ite_cc
def dn(p:Src.Prog):cn p=.agg [.d (.sl (p.vars.map λs=>[.str s])),.d (.sl (p.arrays.map arD)),.d (.sl (p.funcs.map fnD))]:=rfl
def Vf(p:Src.Prog)(hp:Src.InP p)(i:Int)(hm:0<=i/\i<=1000000):aF Tryz.prog 12 [cn p,iv .i64 i] (·=bv (Src.Ve p i)):=by
 refine hdP Tryz.func12 rfl [4] λg=>?_;obtain⟨X,G⟩:∃X,Src.Ve p i=X:=⟨_,rfl⟩
 rw[G];obtain⟨pv,pa,pf,w⟩:=hp;unfold Src.Ve at G;rw[dn];simp only[go_sem];refine bT rfl (by simp only[go_sem];exact zo p.vars pv) ?_;rintro _ rfl;cases I:Src.Dz p.vars
 .obtain rfl:X=F:=by rw[<-G,I];rfl
  exact hG
 by_cases ha:200<(z p.arrays:Int)
 .obtain rfl:X=F:=by rw[<-G,I,show decide (z p.arrays<=200)=F from z7 a6];rfl
  simp only[go_sem,j5,ha]
 by_cases hf:70<(z p.funcs:Int)
 .obtain rfl:X=F:=by rw[<-G,I,show decide (z p.funcs<=70)=F from z7 a6,C3];rfl
  simp only[go_sem,j5,ha,hf]
 rw[I,show decide (z p.funcs<=70)=T from B3 a6,show decide (z p.arrays<=200)=T from B3 a6,j8 a7]at G;have b':IntKind.i64.wrap (i-(z p.vars:Int))=i-z p.vars:=wrap_i64 _ a6 a6;have ch:IntKind.i64.wrap (i-(z p.vars:Int)-(z p.arrays:Int))=i-z p.vars-z p.arrays:=wrap_i64 _ a6 a6;obtain⟨left,b⟩:∃x:Int,i-(z p.vars:Int)-(z p.arrays:Int)-(z p.funcs:Int)=x:=⟨_,rfl⟩
 rw[b]at G;have l:IntKind.i64.wrap (i-(z p.vars:Int)-(z p.arrays:Int)-(z p.funcs:Int))=left:=by rw[b];exact wrap_i64 _ a6 a6
 have m:-2000000000000000000<=left/\left<=1000000:=a6;obtain⟨ga,j⟩:∃y,(p.arrays.all λa=>decide ((z a.1:Int)<=60))=y:=⟨_,rfl⟩
 simp only[go_sem,j5,ha,hf,b',ch,l];refine dF (λk K=>((p.arrays.drop k).all λa=>decide ((z a.1:Int)<=60))=ga/\K.f 2=.one (.ptr 2 (K.gen 2) 0)/\K.obj 2=S [.d (.sl (p.vars.map λs=>[.str s])),.d (.sl (p.arrays.map arD)),.d (.sl (p.funcs.map fnD))]/\K.f 5=iv .i64 left/\K.f 6=iv .i64 k) (z p.arrays) ⟨j,?_⟩ ?_
 .exact hG
 rintro k f g1 ad hk ⟨t,v,A,O,q6⟩;simp only at v A O q6;have hw:=ab (k:=k) a6;by_cases W:k<z p.arrays
 .have H:(k:Int)<(z p.arrays:Int):=a6
  obtain⟨a,I⟩:=getq W;obtain⟨U,Y⟩:=dG t I;have Z:=getD_at (f:=arD) I;have bk:arD a=[.str a.1,.int .i64 a.2]:=rfl;rw[bk]at Z;by_cases hn:60<(z a.1:Int)
  .have e:=Y (z7 a6)
   rw[e]at j;rw[j,l7 rfl]at G;subst G;simp only[go_sem,v,A,q6,H,j5,Z,hn]
  .simp only[go_sem,v,A,q6,H,j5,Z,hn,hw]
   refine bM W ⟨U (B3 a6),?_⟩;simp only[go_sem,v,A,O]
 have H:¬(k:Int)<(z p.arrays:Int):=a6;rw[y2 a6]at t;have e:ga=T:=t.symm;rw[e]at j;rw[j,j8 a7]at G;clear t hk W e j hw;simp only[go_sem,v,A,q6,H,j5];refine dF (λk K=>∃c:Int,(match Src.Nw c (p.funcs.drop k)with|some n=>decide (0<=n)|none=>F)=X/\(-3000000000000000000<=c/\c<=1000000)/\(0<=c\/-2000000000000000000-400*(k:Int)<=c)/\K.f 2=.one (.ptr 2 (K.gen 2) 0)/\K.obj 2=S [.d (.sl (p.vars.map λs=>[.str s])),.d (.sl (p.arrays.map arD)),.d (.sl (p.funcs.map fnD))]/\K.f 5=iv .i64 c/\K.f 7=iv .i64 k) (z p.funcs) ⟨left,G,a6,a6,?_⟩ ?_
 .simp only[go_sem,v,O,A]
 clear H v A O q6;rintro k f g1 ad hk ⟨c,t,r,b4,v,A,O,q7⟩;simp only at v A O q7;have hw:=ab (k:=k) a6;by_cases W:k<z p.funcs
 case neg=>
  have H:¬(k:Int)<(z p.funcs:Int):=a6;rw[y2 a6]at t;simp only[Src.Nw]at t;simp only[go_sem,v,A,O,q7,H,j5,t]
 have H:(k:Int)<(z p.funcs:Int):=a6;obtain⟨fn,I⟩:=getq W;have Z:=getD_at (f:=fnD) I;have a':fnD fn=[.str fn.name,.sl (fn.params.map λs=>[.str s]),.sl (fn.locals.map λs=>[.str s]),.bool fn.word,.sl (fn.body.map smD)]:=rfl;rw[a']at Z;obtain⟨⟨i1,u⟩,i3,o⟩:=w fn (l5 I);rw[eH I,Src.Nw]at t;simp only[go_sem,v,A,q7,H,j5,Z];refine bT rfl (by simp only[go_sem];exact zo fn.params i1) ?_;rintro _ rfl;cases U:Src.Dz fn.params
 .obtain rfl:X=F:=by rw[<-t,U];rfl
  exact hG
 simp only[go_sem];refine bT rfl (by simp only[go_sem];exact zo fn.locals u) ?_;rintro _ rfl;cases Y:Src.Dz fn.locals
 .obtain rfl:X=F:=by rw[<-t,U,Y];rfl
  exact hG
 by_cases hn:60<(z fn.name:Int)
 .obtain rfl:X=F:=by rw[<-t,U,Y,z7 (show ¬(z fn.name:Int)<=60 by omega)];rfl
  simp only[go_sem,hn]
 rw[U,Y,B3 (show (z fn.name:Int)<=60 by omega),l7 a7]at t;have q:z fn.params<=200:=by unfold Src.Dz at U;simp only[l4,s7]at U;exact U.1
 have J:z fn.locals<=200:=by unfold Src.Dz at Y;simp only[l4,s7]at Y;exact Y.1
 have b':IntKind.i64.wrap (c-(z fn.params:Int))=c-z fn.params:=wrap_i64 _ a6 a6;have ch:IntKind.i64.wrap (c-(z fn.params:Int)-(z fn.locals:Int))=c-z fn.params-z fn.locals:=wrap_i64 _ a6 a6;simp only[go_sem,hn,O,j5,b',ch];have b1:=Src.pT fn.body (c-z fn.params-z fn.locals) 60;have b2:c-z fn.params-z fn.locals<0->ee fn.body (c-z fn.params-z fn.locals) 60=c-z fn.params-z fn.locals:=λh=>Src.nv h _;have B:=Src.td fn.body (c-z fn.params-z fn.locals) 60;refine bT rfl (by simp only[go_sem,b',ch];exact Bq (aE fn.body) fn.body _ 60 (l0 _) i3 o a6 a7) ?_;rintro _ rfl;simp only[go_sem,q7,hw];refine bM W ⟨_,t,a6,a6,?_⟩;simp only[go_sem,v,A]
end
section
open Go Go.Am Go.Asm
open Go.Src (aN gW)
attribute[local congr]ite_cc
def Jy(c:UInt8):aF Tryz.prog 172 [iv .u8 c.toNat] (·=bv (digit c)):=by
 refine hdP Tryz.func172 rfl [2] λg=>?_;simp only[go_sem];have e:=@sN c;cases a:digit c<;>rw[a]at e<;>simp at e<;>((repeat' (first|refine⟨?_,?_⟩|intro _))<;>(first|rfl|(exfalso;omega)|(simp;omega)))
def xV(c:UInt8):aF Tryz.prog 169 [iv .u8 c.toNat] (·=bv (letter c)):=by
 refine hdP Tryz.func169 rfl [2] λg=>?_;simp only[go_sem];have e:=@vM c;cases a:letter c<;>rw[a]at e<;>simp at e<;>((repeat' (first|refine⟨?_,?_⟩|intro _))<;>(first|rfl|(exfalso;omega)|(simp;omega)))
def Jz:aF Tryz.prog 171 [] (·=ko gW):=by
 refine hdP Tryz.func171 rfl [0] λg=>?_;simp only[go_sem];exact⟨_,⟨_,rG (L:=gW) rfl rfl rfl,rfl⟩,rfl⟩
def JA:aF Tryz.prog 96 [] (·=ko gW):=by
 refine hdP Tryz.func96 rfl [0] λg=>?_;simp only[go_sem];exact⟨_,⟨_,rG (L:=gW) rfl rfl rfl,rfl⟩,rfl⟩
def JB{l:List Str}{k:Nat}{s x:Str}{X:Bool}(h:decide (s∈l.drop k)=X)(I:l[k]?=S x):(x=s->X=T)/\(x≠s->decide (s∈l.drop (k+1))=X):=by
 rw[eH I]at h;constructor
 .rintro rfl;rw[<-h];simp
 .intro e;rw[<-h];simp[A9 e]
def XF(l:List Str)(s:Str)(hl:z l<=1000000000000000000):aF Tryz.prog 170 [ko l,sv s] (·=bv (decide (s∈l))):=by
 refine hdP Tryz.func170 rfl [4] λg=>?_;obtain⟨X,m⟩:∃X,decide (s∈l)=X:=⟨_,rfl⟩
 rw[m];unfold ko;simp only[go_sem];refine dF (λk K=>decide (s∈l.drop k)=X/\K.f 0=.one (.d (.sl (l.map λs=>[.str s])))/\K.f 1=sv s/\K.f 5=iv .i64 k) (z l) ⟨m,?_⟩ ?_
 .exact hG
 rintro k f u v w ⟨j,a,e,i⟩;simp only at a e i;have t:=ab (k:=k) a6;by_cases o:k<z l
 case neg=>
  have H:¬(k:Int)<(z l:Int):=a6;rw[y2 a6]at j;obtain rfl:X=F:=by rw[<-j];rfl
  simp only[go_sem,a,i,H,j5]
 have H:(k:Int)<(z l:Int):=a6;obtain⟨x,I⟩:=getq o;obtain⟨U,Y⟩:=JB j I;have r:=getD_at (f:=λs:Str=>[D.str s]) I;by_cases hn:x=s
 .obtain rfl:=U hn
  simp only[go_sem,a,e,i,H,j5,r,hn]
 .simp only[go_sem,a,e,i,H,j5,r,hn,t]
  refine bM o ⟨Y hn,?_⟩;simp only[go_sem,a,e]
def qO(s:Str):aN s=T↔s≠[]/\z s<=20/\s.head?.any letter=T/\s.all dP=T/\s∉gW:=by
 have e:s.takeWhile dP=s↔s.all dP=T:=by
  induction s with
  |nil=>simp
  |cons a s b=>rw[G0,C4];cases h:dP a<;>simp[b]
 unfold aN;rw[s7,e]
def Nx(s:Str):aF Tryz.prog 97 [sv s] (·=bv (aN s)):=by
 refine hdP Tryz.func97 rfl [2] λg=>?_;obtain⟨X,t⟩:∃X,aN s=X:=⟨_,rfl⟩
 rw[t]
 have u:∀h:¬(s≠[]/\z s<=20/\s.head?.any letter=T/\s.all dP=T/\s∉gW),X=F:=λh=>by
  cases X
  .rfl
  .exact absurd ((qO s).1 t) h
 by_cases l:s=[]
 .obtain rfl:=u λh=>h.1 l
  simp only[go_sem,l]
 have bk:¬(z s:Int)=0:=λe=>l (r0 a6);by_cases O:20<(z s:Int)
 .obtain rfl:=u λh=>by have:=h.2.1;omega
  simp only[go_sem,bk,O]
 obtain⟨c,w⟩:∃c,s[0]?=S c:=getq a6;have b:s.head?=S c:=by rw[<-w,SO]
 simp only[go_sem,bk,O,w];refine bT rfl (by simp only[go_sem];exact xV c) ?_;rintro _ rfl;cases m:letter c
 .obtain rfl:=u λh=>by have:=h.2.2.1;rw[b]at this;simp[m]at this
  exact hG
 simp only[go_sem];refine bT rfl (by simp only[go_sem];exact Jz) ?_;rintro _ rfl;simp only[go_sem];refine bT rfl (by simp only[go_sem];exact XF gW s a7) ?_;rintro _ rfl;by_cases o:s∈gW
 .obtain rfl:=u λh=>h.2.2.2.2 o
  simp only[go_sem,o,R1]
 simp only[go_sem,o,K7];obtain⟨y,A⟩:∃y,s.all dP=y:=⟨_,rfl⟩
 have i:X=y:=by
  cases W:X
  .cases d:y
   .rfl
   .rw[W]at t;rw[d]at A
    have:=(qO s).2 ⟨l,a6,by rw[b];simp[m],A,o⟩;rw[this]at t;cases t
  .rw[W]at t
   rw[<-A,((qO s).1 t).2.2.2.1]
 rw[i];clear t u i o m;refine dF (λk K=>(s.drop k).all dP=y/\K.f 0=sv s/\K.f 3=iv .i64 k) (z s) ⟨A,?_⟩ ?_
 .exact hG
 rintro k f Z ad hk ⟨w,q0,v⟩;simp only at q0 v;have o:=ab (k:=k) a6;by_cases G:k<z s
 case neg=>
  have H:¬(k:Int)<(z s:Int):=a6;rw[y2 a6]at w;obtain rfl:y=T:=w.symm;simp only[go_sem,q0,v,H]
 have H:(k:Int)<(z s:Int):=a6;obtain⟨x,I⟩:=getq G;obtain⟨U,Y⟩:=dG w I;simp only[go_sem,q0,v,H,I];refine bT rfl (by simp only[go_sem];exact xV x) ?_;rintro _ rfl;cases j:letter x
 .simp only[go_sem,q0,v,I]
  refine bT rfl (by simp only[go_sem];exact Jy x) ?_;rintro _ rfl;cases n:digit x
  .by_cases a:(x.toNat:Int)=95
   .have e:dP x=T:=by
     have:x=95:=P0.1 (by show x.toNat=95;omega);simp[dP,this]
    simp only[go_sem,q0,v,I,a,o];refine bM G ⟨U e,?_⟩;exact VX
   .have e:dP x=F:=by
     have:x≠95:=λe=>a (by rw[e];rfl);simp[dP,j,n,this]
    obtain rfl:=Y e;simp only[go_sem,q0,v,I,a]
  .simp only[go_sem,v,o]
   refine bM G ⟨U (by simp[dP,n]),?_⟩;exact VX
 .simp only[go_sem,v,o]
  refine bM G ⟨U (by simp[dP,j]),?_⟩;exact VX
def ju(s:Str):aF Tryz.prog 59 [sv s] (·=bv (aN s)):=by
 refine hdP Tryz.func59 rfl [2] λg=>?_;have hn:=Nx s;have u:s∈gW->aN s=F:=λh=>z7 λt=>t.2.2.2.2 h;obtain⟨X,v⟩:∃X,aN s=X:=⟨_,rfl⟩
 rw[v]at hn u|-;simp only[go_sem];refine bT rfl (by simp only[go_sem];exact JA) ?_;rintro _ rfl;unfold ko;simp only[go_sem];refine dF (λk K=>K.f 0=sv s/\K.f 3=.one (.d (.sl (gW.map λs=>[.str s])))/\K.f 4=iv .i64 k) 10 ⟨?_,?_⟩ ?_
 .exact hG
 .exact hG
 rintro k f y A hk ⟨q0,a,e⟩;simp only at q0 a e;have w:=ab (k:=k) a6;have o:((z gW:Nat):Int)=10:=rfl;by_cases j:k<10
 case neg=>
  have H:¬(k:Int)<10:=a6;simp only[go_sem,q0,a,e,H,j5,o];refine bT rfl (by simp only[go_sem];exact hn) ?_;rintro _ rfl;exact hG
 have H:(k:Int)<10:=a6;obtain⟨x,I⟩:=getq (l:=gW) (k:=k) j;have m:=getD_at (f:=λs:Str=>[D.str s]) I;by_cases i:s=x
 .obtain rfl:=u (by rw[i];exact l5 I)
  simp only[go_sem,q0,a,e,H,j5,o,m,i]
 .simp only[go_sem,q0,a,e,H,j5,o,m,i,w]
  refine bM j ⟨?_,?_⟩
  .exact VX
  .simp only[go_sem,a]
def zp(l:List Str)(hl:z l<=1000000000000000000):aF Tryz.prog 58 [ko l] (·=bv (l.all aN)):=by
 refine hdP Tryz.func58 rfl [2] λg=>?_;obtain⟨X,i⟩:∃X,l.all aN=X:=⟨_,rfl⟩
 rw[i];unfold ko;simp only[go_sem];refine dF (λk K=>(l.drop k).all aN=X/\K.f 0=.one (.d (.sl (l.map λs=>[.str s])))/\K.f 3=iv .i64 k) (z l) ⟨i,?_⟩ ?_
 .exact hG
 rintro k f t u hk ⟨e,q0,a⟩;simp only at q0 a;have m:=ab (k:=k) a6;by_cases j:k<z l
 case neg=>
  have H:¬(k:Int)<(z l:Int):=a6;rw[y2 a6]at e;obtain rfl:X=T:=e.symm;simp only[go_sem,q0,a,H,j5]
 have H:(k:Int)<(z l:Int):=a6;obtain⟨s,I⟩:=getq j;obtain⟨U,Y⟩:=dG e I;have o:=getD_at (f:=λs:Str=>[D.str s]) I;simp only[go_sem,q0,a,H,j5,o];refine bT rfl (by simp only[go_sem];exact ju s) ?_;rintro _ rfl;cases hn:aN s
 .obtain rfl:=Y hn
  exact hG
 .simp only[go_sem,a,m]
  refine bM j ⟨U hn,?_⟩;exact VX
end
section
open Go Go.Am Go.Asm
open Go.Src (aN ah bI cR aU Ex szE aH inE rN)
attribute[local congr]ite_cc
def eD:aN []=F:=rfl
def Br(kind op num:Int)(name:Str)(kids:List Ex)(q:Nat)(b:q<=25)(J:q<=24->aF Tryz.prog 173 [dE kids,iv .i64 (q+1:Nat)] (·=bv (aU (q+1) kids))):aF Tryz.prog 213 [exV (.mk kind op num name kids),iv .i64 q] (·=bv (cR q (.mk kind op num name kids))):=by
 refine hdP Tryz.func213 rfl [4] λg=>?_;have A:exV (.mk kind op num name kids)=.agg [.d (.int .i64 kind),.d (.int .i64 op),.d (.int .u32 num),.d (.str name),.d (.sl (kids.map exD))]:=by simp only[exV,exD,aA,l9,v8]
 obtain⟨X,hz⟩:∃X,cR q (.mk kind op num name kids)=X:=⟨_,rfl⟩
 rw[hz,A];rw[cR]at hz;by_cases j:(24:Int)<(q:Int)
 .obtain rfl:X=F:=by rw[<-hz,z7 a6,A0]
  simp only[go_sem,j]
 have a1:q<=24:=a6;have cc:=ab (k:=q) a6;have J:=J a1;unfold dE at J;have hk:kind=1\/kind=2\/kind=3\/kind=4\/kind=5\/kind=6\/kind=7\/kind=8\/kind=9\/(¬kind=1/\¬kind=2/\¬kind=3/\¬kind=4/\¬kind=5/\¬kind=6/\¬kind=7/\¬kind=8/\¬kind=9):=a6;rcases hk with rfl|rfl|rfl|rfl|rfl|rfl|rfl|rfl|rfl|⟨n,o,t,v,w,r,x,y,a⟩
 ·-- 1
  by_cases u:op=0
  case neg=>
   exact mM
  by_cases P:name=[]
  case neg=>
   obtain rfl:X=F:=by rw[<-hz];simp[bI,ah,P]
   simp only[go_sem,j,u,P]
  simp only[go_sem,j,u,P];by_cases c:(z kids:Int)=0
  .obtain rfl:X=T:=by
    have:kids=[]:=r0 a6;rw[<-hz,this];simp[bI,ah,aU,a1,P,u]
   simp only[go_sem,j5,c]
  .exact u1
 ·-- 2
  by_cases u:op=0
  case neg=>
   exact mM
  by_cases i:num=0
  case neg=>
   exact oc
  by_cases P:name=[]
  case pos=>
   exact Uc
  simp only[go_sem,j,u,i,P];refine bT rfl W4 ?_;rintro _ rfl;cases bd:aN name
  .exact U0
  by_cases c:(z kids:Int)=0
  .obtain rfl:X=T:=by
    have:kids=[]:=r0 a6;rw[<-hz,this];simp[bI,ah,aU,a1,bd,i,u]
   simp only[go_sem,j5,c]
  .exact u1
 ·-- 3
  by_cases u:op=0
  case neg=>
   exact mM
  by_cases i:num=0
  case neg=>
   exact oc
  by_cases P:name=[]
  case pos=>
   exact Uc
  simp only[go_sem,j,u,i,P];refine bT rfl W4 ?_;rintro _ rfl;cases bd:aN name
  .exact U0
  by_cases c:(z kids:Int)=1
  case neg=>
   exact UN
  simp only[go_sem,j5,c,cc];refine bT rfl Xy ?_;rintro _ rfl
  obtain rfl:X=aU (q+1) kids:=by
   have:z kids=1:=a6;rw[<-hz];simp[bI,ah,a1,this,bd,i,u]
  exact hG
 ·-- 4
  by_cases u:op=0
  case neg=>
   exact mM
  by_cases i:num=0
  case neg=>
   exact oc
  by_cases P:name=[]
  case pos=>
   exact Uc
  simp only[go_sem,j,u,i,P];refine bT rfl W4 ?_;rintro _ rfl;cases bd:aN name
  .exact U0
  by_cases c:(z kids:Int)<=6
  case neg=>
   obtain rfl:X=F:=by
    have:¬z kids<=6:=a6;rw[<-hz];simp[bI,this]
   simp only[go_sem,j5,c]
  simp only[go_sem,j5,c,cc];refine bT rfl Xy ?_;rintro _ rfl
  obtain rfl:X=aU (q+1) kids:=by
   have:z kids<=6:=a6;rw[<-hz];simp[bI,ah,a1,this,bd,i,u]
  exact hG
 ·-- 5
  by_cases u:op=0
  case neg=>
   exact mM
  by_cases i:num=0
  case neg=>
   exact oc
  by_cases P:name=[]
  case neg=>
   obtain rfl:X=F:=by rw[<-hz];simp[bI,ah,P]
   simp only[go_sem,j,u,i,P]
  simp only[go_sem,j,u,i,P];by_cases c:(z kids:Int)=0
  .obtain rfl:X=T:=by
    have:kids=[]:=r0 a6;rw[<-hz,this];simp[bI,ah,aU,a1,P,i,u]
   simp only[go_sem,j5,c]
  .exact u1
 ·-- 6
  by_cases i:num=0
  case neg=>
   obtain rfl:X=F:=by rw[<-hz];simp[bI,i]
   simp only[go_sem,j,i]
  by_cases P:name=[]
  case neg=>
   obtain rfl:X=F:=by rw[<-hz];simp[bI,ah,P]
   simp only[go_sem,j,i,P]
  simp only[go_sem,j,i,P];by_cases m:4<=op
  case neg=>
   obtain rfl:X=F:=by rw[<-hz];simp[bI,m]
   simp only[go_sem,j5,m]
  by_cases l:op<=15
  case neg=>
   obtain rfl:X=F:=by rw[<-hz];simp[bI,l]
   simp only[go_sem,j5,m,l]
  by_cases c:(z kids:Int)=2
  case neg=>
   obtain rfl:X=F:=by
    have:¬z kids=2:=a6;rw[<-hz];simp[bI,this]
   simp only[go_sem,j5,m,l,c]
  simp only[go_sem,j5,m,l,c,cc];refine bT rfl Xy ?_;rintro _ rfl
  obtain rfl:X=aU (q+1) kids:=by
   have:z kids=2:=a6;rw[<-hz];simp[bI,ah,a1,this,P,i,m,l]
  exact hG
 ·-- 7
  by_cases u:op=0
  case neg=>
   exact mM
  by_cases i:num=0
  case neg=>
   exact oc
  by_cases P:name=[]
  case neg=>
   obtain rfl:X=F:=by rw[<-hz];simp[bI,ah,P]
   simp only[go_sem,j,u,i,P]
  simp only[go_sem,j,u,i,P];by_cases c:(z kids:Int)=1
  case neg=>
   exact UN
  simp only[go_sem,j5,c,cc];refine bT rfl Xy ?_;rintro _ rfl
  obtain rfl:X=aU (q+1) kids:=by
   have:z kids=1:=a6;rw[<-hz];simp[bI,ah,a1,this,P,i,u]
  exact hG
 ·-- 8
  exact x2
 ·-- 9
  exact x2
 .obtain rfl:X=F:=by rw[<-hz];simp[bI,n,o,t,v,w,r,x,y,a]
  by_cases u:op=0
  case neg=>simp only[go_sem,j,r,u]
  by_cases i:num=0
  case neg=>simp only[go_sem,j,r,u,n,i]
  by_cases P:name=[]
  case neg=>simp only[go_sem,j,r,u,n,i,o,t,v,P]
  simp only[go_sem,j,r,u,n,i,o,t,v,P,w,x,y,a]
def zq:∀(av:Nat)(l:List Ex)(q:Nat),aH l<=av->z l<=1000000000000000000->rN l->q<=25->aF Tryz.prog 173 [dE l,iv .i64 q] (·=bv (aU q l)):=by
 intro av
 induction av using Nat.strongRecOn with
 |ind av w=>
 intro l q y hl E j;refine hdP Tryz.func173 rfl [4] λg=>?_;obtain⟨X,m⟩:∃X,aU q l=X:=⟨_,rfl⟩
 rw[m];rw[Src.BS]at m;unfold dE;simp only[go_sem];refine dF (λk K=>(l.drop k).all (cR q)=X/\K.f 0=.one (.d (.sl (l.map exD)))/\K.f 1=iv .i64 q/\K.f 5=iv .i64 k) (z l) ⟨m,?_⟩ ?_
 .exact hG
 rintro k f A G hk ⟨hc,q0,o,q5⟩;simp only at q0 o q5;have x:=ab (k:=k) a6;by_cases u:k<z l
 case neg=>
  exact UG
 have H:(k:Int)<(z l:Int):=a6;obtain⟨e,i⟩:=getq u;obtain⟨U,Y⟩:=dG hc i;have t:=Src.Jl E i;have bc:=Src.se (l5 i);have v:=getD_at (f:=exD) i;have O:=dD e;obtain⟨kind,op,num,name,a⟩:=e;rw[szE]at bc;rw[inE]at t;have hE:=Br kind op num name a q j λh=>w (aH a) a6 a (q+1) (l0 _) t.1 t.2 a6;have I:exD (.mk kind op num name a)=[.int .i64 kind,.int .i64 op,.int .u32 num,.str name,.sl (a.map exD)]:=by simp only[exD,aA]
 unfold exV at hE;rw[I]at v hE;simp only[l9,v8]at hE;simp only[go_sem,q0,o,q5,H,j5,v];refine bT rfl Yy ?_;rintro _ rfl;cases V:cR q (.mk kind op num name a)
 .obtain rfl:=Y V
  exact hG
 .simp only[go_sem,q5,x]
  refine bM u ⟨U V,?_⟩;simp only[go_sem,q0,o]
end
section
open Go Go.Am Go.Asm
open Go.Src (aN ah cp aU di bg Ex Stm szE aH szS aE inE rN inS qM)
attribute[local congr]ite_cc
def Bt(kind:Int)(name:Str)(e:List Ex)(th el:List Stm)(q:Nat)(b:q<=25)(n:q<=24->aF Tryz.prog 173 [dE e,iv .i64 (q+1:Nat)] (·=bv (aU (q+1) e)))
 (hT:q<=24->aF Tryz.prog 60 [ed th,iv .i64 (q+1:Nat)] (·=bv (bg (q+1) th)))(o:q<=24->aF Tryz.prog 60 [ed el,iv .i64 (q+1:Nat)] (·=bv (bg (q+1) el))):
  aF Tryz.prog 98 [smV (.mk kind name e th el),iv .i64 q] (·=bv (di q (.mk kind name e th el))):=by
 refine hdP Tryz.func98 rfl [4] λg=>?_;have y:smV (.mk kind name e th el)=.agg [.d (.int .i64 kind),.d (.str name),.d (.sl (e.map exD)),.d (.sl (th.map smD)),.d (.sl (el.map smD))]:=by simp only[smV,smD,aA,cT,l9,v8]
 obtain⟨X,hz⟩:∃X,di q (.mk kind name e th el)=X:=⟨_,rfl⟩
 rw[hz,y];rw[di]at hz;by_cases j:(24:Int)<(q:Int)
 .obtain rfl:X=F:=by rw[<-hz,z7 a6,A0,A0]
  simp only[go_sem,j]
 have i:q<=24:=a6;have a:=ab (k:=q) a6;have n:=n i;have hT:=hT i;have o:=o i;unfold dE at n;unfold ed at hT o;have hk:kind=1\/kind=2\/kind=3\/kind=4\/kind=5\/kind=6\/kind=7\/(¬kind=1/\¬kind=2/\¬kind=3/\¬kind=4/\¬kind=5/\¬kind=6/\¬kind=7):=a6;rcases hk with rfl|rfl|rfl|rfl|rfl|rfl|rfl|⟨u,v,w,m,t,r,x⟩
 case' inl=>
  by_cases a':0<(z el:Int)
  .exact hY
  have E:el=[]:=r0 a6;by_cases p:0<(z th:Int)
  .exact kt
  have l:th=[]:=r0 a6;by_cases P:name=[]
  .exact T5
  simp only[go_sem,j5,j,a',p,P];refine bT rfl W4 ?_;rintro _ rfl;cases bd:aN name
  .exact U1
  by_cases hn:(z e:Int)=1
  case neg=>
   exact r8
  obtain rfl:X=(aU (q+1) e&&(bg (q+1) th&&bg (q+1) el)):=by
   have:z e=1:=a6;rw[<-hz];simp[cp,ah,i,this,bd,E,l]
  simp only[go_sem,j5,hn,a]
 case' inr.inl=>
  by_cases a':0<(z el:Int)
  .exact hY
  have E:el=[]:=r0 a6;by_cases p:0<(z th:Int)
  .exact kt
  have l:th=[]:=r0 a6;by_cases P:name=[]
  .exact T5
  simp only[go_sem,j5,j,a',p,P];refine bT rfl W4 ?_;rintro _ rfl;cases bd:aN name
  .exact U1
  by_cases hn:(z e:Int)=2
  case neg=>
   obtain rfl:X=F:=by
    have:¬z e=2:=a6;rw[<-hz];simp[cp,this]
   simp only[go_sem,j5,hn]
  obtain rfl:X=(aU (q+1) e&&(bg (q+1) th&&bg (q+1) el)):=by
   have:z e=2:=a6;rw[<-hz];simp[cp,ah,i,this,bd,E,l]
  simp only[go_sem,j5,hn,a]
 case' inr.inr.inl=>
  by_cases a':0<(z el:Int)
  .exact hY
  have E:el=[]:=r0 a6;by_cases p:0<(z th:Int)
  .exact kt
  have l:th=[]:=r0 a6;by_cases P:name=[]
  case neg=>
   obtain rfl:X=F:=by rw[<-hz];simp[cp,ah,P]
   simp only[go_sem,j5,j,a',p,P]
  simp only[go_sem,j5,j,a',p,P];by_cases hn:(z e:Int)=1
  case neg=>
   exact r8
  obtain rfl:X=(aU (q+1) e&&(bg (q+1) th&&bg (q+1) el)):=by
   have:z e=1:=a6;rw[<-hz];simp[cp,ah,i,this,P,E,l]
  simp only[go_sem,j5,hn,a]
 case' inr.inr.inr.inl=>
  by_cases P:name=[]
  case neg=>
   obtain rfl:X=F:=by rw[<-hz];simp[cp,ah,P]
   simp only[go_sem,j5,j,P]
  simp only[go_sem,j5,j,P];by_cases hn:(z e:Int)=1
  case neg=>
   exact r8
  obtain rfl:X=(aU (q+1) e&&(bg (q+1) th&&bg (q+1) el)):=by
   have:z e=1:=a6;rw[<-hz];simp[cp,ah,i,this,P]
  simp only[go_sem,j5,hn,a]
 case' inr.inr.inr.inr.inl=>
  by_cases a':0<(z el:Int)
  .exact hY
  have E:el=[]:=r0 a6;by_cases P:name=[]
  case neg=>
   obtain rfl:X=F:=by rw[<-hz];simp[cp,ah,P]
   simp only[go_sem,j5,j,a',P]
  simp only[go_sem,j5,j,a',P];by_cases hn:(z e:Int)=1
  case neg=>
   exact r8
  obtain rfl:X=(aU (q+1) e&&(bg (q+1) th&&bg (q+1) el)):=by
   have:z e=1:=a6;rw[<-hz];simp[cp,ah,i,this,P,E]
  simp only[go_sem,j5,hn,a]
 case' inr.inr.inr.inr.inr.inl=>
  by_cases a':0<(z el:Int)
  .exact hY
  have E:el=[]:=r0 a6;by_cases p:0<(z th:Int)
  .exact kt
  have l:th=[]:=r0 a6;by_cases P:name=[]
  .exact T5
  simp only[go_sem,j5,j,a',p,P];refine bT rfl W4 ?_;rintro _ rfl;cases bd:aN name
  .exact U1
  by_cases hn:(z e:Int)<=6
  case neg=>
   obtain rfl:X=F:=by
    have:¬z e<=6:=a6;rw[<-hz];simp[cp,this]
   simp only[go_sem,j5,hn]
  obtain rfl:X=(aU (q+1) e&&(bg (q+1) th&&bg (q+1) el)):=by
   have:z e<=6:=a6;rw[<-hz];simp[cp,ah,i,this,bd,E,l]
  simp only[go_sem,j5,hn,a]
 case' inr.inr.inr.inr.inr.inr.inl=>
  by_cases a':0<(z el:Int)
  .exact hY
  have E:el=[]:=r0 a6;by_cases p:0<(z th:Int)
  .exact kt
  have l:th=[]:=r0 a6;by_cases P:name=[]
  case neg=>
   obtain rfl:X=F:=by rw[<-hz];simp[cp,ah,P]
   simp only[go_sem,j5,j,a',p,P]
  simp only[go_sem,j5,j,a',p,P];by_cases hn:(z e:Int)<=1
  case neg=>
   obtain rfl:X=F:=by
    have:¬z e<=1:=a6;rw[<-hz];simp[cp,this]
   simp only[go_sem,j5,hn]
  obtain rfl:X=(aU (q+1) e&&(bg (q+1) th&&bg (q+1) el)):=by
   have:z e<=1:=a6;rw[<-hz];simp[cp,ah,i,this,P,E,l]
  simp only[go_sem,j5,hn,a]
 case inr.inr.inr.inr.inr.inr.inr=>
  obtain rfl:X=F:=by rw[<-hz];simp[cp,u,v,w,m,t,r,x]
  by_cases a':0<(z el:Int)
  .simp only[go_sem,j,j5,m,a']
  by_cases p:0<(z th:Int)
  .simp only[go_sem,j,j5,m,a',t,p]
  by_cases P:name=[]
  case neg=>simp only[go_sem,j,j5,m,a',t,p,u,v,r,P]
  simp only[go_sem,j,j5,m,a',t,p,u,v,r,P,w,x]
 all_goals refine bT rfl (by simp only[go_sem,a];exact n) ?_
 all_goals rintro _ rfl
 all_goals cases aU (q+1) e
 all_goals simp only[go_sem,a,A0,w7]
 all_goals refine bT rfl (by simp only[go_sem,a];exact hT) ?_
 all_goals rintro _ rfl
 all_goals cases bg (q+1) th
 all_goals simp only[go_sem,a,A0,w7]
 all_goals refine bT rfl (by simp only[go_sem,a];exact o) ?_
 all_goals rintro _ rfl
 all_goals simp only[go_sem,w7]
def zr:∀(av:Nat)(l:List Stm)(q:Nat),aE l<=av->z l<=1000000000000000000->qM l->q<=25->aF Tryz.prog 60 [ed l,iv .i64 q] (·=bv (bg q l)):=by
 intro av
 induction av using Nat.strongRecOn with
 |ind av u=>
 intro l q y hl E j;refine hdP Tryz.func60 rfl [4] λg=>?_;obtain⟨X,o⟩:∃X,bg q l=X:=⟨_,rfl⟩
 rw[o];rw[Src.BT]at o;unfold ed;simp only[go_sem];refine dF (λk K=>(l.drop k).all (di q)=X/\K.f 0=.one (.d (.sl (l.map smD)))/\K.f 1=iv .i64 q/\K.f 5=iv .i64 k) (z l) ⟨o,?_⟩ ?_
 .exact hG
 rintro k f A G hk ⟨hc,q0,t,q5⟩;simp only at q0 t q5;have x:=ab (k:=k) a6;by_cases v:k<z l
 case neg=>
  exact UG
 have H:(k:Int)<(z l:Int):=a6;obtain⟨s,m⟩:=getq v;obtain⟨U,Y⟩:=dG hc m;have a:=Src.Jm E m;have bc:=Src.kO (l5 m);have w:=getD_at (f:=smD) m;obtain⟨kind,name,e,i,el⟩:=s;rw[szS]at bc;rw[inS]at a;have hS:=Bt kind name e i el q j (λh=>zq (aH e) e (q+1) (l0 _) a.1.1 a.1.2 a6) (λh=>u (aE i) a6 i (q+1) (l0 _) a.2.1.1 a.2.1.2 a6) (λh=>u (aE el) a6 el (q+1) (l0 _) a.2.2.1 a.2.2.2 a6);have I:smD (.mk kind name e i el)=[.int .i64 kind,.str name,.sl (e.map exD),.sl (i.map smD),.sl (el.map smD)]:=by simp only[smD,aA,cT]
 unfold smV at hS;rw[I]at w hS;simp only[l9,v8]at hS;simp only[go_sem,q0,t,q5,H,j5,w];refine bT rfl XW ?_;rintro _ rfl;cases V:di q (.mk kind name e i el)
 .obtain rfl:=Y V
  exact hG
 .simp only[go_sem,q5,x]
  refine bM v ⟨U V,?_⟩;simp only[go_sem,q0,t]
def JC(p:Src.Prog)(hp:Src.InP p):aF Tryz.prog 34 [cn p] (·=bv (Src.cD p)):=by
 refine hdP Tryz.func34 rfl [2] λg=>?_;obtain⟨X,l⟩:∃X,Src.cD p=X:=⟨_,rfl⟩
 rw[l];obtain⟨pv,pa,pf,w⟩:=hp;unfold Src.cD at l;rw[dn];have hn:=zp p.vars pv;unfold ko at hn;simp only[go_sem];refine bT rfl (by simp only[go_sem];exact hn) ?_;rintro _ rfl;cases m:p.vars.all aN
 .obtain rfl:X=F:=by rw[<-l,m,C3,A0]
  exact hG
 by_cases U:(z p.funcs:Int)<1
 .obtain rfl:X=F:=by rw[<-l,z7 a6,A0,A0]
  simp only[go_sem,j5,U]
 by_cases c:64<(z p.funcs:Int)
 .obtain rfl:X=F:=by rw[<-l,z7 a6,A0,A0]
  simp only[go_sem,j5,U,c]
 rw[m,B3 a6,w7,w7]at l;obtain⟨ga,j⟩:∃y,p.arrays.all Src.fb=y:=⟨_,rfl⟩
 rw[j]at l;simp only[go_sem,j5,U,c];refine dF (λk K=>(p.arrays.drop k).all Src.fb=ga/\K.f 1=.one (.ptr 1 (K.gen 1) 0)/\K.obj 1=S [.d (.sl (p.vars.map λs=>[.str s])),.d (.sl (p.arrays.map arD)),.d (.sl (p.funcs.map fnD))]/\K.f 3=iv .i64 k) (z p.arrays) ⟨j,?_⟩ ?_
 .exact hG
 rintro k f O ad hk ⟨t,q1,o1,x⟩;simp only at q1 o1 x;have W:=ab (k:=k) a6;by_cases G:k<z p.arrays
 .have H:(k:Int)<(z p.arrays:Int):=a6
  obtain⟨a,m⟩:=getq G;obtain⟨U,Y⟩:=dG t m;have v:=getD_at (f:=arD) m;have bk:arD a=[.str a.1,.int .i64 a.2]:=rfl;rw[bk]at v;have B:Src.fb a=(aN a.1&&decide (1<=a.2)&&decide (a.2<=4096)):=rfl;have b:Src.fb a=F->X=F:=λe=>by rw[<-l,Y e,A0]
  simp only[go_sem,q1,o1,x,H,j5,v];refine bT rfl (by simp only[go_sem];exact ju a.1) ?_;rintro _ rfl;cases bd:aN a.1
  .obtain rfl:=b (by rw[B,bd];rfl)
   exact hG
  by_cases q:a.2<1
  .obtain rfl:=b (by rw[B,z7 (show ¬1<=a.2 by omega),C3,A0])
   simp only[go_sem,q1,o1,x,v,q]
  by_cases J:4096<a.2
  .obtain rfl:=b (by rw[B,z7 (show ¬a.2<=4096 by omega),C3])
   simp only[go_sem,q1,o1,x,v,q,J]
  simp only[go_sem,q1,o1,x,v,q,J,W];refine bM G ⟨U (by rw[B,bd,B3 (show 1<=a.2 by omega),B3 (show a.2<=4096 by omega)];rfl),?_⟩;exact Un
 have H:¬(k:Int)<(z p.arrays:Int):=a6;rw[y2 a6]at t;rw[show ga=T from t.symm,w7]at l;clear t hk G j W;simp only[go_sem,q1,o1,x,H,j5];refine dF (λk K=>(p.funcs.drop k).all Src.cI=X/\K.f 1=.one (.ptr 1 (K.gen 1) 0)/\K.obj 1=S [.d (.sl (p.vars.map λs=>[.str s])),.d (.sl (p.arrays.map arD)),.d (.sl (p.funcs.map fnD))]/\K.f 4=iv .i64 k) (z p.funcs) ⟨l,?_⟩ ?_
 .exact Un
 clear H q1 o1 x;rintro k f O ad hk ⟨t,q1,o1,Z⟩;simp only at q1 o1 Z;have W:=ab (k:=k) a6;by_cases G:k<z p.funcs
 case neg=>
  have H:¬(k:Int)<(z p.funcs:Int):=a6;rw[y2 a6]at t;obtain rfl:X=T:=t.symm;simp only[go_sem,q1,o1,Z,H,j5]
 have H:(k:Int)<(z p.funcs:Int):=a6;obtain⟨fn,m⟩:=getq G;obtain⟨O,A⟩:=dG t m;have v:=getD_at (f:=fnD) m;have a':fnD fn=[.str fn.name,.sl (fn.params.map λs=>[.str s]),.sl (fn.locals.map λs=>[.str s]),.bool fn.word,.sl (fn.body.map smD)]:=rfl;rw[a']at v;obtain⟨⟨i1,u⟩,i3,o⟩:=w fn (l5 m);have b7:Src.cI fn=(aN fn.name&&decide (z fn.params<=6)&&(fn.params.all aN&&fn.locals.all aN&&bg 1 fn.body)):=rfl;rw[b7]at O A;have h:=zp fn.params i1;have i:=zp fn.locals u;have I:=zr (aE fn.body) fn.body 1 (l0 _) i3 o a7;unfold ko at h i;unfold ed at I;simp only[go_sem,q1,o1,Z,H,j5,v];refine bT rfl (by simp only[go_sem];exact ju fn.name) ?_;rintro _ rfl;cases U:aN fn.name
 .obtain rfl:=A (by rw[U];rfl)
  exact hG
 by_cases h6:6<(z fn.params:Int)
 .obtain rfl:=A (by rw[U,z7 (show ¬z fn.params<=6 by omega)];rfl)
  simp only[go_sem,j5,h6]
 rw[U,B3 (show z fn.params<=6 by omega),w7,w7]at O A;simp only[go_sem,j5,h6];refine bT rfl (by simp only[go_sem];exact h) ?_;rintro _ rfl;cases Y:fn.params.all aN
 .obtain rfl:=A (by rw[Y];rfl)
  exact hG
 simp only[go_sem];refine bT rfl (by simp only[go_sem];exact i) ?_;rintro _ rfl;cases h3:fn.locals.all aN
 .obtain rfl:=A (by rw[Y,h3];rfl)
  exact hG
 simp only[go_sem];refine bT rfl (by simp only[go_sem];exact I) ?_;rintro _ rfl;cases h4:bg 1 fn.body
 .obtain rfl:=A (by rw[Y,h3,h4];rfl)
  exact hG
 .simp only[go_sem,Z,W]
  refine bM G ⟨O (by rw[Y,h3,h4];rfl),?_⟩;exact Un
end
end Go.Proofs.YtednjibjomfhfaaGreatDoor
namespace Go.Src
section
attribute [local congr] Go.Am.ite_cc
open Go.Asm (Str)
def bb:Nat->List Str->Str->Int
 |_,[],_=>-1
 |k,x::l,s=>if x=s then(k:Int)else bb (k+1) l s
def jj:∀(l:List Str)(k:Nat)(s:Str),bb k l s = -1\/((k:Int)<=bb k l s/\bb k l s<k+z l)
 |[],_,_=>.inl rfl
 |x::l,k,s=>by
   rw[bb,j6];split
   .omega
   .have:=jj l (k+1) s;omega
def eK(l:List Str):Bool:=(List.range (z l)).all λi=>decide (bb 0 l (l.getD i [])=i)
def lL(f:Fn):List Str:=f.params++f.locals
def fH(p:Prog):List Str:=p.vars++p.arrays.map (·.1)++p.funcs.map (·.name)
def kp(p:Prog)(f:Fn)(s:Str):Int×Int:=
 if 0<=bb 0 (lL f) s then(1,bb 0 (lL f) s)
 else
  let k:=bb 0 (fH p) s
  if k<0 then(0,-1)else if k<z p.vars then(2,k)else if k-z p.vars<z p.arrays then(3,k-z p.vars)else(4,k-z p.vars-z p.arrays)
end
end Go.Src
namespace Go.Proofs.YtednjibjomfhfaaGreatDoor
section
open Go Go.Am Go.Asm
open Go.Src (bb eK lL fH kp)
attribute[local congr]ite_cc
def zt(l:List Str)(s:Str)(hl:z l<=1000000000000000000):aF Tryz.prog 174 [ko l,sv s] (·=iv .i64 (bb 0 l s)):=by
 refine hdP Tryz.func174 rfl [4] λg=>?_;obtain⟨X,m⟩:∃X,bb 0 l s=X:=⟨_,rfl⟩
 rw[m];unfold ko;simp only[go_sem];refine dF (λk K=>bb k (l.drop k) s=X/\K.f 0=.one (.d (.sl (l.map λs=>[.str s])))/\K.f 1=sv s/\K.f 5=iv .i64 k) (z l) ⟨m,?_⟩ ?_
 .exact hG
 rintro k f u v w ⟨a,e,i,j⟩;simp only at e i j;have t:=ab (k:=k) a6;by_cases o:k<z l
 case neg=>
  have H:¬(k:Int)<(z l:Int):=a6;rw[y2 a6,bb]at a;subst a;simp only[go_sem,e,j,H,j5]
 have H:(k:Int)<(z l:Int):=a6;obtain⟨x,I⟩:=getq o;rw[eH I,bb]at a;have r:=getD_at (f:=λs:Str=>[D.str s]) I;by_cases hn:x=s
 .rw[l7 hn]at a
  subst a;simp only[go_sem,e,i,j,H,j5,r,hn]
 .rw[j8 hn]at a
  simp only[go_sem,e,i,j,H,j5,r,hn,t];refine bM o ⟨a,?_⟩;simp only[go_sem,e,i]
def Bu(l:List Str)(hl:z l<=1000000000000000000):aF Tryz.prog 99 [ko l] (·=bv (eK l)):=by
 refine hdP Tryz.func99 rfl [2] λg=>?_;obtain⟨X,j⟩:∃X,eK l=X:=⟨_,rfl⟩
 rw[j];unfold eK at j;have t:=λs=>zt l s hl;unfold ko at t|-;simp only[go_sem];refine dF (λk K=>((List.range (z l)).drop k).all (λi=>decide (bb 0 l (l.getD i [])=i))=X/\K.f 0=.one (.d (.sl (l.map λs=>[.str s])))/\K.f 3=iv .i64 k) (z l) ⟨j,?_⟩ ?_
 .exact hG
 rintro k f w y hk ⟨m,q0,a⟩;simp only at q0 a;have u:=ab (k:=k) a6;by_cases o:k<z l
 case neg=>
  have H:¬(k:Int)<(z l:Int):=a6;rw[y2 Wk]at m;obtain rfl:X=T:=m.symm;simp only[go_sem,q0,a,H,j5]
 have H:(k:Int)<(z l:Int):=a6;obtain⟨x,I⟩:=getq o;obtain⟨U,Y⟩:=dG m (x:=k) (by simp[o]);rw[show l.getD k []=x by simp[I]]at U Y;have v:=getD_at (f:=λs:Str=>[D.str s]) I;simp only[go_sem,q0,a,H,j5,v];refine bT rfl (by simp only[go_sem];exact t x) ?_;rintro _ rfl;by_cases e:bb 0 l x=(k:Int)
 .simp only[go_sem,q0,a,e,u]
  refine bM o ⟨U (B3 e),?_⟩;exact VX
 .obtain rfl:=Y (z7 e)
  simp only[go_sem,q0,a,e]
def DA(f:Src.Fn):fnV f=.agg [.d (.str f.name),.d (.sl (f.params.map λs=>[.str s])),.d (.sl (f.locals.map λs=>[.str s])),.d (.bool f.word),.d (.sl (f.body.map smD))]:=rfl
def tn(l:List Str):List.map C.d (l.map λs=>[D.str s]).flatten=l.map λw=>.d (.str w):=by
 induction l with
 |nil=>rfl
 |cons a l b=>simp only[l9,D8,A7,b];rfl
def wc(l:List Str):∀e∈(l.map λs=>[D.str s]),z e=1:=λe a=>by
 obtain⟨s,_,rfl⟩:=G3.1 a;rfl
def Fe{o:cg}(f:Src.Fn)(U:z f.params<=1000000)(Y:z f.locals<=1000000):bP Tryz.prog 4 o 101 [fnV f] (·=ko (lL f)):=by
 refine hdG Tryz.func101 rfl [.tmp 2] λO bo s0 w0 g=>?_;rw[DA];simp only[go_sem];refine dS aR mixed aG [3] [([],[],[0],F),([1],[0],[],F),([4],[0],[],F),([3,5],[],[0],F),([1],[0],[],F),([7],[0],[],F),([6,8],[],[0],F),([9],[],[],T)] 1 rfl b9 rfl a7 ?_;simp only[go_sem]
 (apply de;(case hg=>first|exact w8|exact⟨_,rfl,by decide,rfl⟩);(case U=>intro b d e a J;simp only[go_sem]at J|-;exact J))
 iterate 2 (apply ay;(case hg=>first|exact w8|exact⟨_,rfl,by decide,rfl⟩);(case U=>intro b d e a J;simp only[go_sem]at J|-;exact J))
 (apply de;(case hg=>exact w8);(case U=>intro b d e a J;simp only[go_sem,tn,j5]at J|-;exact⟨wc _,⟨a7,a6⟩,J⟩))
 iterate 2 (apply ay;(case hg=>first|exact w8|exact⟨_,rfl,by decide,rfl⟩);(case U=>intro b d e a J;simp only[go_sem]at J|-;exact J))
 (apply de;(case hg=>exact w8);(case U=>intro b d e a J;simp only[go_sem,tn,j5]at J|-;exact⟨a6,wc _,⟨a7,a6⟩,J⟩))
 refine dU w8 ?_;intro a i;simp only[go_sem];refine i _ ?_;clear i a;simp only[go_sem];refine⟨_,⟨_,rG (L:=lL f) Wq (by simp[upd,lL,s6]) (by simp[lL]),rfl⟩,rfl⟩
def xW(p:Src.Prog)(hv:z p.vars<=1000000)(O:z p.arrays<=1000000)(hf:z p.funcs<=1000000):aF Tryz.prog 100 [cn p] (·=ko (fH p)):=by
 refine hdP Tryz.func100 rfl [2] λg=>?_;rw[dn];simp only[go_sem,tn,j5];refine⟨wc _,⟨a7,a6⟩,?_⟩;refine dF (λk K=>∃G:List Str,G++(p.arrays.drop k).map (·.1)++p.funcs.map (·.name)=fH p/\z G=z p.vars+k/\K.f 1=.one (.ptr 1 (K.gen 1) 0)/\K.obj 1=S [.d (.sl (p.vars.map λs=>[.str s])),.d (.sl (p.arrays.map arD)),.d (.sl (p.funcs.map fnD))]/\K.f 3=.one (.osl 6 (K.gen 6) 1 0 (z G))/\K.obj 6=S (G.map λw=>.d (.str w))/\K.f 4=iv .i64 k) (z p.arrays) ⟨p.vars,rfl,rfl,?_⟩ ?_
 .exact hG
 rintro k f y A x ⟨G,m,b,e,o1,i,j,t⟩;simp only at e o1 i j t;have u:=ab (k:=k) a6;by_cases l:k<z p.arrays
 .have H:(k:Int)<(z p.arrays:Int):=a6
  obtain⟨a,o⟩:=getq l;have r:=getD_at (f:=arD) o;have bk:arD a=[.str a.1,.int .i64 a.2]:=rfl;rw[bk]at r;simp only[go_sem,e,o1,i,j,t,H,j5,r,u];refine⟨l0 _,⟨a7,a6⟩,bM l ⟨G++[a.1],?_,by simp;omega,?_⟩⟩
  .rw[<-m,eH o];simp
  .simp only[go_sem,e,o1,j4,A7]
   rw[s6 a8]
 have H:¬(k:Int)<(z p.arrays:Int):=a6;rw[y2 a6]at m;simp only[go_sem,e,o1,i,t,H,j5];refine dF (λk K=>∃G:List Str,G++(p.funcs.drop k).map (·.name)=fH p/\z G<=2000000+k/\K.f 1=.one (.ptr 1 (K.gen 1) 0)/\K.obj 1=S [.d (.sl (p.vars.map λs=>[.str s])),.d (.sl (p.arrays.map arD)),.d (.sl (p.funcs.map fnD))]/\K.f 3=.one (.osl 6 (K.gen 6) 1 0 (z G))/\K.obj 6=S (G.map λw=>.d (.str w))/\K.f 5=iv .i64 k) (z p.funcs) ⟨G,by rw[<-m];simp,a6,?_⟩ ?_
 .simp only[go_sem,e,o1,i,j]
 clear e o1 i j t H u l m b x G;rintro k f y A x ⟨G,m,b,e,o1,i,j,v⟩;simp only at e o1 i j v;have u:=ab (k:=k) a6;by_cases l:k<z p.funcs
 .have H:(k:Int)<(z p.funcs:Int):=a6
  obtain⟨fn,o⟩:=getq l;have r:=getD_at (f:=fnD) o;have I:fnD fn=[.str fn.name,.sl (fn.params.map λs=>[.str s]),.sl (fn.locals.map λs=>[.str s]),.bool fn.word,.sl (fn.body.map smD)]:=rfl;rw[I]at r;simp only[go_sem,e,o1,i,j,v,H,j5,r,u];refine⟨l0 _,⟨a7,a6⟩,bM l ⟨G++[fn.name],?_,by simp;omega,?_⟩⟩
  .rw[<-m,eH o];simp
  .simp only[go_sem,e,o1,j4,A7]
   rw[s6 a8]
 have H:¬(k:Int)<(z p.funcs:Int):=a6;rw[y2 a6,v8,s5]at m;simp only[go_sem,e,o1,i,v,H,j5];exact⟨_,⟨_,rG rfl j rfl,rfl⟩,by rw[<-m];rfl⟩
def we{s:St}{a b:Int}:rq s [iv .i64 a,iv .i64 b] (.tup [iv .i64 a,iv .i64 b]):=⟨_,⟨_,_,rfl,kj _,_,_,rfl,kj _,rfl⟩,rfl⟩
def JD{o:cg}(p:Src.Prog)(q:z p.vars<=1000000)(t:z p.arrays<=1000000)(hf:z p.funcs<=1000000)(i:Nat)(fn:Src.Fn)(l:p.funcs[i]?=S fn)(U:z fn.params<=1000000)(Y:z fn.locals<=1000000)(s:Str):
  bP Tryz.prog 4 o 103 [cn p,iv .i64 i,sv s] (·=.tup [iv .i64 (kp p fn s).1,iv .i64 (kp p fn s).2]):=by
 refine hdG Tryz.func103 rfl [.tmp 6,.tmp 7] λO bo s0 w0 g=>?_;have x:=(l8.1 l).1;have c:(i:Int)<(z p.funcs:Int):=a6;have n:=getD_at (f:=fnD) l;have u:fnD fn=[.str fn.name,.sl (fn.params.map λs=>[.str s]),.sl (fn.locals.map λs=>[.str s]),.bool fn.word,.sl (fn.body.map smD)]:=rfl;rw[u]at n;have hN:=Fe (o:=o) fn U Y;have bc:z (lL fn)<=2000000:=by simp[lL];omega
 have y:z (fH p)<=3000000:=by simp[fH];omega
 have m:=xW p q t hf;rw[DA]at hN;rw[dn]at m|-;simp only[go_sem,c,j5,n];refine cK rfl Xc ?_;rintro _ rfl;simp only[go_sem];refine jU rfl (by simp only[go_sem];exact zt (lL fn) s a6) ?_;rintro _ rfl;unfold kp;obtain⟨k,hk⟩:∃k,bb 0 (lL fn) s=k:=⟨_,rfl⟩
 rw[hk];by_cases d:0<=k
 .simp only[go_sem,d]
  exact⟨_,we,rfl⟩
 rw[j8 d];simp only[go_sem,d];refine jU rfl (by simp only[go_sem];exact m) ?_;rintro _ rfl;simp only[go_sem];refine jU rfl (by simp only[go_sem];exact zt (fH p) s a6) ?_;rintro _ rfl;have v:=Src.jj (fH p) 0 s;obtain⟨k,hk⟩:∃k,bb 0 (fH p) s=k:=⟨_,rfl⟩
 rw[hk]at v|-;by_cases hn:k<0
 .simp only[go_sem,hn]
  exact⟨_,we,rfl⟩
 by_cases a:k<(z p.vars:Int)
 .simp only[go_sem,hn,a,j5]
  exact⟨_,we,rfl⟩
 have e:IntKind.i64.wrap (k-(z p.vars:Int))=k-z p.vars:=wrap_i64 _ a6 a6;by_cases b:k-(z p.vars:Int)<(z p.arrays:Int)
 .simp only[go_sem,hn,a,j5,e,b]
  exact⟨_,we,rfl⟩
 have w:IntKind.i64.wrap (k-(z p.vars:Int)-(z p.arrays:Int))=k-z p.vars-z p.arrays:=wrap_i64 _ a6 a6;simp only[go_sem,hn,a,j5,e,b];refine bh b9 ?_;simp only[go_sem,e,w,j5];exact⟨_,we,by rw[j8 hn,j8 a,j8 b]⟩
end
end Go.Proofs.YtednjibjomfhfaaGreatDoor
namespace Go.Src
section
attribute [local congr] Go.Am.ite_cc
open Go.Asm (Str)
abbrev Us:=Str×Int×Int
def us1(kind:Int)(name:Str)(n:Nat):List Us:=if kind=2 then [(name,1,0)]else if kind=3 then [(name,3,0)]else if kind=4 then [(name,4,(n:Int))]else []
mutual
def usE:Ex->List Us
 |.mk kind _ _ name kids=>us1 kind name (z kids)++mg kids
def mg:List Ex->List Us
 |[]=>[]
 |e::l=>usE e++mg l
end
def us2(kind:Int)(name:Str)(n:Nat):List Us:=if kind=1 then [(name,1,0)]else if kind=2 then [(name,3,0)]else if kind=6 then [(name,4,(n:Int))]else []
mutual
def usS:Stm->List Us
 |.mk kind name e a el=>us2 kind name (z e)++mg e++iL a++iL el
def iL:List Stm->List Us
 |[]=>[]
 |e::l=>usS e++iL l
end
mutual
theorem Ny:∀e:Ex,z (usE e)<=szE e
 |.mk kind _ _ name kids=>by
   have h:=wg kids;rw[usE,szE,j4];have:(us1 kind name (z kids)).length<=1:=by unfold us1;(repeat' split)<;>simp
   omega
theorem wg:∀l:List Ex,z (mg l)<=aH l
 |[]=>by simp[mg]
 |e::l=>by
   have:=Ny e;have:=wg l;rw[mg,aH,j4];omega
end
mutual
theorem Nz:∀e:Stm,z (usS e)<=szS e
 |.mk kind name e a el=>by
   have:=wg e;have:=wh a;have:=wh el;rw[usS,szS];simp only[j4];have:(us2 kind name (z e)).length<=1:=by unfold us2;(repeat' split)<;>simp
   omega
theorem wh:∀l:List Stm,z (iL l)<=aE l
 |[]=>by simp[iL]
 |e::l=>by
   have:=Nz e;have:=wh l;rw[iL,aE,j4];omega
end
end
end Go.Src
namespace Go.Proofs.YtednjibjomfhfaaGreatDoor
section
open Go Go.Am Go.Asm
open Go.Src (Ex Stm Us us1 us2 usE mg usS iL szE aH szS aE)
attribute[local congr]ite_cc
def usD(u:Us):List D:=[.str u.1,.int .i64 u.2.1,.int .i64 u.2.2]
def rR(l:List Us):AV:=.one (.d (.sl (l.map usD)))
def usC(l:List Us):List C:=l.flatMap λu=>(usD u).map .d
def pU(l:List Us):z (usC l)=z l*3:=by
 induction l with
 |nil=>rfl
 |cons a l b=>simp only[usC,A1,j4]at b|-;rw[b];simp[usD];omega
def Ff(a b:List Us):usC (a++b)=usC a++usC b:=by simp[usC]
def uU(l:List Us):List.map C.d (l.map usD).flatten=usC l:=by
 induction l with
 |nil=>rfl
 |cons a l b=>simp only[l9,D8,A7,b];rfl
def rT(l:List Us):∀e∈l.map usD,z e=3:=λe a=>by
 obtain⟨s,_,rfl⟩:=G3.1 a;rfl
def JE{s:St}{id g:Nat}{l:List Us}(hg:s.gen id=g)(ho:s.obj id=S (usC l)):mf s (.one (.osl id g 3 0 (z l))) (rR l):=
 ⟨_,eG hg l usD ho rfl (λa _ x I=>by simp only[usD,y9,A4,E7]at I;rcases I with rfl|rfl|rfl<;>rfl) (λ_ _=>rfl) rfl,rfl⟩
def NA{o:cg}:∀(av:Nat)(l:List Ex),aH l<=av->av<=1000000->bP Tryz.prog 4 o 175 [dE l] (·=rR (mg l)):=by
 intro av
 induction av using Nat.strongRecOn with
 |ind av ih=>
 intro l hN i;refine hdG Tryz.func175 rfl [.tmp 2] λO bo s0 w0 g=>?_;have cv:=Src.Kr l;have c:=Src.wg l;unfold dE;simp only[go_sem];refine Fb _ (uK (t:=3) (id:=100) (sz:=3) Wh) (λk K=>∃G:List Us,G++mg (l.drop k)=mg l/\K.f 0=.one (.d (.sl (l.map exD)))/\K.f 3=.one (.osl 100 (K.gen 100) 3 0 (z G))/\K.obj 100=S (usC G)/\K.f 4=iv .i64 k) (z l) ⟨[],rfl,?_⟩ ?_
 .simp only[St.grab]
  simp only[go_sem];rfl
 rintro k f g1 ad hk ⟨G,m,v,A,oi,w⟩;simp only at v A oi w;have hw:=ab (k:=k) a6;by_cases Z:k<z l
 case neg=>
  have H:¬(k:Int)<(z l:Int):=a6;rw[y2 a6,mg,s5]at m;rw[<-m];simp only[go_sem,v,A,w,H,j5];exact⟨_,JE rfl oi,rfl⟩
 have H:(k:Int)<(z l:Int):=a6;obtain⟨e,Y⟩:=getq Z;have bc:=Src.se (l5 Y);have hg:=getD_at (f:=exD) Y;obtain⟨kind,op,num,name,q⟩:=e;rw[eH Y,mg,usE]at m;rw[szE]at bc;have I:exD (.mk kind op num name q)=[.int .i64 kind,.int .i64 op,.int .u32 num,.str name,.sl (q.map exD)]:=by simp only[exD,aA]
 rw[I]at hg;have J:=ih (aH q) a6 q (l0 _) a6;have a:=Src.wg q;unfold dE at J
 have b:z G+z (mg q)+1<=1000001:=by
  have:=congrArg z m;simp only[j4]at this;omega
 obtain⟨u,x⟩:∃u,us1 kind name (z q)=u:=⟨_,rfl⟩
 rw[x]at m;unfold us1 at x;have y:=pU G;by_cases B:kind=2
 case' pos=>
  rw[l7 B]at x;simp only[go_sem,v,A,oi,w,H,j5,hg,B];refine⟨a6,⟨a7,a6⟩,?_⟩
 case' neg=>
  rw[j8 B]at x;by_cases Q:kind=3
  case' pos=>
   rw[l7 Q]at x;simp only[go_sem,v,A,oi,w,H,j5,hg,Q];refine⟨a6,⟨a7,a6⟩,?_⟩
  case' neg=>
   rw[j8 Q]at x;by_cases V:kind=4
   case' pos=>
    rw[l7 V]at x;simp only[go_sem,v,A,oi,w,H,j5,hg,V];refine dS aR mixed aG [53,100] [([3],[0],[],F),([0],[],[],F),([4],[],[],F),([41,42],[],[],F),([43],[],[],F),([44],[],[],F),([0],[],[],F),([4],[],[],F),([46,47],[],[],F),([48],[],[],F),([49],[],[],F),([50],[],[],F),([45,51],[],[],F),([52],[],[0],F),([40,53],[],[1],F),([54],[],[],T)] 2 rfl b9 rfl a7 ?_;simp only[go_sem]
    iterate 13 (apply ay;(case hg=>first|exact w8|exact⟨_,rfl,by decide,rfl⟩);(case U=>intro fa ga oa W J;simp only[go_sem,v,A,w,H,hg,j5]at J|-;exact J))
    (apply de;(case hg=>first|exact w8|exact⟨_,rfl,by decide,rfl⟩);(case U=>intro fa ga oa W J;simp only[go_sem]at J|-;exact J))
    (apply de;(case hg=>exact w8);(case U=>intro fa ga oa W J;simp only[go_sem,oi]at J|-;exact⟨a6,⟨a7,a6⟩,J⟩))
    refine dU w8 ?_;intro W b0;simp only[go_sem];refine b0 _ ?_;clear b0 W;simp only[go_sem,v,w,hg]
   case' neg=>
    rw[j8 V]at x;simp only[go_sem,v,A,oi,w,H,j5,hg,B,Q,V]
 all_goals refine cK rfl (by simp only[go_sem];exact J) ?_
 all_goals rintro _ rfl
 all_goals unfold rR
 all_goals simp only[go_sem,uU,j5,A,oi,w,hw]
 all_goals refine⟨by simp only[j4,C2,y,j6,j7];omega,rT _,⟨a7,a6⟩,bM Z ⟨G++u++mg q,by rw[<-m];simp only[l6],?_⟩⟩
 all_goals subst x
 all_goals simp only[go_sem,v,j4,Ff,s6,y,l0]
 all_goals rw[s6 (by simp only[j4,y,j6,j7];omega)];rfl
def JF{o:cg}:∀(av:Nat)(l:List Stm),aE l<=av->av<=1000000->bP Tryz.prog 4 o 102 [ed l] (·=rR (iL l)):=by
 intro av
 induction av using Nat.strongRecOn with
 |ind av Y=>
 intro l hN i;refine hdG Tryz.func102 rfl [.tmp 2] λO bo s0 w0 g=>?_;have cv:=Src.Ks l;have c:=Src.wh l;unfold ed;simp only[go_sem];refine Fb _ (uK (t:=3) (id:=100) (sz:=3) Wh) (λk K=>∃G:List Us,G++iL (l.drop k)=iL l/\K.f 0=.one (.d (.sl (l.map smD)))/\K.f 3=.one (.osl 100 (K.gen 100) 3 0 (z G))/\K.obj 100=S (usC G)/\K.f 4=iv .i64 k) (z l) ⟨[],rfl,?_⟩ ?_
 .simp only[St.grab]
  simp only[go_sem];rfl
 rintro k f g1 ad hk ⟨G,m,a,w,oi,q⟩;simp only at a w oi q;have hw:=ab (k:=k) a6;by_cases Z:k<z l
 case neg=>
  have H:¬(k:Int)<(z l:Int):=a6;rw[y2 a6,iL,s5]at m;rw[<-m];simp only[go_sem,a,w,q,H,j5];exact⟨_,JE rfl oi,rfl⟩
 have H:(k:Int)<(z l:Int):=a6;obtain⟨e,W⟩:=getq Z;have bc:=Src.kO (l5 W);have hg:=getD_at (f:=smD) W;obtain⟨kind,name,e,x,el⟩:=e;rw[eH W,iL,usS]at m;rw[szS]at bc;have I:smD (.mk kind name e x el)=[.int .i64 kind,.str name,.sl (e.map exD),.sl (x.map smD),.sl (el.map smD)]:=by simp only[smD,aA,cT]
 rw[I]at hg;have hE:=NA (o:=o) (aH e) e (l0 _) a6;have hT:=Y (aE x) a6 x (l0 _) a6;have hL:=Y (aE el) a6 el (l0 _) a6;unfold dE at hE;unfold ed at hT hL
 have b:z G+z (mg e)+z (iL x)+z (iL el)+1<=1000001:=by
  have:=congrArg z m;simp only[j4]at this;omega
 obtain⟨u,v⟩:∃u,us2 kind name (z e)=u:=⟨_,rfl⟩
 rw[v]at m;unfold us2 at v;have y:=pU G;by_cases A:kind=1
 case' pos=>
  rw[l7 A]at v;simp only[go_sem,a,w,oi,q,H,j5,hg,A];refine⟨a6,⟨a7,a6⟩,?_⟩
 case' neg=>
  rw[j8 A]at v;by_cases B:kind=2
  case' pos=>
   rw[l7 B]at v;simp only[go_sem,a,w,oi,q,H,j5,hg,B];refine⟨a6,⟨a7,a6⟩,?_⟩
  case' neg=>
   rw[j8 B]at v;by_cases Q:kind=6
   case' pos=>
    rw[l7 Q]at v;simp only[go_sem,a,w,oi,q,H,j5,hg,Q];refine dS aR mixed aG [53,100] [([3],[0],[],F),([0],[],[],F),([4],[],[],F),([41,42],[],[],F),([43],[],[],F),([44],[],[],F),([0],[],[],F),([4],[],[],F),([46,47],[],[],F),([48],[],[],F),([49],[],[],F),([50],[],[],F),([45,51],[],[],F),([52],[],[0],F),([40,53],[],[1],F),([54],[],[],T)] 2 rfl b9 rfl a7 ?_;simp only[go_sem]
    iterate 13 (apply ay;(case hg=>first|exact w8|exact⟨_,rfl,by decide,rfl⟩);(case U=>intro fa ga oa V J;simp only[go_sem,a,w,q,H,hg,j5]at J|-;exact J))
    (apply de;(case hg=>first|exact w8|exact⟨_,rfl,by decide,rfl⟩);(case U=>intro fa ga oa V J;simp only[go_sem]at J|-;exact J))
    (apply de;(case hg=>exact w8);(case U=>intro fa ga oa V J;simp only[go_sem,oi]at J|-;exact⟨a6,⟨a7,a6⟩,J⟩))
    refine dU w8 ?_;intro V b0;simp only[go_sem];refine b0 _ ?_;clear b0 V;simp only[go_sem,a,q,hg]
   case' neg=>
    rw[j8 Q]at v;simp only[go_sem,a,w,oi,q,H,j5,hg,A,B,Q]
 all_goals refine cK rfl Yy ?_
 all_goals rintro _ rfl
 all_goals unfold rR
 all_goals simp only[go_sem,uU,j5,a,w,oi,q,hg]
 all_goals refine⟨by simp only[j4,C2,pU,j6,j7];omega,rT _,⟨a7,a6⟩,?_⟩
 all_goals try simp only[go_sem,a,q,hg]
 all_goals refine cK rfl WO ?_
 all_goals rintro _ rfl
 all_goals unfold rR
 all_goals simp only[go_sem,uU,j5,a,q,hg]
 all_goals refine⟨by simp only[j4,C2,pU,j6,j7];omega,rT _,⟨a7,a6⟩,?_⟩
 all_goals try simp only[go_sem,a,q,hg]
 all_goals refine cK rfl WQ ?_
 all_goals rintro _ rfl
 all_goals unfold rR
 all_goals simp only[go_sem,uU,j5,a,q,hw]
 all_goals refine⟨by simp only[j4,C2,pU,j6,j7];omega,rT _,⟨a7,a6⟩,bM Z ⟨G++u++mg e++iL x++iL el,by rw[<-m];simp only[l6],?_⟩⟩
 all_goals subst v
 all_goals simp only[go_sem,a,j4,Ff]
 all_goals (repeat rw[s6 (by simp only[j4,C2,pU,j6,j7];omega)])
 all_goals rfl
end
end Go.Proofs.YtednjibjomfhfaaGreatDoor
namespace Go.Src
section
open Go.Asm (Str)
def qP:∀(a b:List Str)(k:Nat)(s:Str),bb k (a++b) s=if bb k a s<0 then bb (k+z a) b s else bb k a s
 |[],b,k,s=>by simp[bb]
 |x::a,b,k,s=>by
   rw[u7,bb,bb];by_cases h:x=s
   .rw[l7 h,l7 h,j8 a6]
   .rw[j8 h,j8 h,qP a b,j6,show k+1+z a=k+(z a+1) by omega]
def thG(c:Nat):Nat->List Str->List Th
 |_,[]=>[]
 |k,x::l=>(x,c,k)::thG c (k+1) l
def Fg(c:Nat):∀(a b:List Str)(k:Nat),thG c k (a++b)=thG c k a++thG c (k+z a) b
 |[],b,k=>by simp[thG]
 |x::a,b,k=>by simp only[u7,thG,Fg c a b,j6];rw[show k+1+z a=k+(z a+1) by omega]
def jX{a:Type}(c:Nat)(g:a->Str):∀(l:List a)(k:Nat),l.mapIdx (λi x=>(g x,c,k+i))=thG c k (l.map g)
 |[],k=>rfl
 |x::l,k=>by
   rw[L4,l9,thG,<-jX c g l (k+1)];simp only[I3];congr 2;funext i y;rw[show k+(i+1)=k+1+i by omega]
def kq(c:Nat)(s:Str):∀(l:List Str)(k:Nat),aP (thG c k l) s=if bb k l s<0 then N else S (c,(bb k l s).toNat)
 |[],k=>rfl
 |x::l,k=>by
   rw[thG,aP,bb];by_cases h:x=s
   .rw[l7 h,l7 h,j8 a6];rfl
   .rw[j8 h,j8 h,kq c s l (k+1)]
def wi(f:Fn):bC f=thG 1 0 (lL f):=by
 unfold bC thL lL;rw[Fg];have U:=jX 1 (λn:Str=>n) f.params 0;have Y:=jX 1 (λn:Str=>n) f.locals (z f.params);rw[List.map_id']at U Y;rw[U,Y,B9]
def wj(p:Prog):bA p=thG 2 0 p.vars++thG 3 0 (p.arrays.map (·.1))++thG 4 0 (p.funcs.map (·.name)):=by
 unfold bA thV thA thF;have U:=jX 2 (λn:Str=>n) p.vars 0;rw[List.map_id']at U;have Y:=jX 3 (λa:Str×Int=>a.1) p.arrays 0;have b:=jX 4 (λf:Fn=>f.name) p.funcs 0;simp only[B9]at U Y b;rw[U,Y,b]
def kM:∀(l:List Str)(k:Nat)(s:Str),bb k l s=if bb 0 l s<0 then -1 else bb 0 l s+k
 |[],_,_=>rfl
 |x::l,k,s=>by
   rw[bb,bb];by_cases h:x=s
   .rw[l7 h,l7 h,j8 a6];omega
   .rw[j8 h,j8 h,kM l (k+1),kM l (0+1)]
    have:=jj l 0 s;split
    .rfl
    .rw[j8 a6];omega
def Bv(p:Prog)(f:Fn)(s:Str):kp p f s=match bw (bA p) (bC f) s with|some x=>((x.1:Int),(x.2:Int))|none=>(0,-1):=by
 unfold kp bw;rw[wi,kq,wj,lX,lX,kq,kq,kq];have j:=jj (lL f) 0 s;by_cases h:bb 0 (lL f) s<0
 case neg=>
  rw[l7 a6,j8 h];simp only;rw[J2 a6];rfl
 rw[j8 a6,l7 h];simp only;have i:=jj p.vars 0 s;have g3:=jj (p.arrays.map (·.1)) 0 s;have g4:=jj (p.funcs.map (·.name)) 0 s;rw[j5]at g3 g4
 have J:bb 0 (fH p) s=if bb 0 p.vars s<0 then(if bb 0 (p.arrays.map (·.1)) s<0 then(if bb 0 (p.funcs.map (·.name)) s<0 then -1 else bb 0 (p.funcs.map (·.name)) s+((z p.vars+z p.arrays:Nat):Int))else bb 0 (p.arrays.map (·.1)) s+z p.vars)else bb 0 p.vars s:=by
  unfold fH;rw[qP,qP,B9,B9,kM _ (z p.vars),kM _ (z (p.vars++p.arrays.map (·.1))),j4,j5]
  (repeat' split)<;>omega
 rw[J];generalize bb 0 p.vars s=a at i|-;generalize bb 0 (p.arrays.map (·.1)) s=b at g3|-;generalize bb 0 (p.funcs.map (·.name)) s=c at g4|-;by_cases d:a<0
 case neg=>
  rw[j8 d,j8 d,j8 d,l7 a6];simp only;rw[J2 a6];rfl
 rw[l7 d,l7 d];simp only;by_cases e:b<0
 case neg=>
  rw[j8 e,j8 e,j8 a6,j8 a6,l7 a6];simp only;rw[J2 a6,show b+(z p.vars:Int)-z p.vars=b by omega];rfl
 rw[l7 e,l7 e];simp only;by_cases g:c<0
 case neg=>
  rw[j8 g,j8 g,j8 a6,j8 a6,j8 a6];simp only;rw[J2 a6,show c+((z p.vars+z p.arrays:Nat):Int)-z p.vars-z p.arrays=c by omega];rfl
 rw[l7 g,l7 g];rfl
def Fh{l:List Str}{i:Nat}(h:i<z l):l.getD i []=l[i]:=by simp[List.getD,h]
def ug:∀(l:List Str)(k:Nat),(∀i,i<z l->bb k l (l.getD i [])=((k+i:Nat):Int))↔l.Nodup
 |[],k=>by simp
 |x::l,k=>by
   rw[N9,<-ug l (k+1)];constructor
   .intro h
    have I:∀i,i<z l->x≠l.getD i []/\bb (k+1) l (l.getD i [])=((k+1+i:Nat):Int):=λi a=>by
     have:=h (i+1) Wk;rw[P2,bb]at this;split at this
     .omega
     .rename_i bl;exact⟨bl,by rw[this];congr 1;omega⟩
    refine⟨λb=>?_,λi a=>(I i a).2⟩;obtain⟨i,a,e⟩:=List.getElem_of_mem b;exact(I i a).1 (by rw[Fh a,e])
   .rintro⟨b,h⟩ i a
    cases i with
    |zero=>rw[N5,bb,l7 rfl];rfl
    |succ i=>
      have a:i<z l:=by simpa using a
      rw[P2,bb,j8 (λe=>b (by rw[e,Fh a];exact L3 a)),h i a];congr 1;omega
def uh(l:List Str):eK l=T↔l.Nodup:=by
 rw[<-ug l 0];unfold eK;simp only[x7,E4,s7,B9]
def zu{l:List Th}{s:Str}:(aP l s).isNone=T↔s∉l.map (·.1):=by
 induction l with
 |nil=>simp[aP]
 |cons t l a=>
   rw[aP];by_cases h:t.1=s
   .simp[h]
   .rw[j8 h,a]
    simp only[l9,y9,TW];exact⟨λx=>⟨A9 h,x⟩,λx=>x.2⟩
def pq:∀(l a:List Th),bW a l=T↔(∀t∈l,t.1∉a.map (·.1))/\(l.map (·.1)).Nodup
 |[],a=>by simp[bW]
 |t::l,a=>by
   rw[bW,l4,zu,pq l];simp only[A7,l9,v8,D7,C6,List.forall_mem_cons,N9,TW];constructor
   .rintro⟨U,Y,b⟩
    exact⟨⟨U,λx I=>(Y x I).1⟩,λc=>by obtain⟨y,d,e⟩:=G3.1 c;exact(Y y d).2 e,b⟩
   .rintro⟨⟨U,Y⟩,b,f⟩
    exact⟨U,λx I=>⟨Y x I,λe=>b (by rw[<-e];exact List.mem_map_of_mem I)⟩,f⟩
def rU(c:Nat):∀(l:List Str)(k:Nat),(thG c k l).map (·.1)=l
 |[],_=>rfl
 |x::l,k=>by rw[thG,l9,rU c l]
def DB(f:Fn):bW [] (bC f)=eK (lL f):=by
 rw[N7,pq,uh,wi,rU];simp
def DC(p:Prog):bW [] (bA p)=eK (fH p):=by
 rw[N7,pq,uh,wj,A7,A7,rU,rU,rU];simp[fH]
def asK(a:Int):Nat:=if a=1 then 2 else a.toNat
def vU(u:Nat->Str->Nat->Bool)(x:Us):Bool:=u (asK x.2.1) x.1 x.2.2.toNat
def NB(u:Nat->Str->Nat->Bool)(kind:Int)(name:Str)(n:Nat):(us1 kind name n).all (vU u)=if kind=2 then u 2 name 0 else if kind=3 then u 3 name 0 else if kind=4 then u 4 name n else T:=by
 unfold us1
 (repeat' split)<;>simp[vU,asK]
def NC(u:Nat->Str->Nat->Bool)(kind:Int)(name:Str)(n:Nat):(us2 kind name n).all (vU u)=if kind=1 then u 2 name 0 else if kind=2 then u 3 name 0 else if kind=6 then u 4 name n else T:=by
 unfold us2
 (repeat' split)<;>simp[vU,asK]
mutual
theorem Rf(u:Nat->Str->Nat->Bool):∀e:Ex,okE u e=(usE e).all (vU u)
 |.mk kind _ _ name kids=>by rw[okE,usE,G2,NB,zw u kids]
theorem zw(u:Nat->Str->Nat->Bool):∀l:List Ex,ep u l=(mg l).all (vU u)
 |[]=>rfl
 |e::l=>by rw[ep,mg,G2,Rf u e,zw u l]
end
mutual
theorem Rg(u:Nat->Str->Nat->Bool):∀e:Stm,okS u e=(usS e).all (vU u)
 |.mk kind name e a el=>by rw[okS,usS,G2,G2,G2,NC,zw u e,rV u a,rV u el]
theorem rV(u:Nat->Str->Nat->Bool):∀l:List Stm,eP u l=(iL l).all (vU u)
 |[]=>rfl
 |e::l=>by rw[eP,iL,G2,Rg u e,rV u l]
end
end
section
attribute [local congr] Go.Am.ite_cc
open Go.Asm (Str)
def wb(p:Prog)(i:Nat)(f:Fn)(x:Us):Bool:=
 !(decide (x.2.1=1/\(kp p f x.1).1≠1/\(kp p f x.1).1≠2)||decide (x.2.1=3/\(kp p f x.1).1≠3)||decide (x.2.1=4/\((kp p f x.1).1≠4\/(i:Int)<=(kp p f x.1).2)))
def gS(p:Prog)(i:Nat)(f:Fn):Bool:=eK (lL f)&&(iL f.body).all (wb p i f)
def te(p:Prog)(f:Fn)(x:Us):Bool:=if x.2.1=4 then(match p.funcs[(kp p f x.1).2.toNat]? with|some g=>decide ((z g.params:Int)=x.2.2)|none=>T)else T
def xi(x:Us):Prop:=(x.2.1=1\/x.2.1=3\/x.2.1=4)/\0<=x.2.2
def QX(kind:Int)(name:Str)(n:Nat):∀x∈us1 kind name n,xi x:=by
 unfold us1
 (repeat' split)<;>simp[xi]
def QY(kind:Int)(name:Str)(n:Nat):∀x∈us2 kind name n,xi x:=by
 unfold us2
 (repeat' split)<;>simp[xi]
mutual
theorem QZ:∀(e:Ex),∀x∈usE e,xi x
 |.mk kind _ _ name kids=>by rw[usE];exact J1.2 ⟨QX _ _ _,zi kids⟩
theorem zi:∀(l:List Ex),∀x∈mg l,xi x
 |[]=>λ_ h=>by rw[mg]at h;cases h
 |e::l=>by rw[mg];exact J1.2 ⟨QZ e,zi l⟩
end
mutual
theorem Ra:∀(e:Stm),∀x∈usS e,xi x
 |.mk kind name e a el=>by rw[usS];exact J1.2 ⟨J1.2 ⟨J1.2 ⟨QY _ _ _,zi e⟩,rO a⟩,rO el⟩
theorem rO:∀(l:List Stm),∀x∈iL l,xi x
 |[]=>λ_ h=>by rw[iL]at h;cases h
 |e::l=>by rw[iL];exact J1.2 ⟨Ra e,rO l⟩
end
def qN{b:Type}{p q:b->Bool}:∀{l:List b},(∀x∈l,p x=q x)->l.all p=l.all q
 |[],_=>rfl
 |a::l,h=>by rw[C4,C4,h a a8,qN λx I=>h x Xs]
def Nk(p:Prog)(i:Nat)(f:Fn)(x:Us)(h:xi x):wb p i f x=vU (λk n _=>cl (bw (bA p) (bC f)) i k n) x:=by
 unfold wb vU cl;simp only;rw[Bv];generalize bw (bA p) (bC f) x.1=r;cases r with
 |none=>rcases h.1 with e|e|e<;>simp[e]
 |some y=>
   obtain⟨a,b⟩:=y;simp only;have U:((a:Int)=1↔a=1)/\((a:Int)=2↔a=2)/\((a:Int)=3↔a=3)/\((a:Int)=4↔a=4)/\((i:Int)<=(b:Int)↔¬b<i):=a6;simp only[ne_eq,U];rcases h.1 with e|e|e<;>rw[e]<;>by_cases c:a=1<;>by_cases d:a=2<;>by_cases G:a=3<;>by_cases g:a=4<;>by_cases j:b<i<;>simp[asK,c,d,G,g,j]<;>omega
def GC(p:Prog)(i:Nat)(f:Fn):gS p i f=jY p i f:=by
 unfold gS jY;rw[DB,rV,qN λx I=>Nk p i f x (rO _ x I)]
def Nn(p:Prog)(i:Nat)(f:Fn)(x:Us)(h:xi x)(b:wb p i f x=T):te p f x=vU (λk n a=>gZ (bw (bA p) (bC f)) p.funcs i k n a) x:=by
 unfold wb at b;unfold te vU gZ;simp only;rw[Bv]at b|-;generalize bw (bA p) (bC f) x.1=r at b|-;cases r with
 |none=>rcases h.1 with e|e|e<;>simp[e]at b|-
 |some y=>
   simp only at b|-;rcases h.1 with e|e|e
   .simp[e,asK]
   .simp[e,asK]
   .have U:y.1=4/\y.2<i:=by
     rw[e]at b;simp at b;omega
    have c:=h.2;rw[l7 e,l7 ⟨by rw[e];rfl,U.1,U.2⟩];simp only[B6];cases p.funcs[y.2]? with
    |none=>rfl
    |some g=>simp only;rw[N7,s7,I5];omega
def Jr(p:Prog):Nat:=
 if (eK (fH p) && bE (gS p) 0 p.funcs)=F then 4
 else match p.funcs.getLast? with
  |none=>0
  |some f=>if (p.funcs.all λf=>(iL f.body).all (te p f))=T/\f.name=Pt/\f.params=[]/\f.word=F then 0 else 1
def nw{b:Type}{c d:Nat->b->Bool}:∀(l:List b)(i:Nat),(∀k x,l[k]?=S x->c (i+k) x=d (i+k) x)->bE c i l=bE d i l
 |[],_,_=>rfl
 |a::l,i,h=>by
   have e:=nw (c:=c) (d:=d) l (i+1) λk x I=>by
    have:=h (k+1) x Xl
    rwa [show i+(k+1)=i+1+k by omega]at this
   rw[bE,bE,show c i a=d i a from h 0 a rfl,e]
def xU{b:Type}{c:Nat->b->Bool}:∀{l:List b}{i k:Nat}{x:b},bE c i l=T->l[k]?=S x->c (i+k) x=T
 |a::l,i,0,x,h,I=>by cases I;rw[bE,l4]at h;exact h.1
 |a::l,i,k+1,x,h,I=>by
   rw[bE,l4]at h;rw[show i+(k+1)=i+1+k by omega];exact xU h.2 Xl
def rP{b:Type}{c:b->Bool}:∀(l:List b)(i:Nat),bE (λ_=>c) i l=l.all c
 |[],_=>rfl
 |a::l,i=>by rw[bE,C4,rP l]
def SR(p:Prog):Jr p=jx p:=by
 unfold Jr jx;rw[DC,show bE (jY p) 0 p.funcs=bE (gS p) 0 p.funcs from nw _ _ λk x _=>(GC p _ x).symm];by_cases a:(eK (fH p)&&bE (gS p) 0 p.funcs)=F
 .rw[l7 a,l7 a]
 rw[j8 a,j8 a]
 have a:bE (gS p) 0 p.funcs=T:=by
  have:(eK (fH p)&&bE (gS p) 0 p.funcs)=T:=by simpa using a
  exact(l4 _ _▸this).2
 have e:(p.funcs.all λf=>(iL f.body).all (te p f))=bE (zB p) 0 p.funcs:=by
  rw[<-rP _ 0];refine nw _ _ λk x I=>?_;unfold zB;rw[rV];have b:=xU a I;unfold gS at b;rw[l4,x7]at b;exact qN λy c=>Nn p (0+k) x y (rO _ y c) (b.2 y c)
 rw[e];cases p.funcs.getLast?<;>rfl
end
end Go.Src
namespace Go.Proofs.YtednjibjomfhfaaGreatDoor
section
open Go Go.Am Go.Asm
open Go.Src (bb eK lL fH kp Us iL wb te gS bE aE)
attribute[local congr]ite_cc
section
structure Sm (p:Src.Prog):Prop where
 v:p.vars.length<=100000
 a:p.arrays.length<=100000
 f:p.funcs.length<=100000
 fs:∀f∈p.funcs,(f.params.length<=100000/\f.locals.length<=100000)/\aE f.body<=100000
variable{o:cg}
def Np(p:Src.Prog)(hp:Sm p):bP Tryz.prog 4 o 61 [cn p] (·=bv (eK (fH p)&&bE (gS p) 0 p.funcs)):=by
 refine hdG Tryz.func61 rfl [.tmp 2] λO bo s0 w0 g=>?_;obtain⟨X,hz⟩:∃X,(eK (fH p)&&bE (gS p) 0 p.funcs)=X:=⟨_,rfl⟩
 rw[hz];obtain⟨pv,pa,pf,w⟩:=hp;have m:=xW p a6 a6 a6;have hF:=λi fn hi s=>JD (o:=o) p a6 a6 a6 i fn hi (by have:=(w fn (l5 hi)).1.1;omega) (by have:=(w fn (l5 hi)).1.2;omega) s;have b5:z (fH p)<=300000:=by simp[fH];omega
 rw[dn]at m hF|-;simp only[go_sem];refine jU rfl (by simp only[go_sem];exact m) ?_;rintro _ rfl;simp only[go_sem];refine jU rfl (by simp only[go_sem];exact Bu (fH p) a6) ?_;rintro _ rfl;cases hu:eK (fH p)
 .obtain rfl:X=F:=by rw[<-hz,hu];rfl
  exact hG
 rw[hu,w7]at hz;clear hu;simp only[go_sem];refine dF (λk K=>bE (gS p) k (p.funcs.drop k)=X/\K.f 1=.one (.ptr 1 (K.gen 1) 0)/\K.obj 1=S [.d (.sl (p.vars.map λs=>[.str s])),.d (.sl (p.arrays.map arD)),.d (.sl (p.funcs.map fnD))]/\K.f 3=iv .i64 k) (z p.funcs) ⟨hz,?_⟩ ?_
 .exact hG
 rintro k f g1 ad hk ⟨W,q1,o1,G⟩;simp only at q1 o1 G;have hw:=ab (k:=k) a6;by_cases af:k<z p.funcs
 case neg=>
  have H:¬(k:Int)<(z p.funcs:Int):=a6;rw[y2 a6,bE]at W;subst W;simp only[go_sem,q1,o1,G,H,j5]
 have H:(k:Int)<(z p.funcs:Int):=a6;obtain⟨fn,hs⟩:=getq af;have hg:=getD_at (f:=fnD) hs;have a':fnD fn=[.str fn.name,.sl (fn.params.map λs=>[.str s]),.sl (fn.locals.map λs=>[.str s]),.bool fn.word,.sl (fn.body.map smD)]:=rfl;rw[a']at hg;obtain⟨⟨i1,u⟩,i3⟩:=w fn (l5 hs);have hF:=hF k fn hs;have hN:=Fe (o:=o) fn a6 a6;have hU:=JF (o:=o) (aE fn.body) fn.body (l0 _) a6;have bc:z (lL fn)<=200000:=by simp[lL];omega
 have c:=Src.wh fn.body;rw[DA]at hN;unfold ed at hU;rw[eH hs,bE]at W;unfold gS at W;simp only[go_sem,q1,o1,G,H,j5,hg];refine cK rfl Xc ?_;rintro _ rfl;simp only[go_sem];refine jU rfl (by simp only[go_sem];exact Bu (lL fn) a6) ?_;rintro _ rfl;cases hu:eK (lL fn)
 .obtain rfl:X=F:=by rw[<-W,hu];rfl
  exact hG
 rw[hu,w7]at W;simp only[go_sem,q1,o1,G,hg];refine cK rfl (by simp only[go_sem];exact hU) ?_;rintro _ rfl;unfold rR;obtain⟨Z,L⟩:∃Z,iL fn.body=Z:=⟨_,rfl⟩
 rw[L]at W c|-;obtain⟨y,hy⟩:∃y,Z.all (wb p k fn)=y:=⟨_,rfl⟩
 rw[hy]at W;simp only[go_sem];refine dF (λj K=>(Z.drop j).all (wb p k fn)=y/\K.f 1=.one (.ptr 1 (K.gen 1) 0)/\K.obj 1=S [.d (.sl (p.vars.map λs=>[.str s])),.d (.sl (p.arrays.map arD)),.d (.sl (p.funcs.map fnD))]/\K.f 3=iv .i64 k/\K.f 4=.one (.d (.sl (Z.map usD)))/\K.f 5=iv .i64 j) (z Z) ⟨hy,?_⟩ ?_
 .simp only[go_sem,q1,o1,G]
 clear q1 o1 G;rintro j f g1 ad hj ⟨hd,q1,o1,G,q4,q5⟩;simp only at q1 o1 G q4 q5;have c7:=ab (k:=j) a6;by_cases B:j<z Z
 case neg=>
  have b6:¬(j:Int)<(z Z:Int):=a6;rw[y2 a6]at hd;obtain rfl:y=T:=hd.symm;rw[w7]at W;simp only[go_sem,q4,q5,b6,j5,G,hw];refine bM af ⟨W,?_⟩;exact Un
 have b6:(j:Int)<(z Z:Int):=a6;obtain⟨x,I⟩:=getq B;obtain⟨U,Y⟩:=dG hd I;have t:=getD_at (f:=usD) I;have E:usD x=[.str x.1,.int .i64 x.2.1,.int .i64 x.2.2]:=rfl;rw[E]at t;have b:wb p k fn x=F->X=F:=λe=>by rw[<-W,Y e,A0]
 have hF:=hF x.1;unfold wb at U b;obtain⟨A,hA⟩:∃A,(kp p fn x.1).1=A:=⟨_,rfl⟩
 obtain⟨n,hn⟩:∃n,(kp p fn x.1).2=n:=⟨_,rfl⟩
 obtain⟨s,a,l⟩:=x;simp only at hA hn hF U b t;rw[hA,hn]at U b hF;simp only[go_sem,q4,q5,b6,j5];refine dS aR mixed aG [] [([1],[],[],F),([3],[],[],F),([4],[],[],F),([5],[],[],F),([43,44],[],[],F),([45],[],[],F),([46],[],[],F),([41,42,47],[],[],F),([48],[],[],F),([40],[],[],F),([40],[],[],F),([49],[],[],F),([50],[],[],T)] 0 rfl b9 rfl a7 ?_;simp only[go_sem]
 iterate 7 (apply ay;(case hg=>first|exact w8|exact⟨_,rfl,by decide,rfl⟩);(case U=>intro fa ga oa K' J;simp only[go_sem,q1,o1,G,q4,q5,t]at J|-;exact J))
 refine ay (v:=.tup [iv .i64 A,iv .i64 n]) w8 (λfa ga oa K' J=>?_) ?_
 .exact V2
 iterate 4 (apply ay;(case hg=>first|exact w8|exact⟨_,rfl,by decide,rfl⟩);(case U=>intro fa ga oa K' J;simp only[go_sem]at J|-;exact J))
 refine dU w8 ?_;intro K' b0;simp only[go_sem];refine b0 _ ?_;clear b0 K';have ca:(a=1/\A=1)\/(a=1/\A=2)\/(a=3/\A=3)\/(a=4/\A=4/\¬(k:Int)<=n)\/(¬a=1/\¬a=3/\¬a=4)\/(a=1/\¬A=1/\¬A=2)\/(a=3/\¬A=3)\/(a=4/\¬A=4)\/(a=4/\A=4/\(k:Int)<=n):=a6;rcases ca with h|h|h|h|h|h|h|h|h
 iterate 5
  .simp only[go_sem,q1,o1,G,q4,q5,t,h,c7]
   refine bM B ⟨U (by simp[h]),?_⟩;simp only[go_sem,q1,o1,G,q4]
 iterate 4
  .obtain rfl:=b (by simp[h])
   simp only[go_sem,q1,o1,G,q4,q5,t,h]
def Dy{b:Type}{l:List b}{a:b}(h:l[z l-1]?=S a):l.getLast?=S a:=by rw[Q9];exact h
def GD(p:Src.Prog)(hp:Sm p)(P:bE (gS p) 0 p.funcs=T)(a:Src.Fn)(cc:p.funcs[z p.funcs-1]?=S a):
  bP Tryz.prog 4 o 62 [cn p] (·=bv (decide ((p.funcs.all λf=>(iL f.body).all (te p f))=T/\a.name=Src.Pt/\a.params=[]/\a.word=F))):=by
 refine hdG Tryz.func62 rfl [.tmp 2] λO bo s0 w0 g=>?_;obtain⟨X,hz⟩:∃X,decide ((p.funcs.all λf=>(iL f.body).all (te p f))=T/\a.name=Src.Pt/\a.params=[]/\a.word=F)=X:=⟨_,rfl⟩
 rw[hz];obtain⟨pv,pa,pf,w⟩:=hp;have hF:=λi fn hi s=>JD (o:=o) p a6 a6 a6 i fn hi (by have:=(w fn (l5 hi)).1.1;omega) (by have:=(w fn (l5 hi)).1.2;omega) s;rw[dn]at hF|-;obtain⟨q,hq⟩:∃q,(p.funcs.all λf=>(iL f.body).all (te p f))=q:=⟨_,rfl⟩
 rw[hq]at hz;simp only[go_sem];refine dF (λk K=>((p.funcs.drop k).all λf=>(iL f.body).all (te p f))=q/\K.f 1=.one (.ptr 1 (K.gen 1) 0)/\K.obj 1=S [.d (.sl (p.vars.map λs=>[.str s])),.d (.sl (p.arrays.map arD)),.d (.sl (p.funcs.map fnD))]/\K.f 3=iv .i64 k) (z p.funcs) ⟨hq,?_⟩ ?_
 .exact hG
 rintro k f g1 ad hk ⟨hc,q1,o1,q3⟩;simp only at q1 o1 q3;have hw:=ab (k:=k) a6;by_cases af:k<z p.funcs
 case neg=>
  have H:¬(k:Int)<(z p.funcs:Int):=a6;rw[y2 a6]at hc;rw[show q=T from hc.symm]at hz;have cy:0<z p.funcs:=by have:=(l8.1 cc).1;omega
  have b':IntKind.i64.wrap ((z p.funcs:Int)-1)=((z p.funcs-1:Nat):Int):=by rw[wrap_i64]<;>omega
  have hg:=getD_at (f:=fnD) cc;have a':fnD a=[.str a.name,.sl (a.params.map λs=>[.str s]),.sl (a.locals.map λs=>[.str s]),.bool a.word,.sl (a.body.map smD)]:=rfl;rw[a']at hg;have cb:Src.Pt=[109,97,105,110]:=rfl;rw[cb]at hz;have e9:(0:Int)<=((z p.funcs-1:Nat):Int):=a6;simp only[go_sem,q1,o1,q3,H,j5,b',hg];by_cases e1:a.name=[109,97,105,110]
  case neg=>
   obtain rfl:X=F:=by rw[<-hz];simp[e1]
   simp only[go_sem,e1]
  by_cases e2:a.params=[]
  case neg=>
   obtain rfl:X=F:=by rw[<-hz];simp[e2]
   have:¬(z a.params:Int)=0:=λe=>e2 (r0 a6);simp only[go_sem,e1,j5,this]
  cases e3:a.word
  .obtain rfl:X=T:=by rw[<-hz];simp[e1,e2,e3]
   simp only[go_sem,e1,e2]
  .obtain rfl:X=F:=by rw[<-hz];simp[e3]
   simp only[go_sem,e1,e2]
 have H:(k:Int)<(z p.funcs:Int):=a6;obtain⟨fn,hs⟩:=getq af;have hg:=getD_at (f:=fnD) hs;have a':fnD fn=[.str fn.name,.sl (fn.params.map λs=>[.str s]),.sl (fn.locals.map λs=>[.str s]),.bool fn.word,.sl (fn.body.map smD)]:=rfl;rw[a']at hg;obtain⟨⟨i1,u⟩,i3⟩:=w fn (l5 hs);have hF:=hF k fn hs;have hU:=JF (o:=o) (aE fn.body) fn.body (l0 _) a6;have c:=Src.wh fn.body;have bd:=Src.rO fn.body;have b3:=Src.xU P hs;unfold gS at b3;rw[l4,x7,B9]at b3;have b3:=b3.2;unfold ed at hU;obtain⟨b1,b2⟩:=dG hc hs;simp only[go_sem,q1,o1,q3,H,j5,hg];refine cK rfl (by simp only[go_sem];exact hU) ?_;rintro _ rfl;unfold rR;obtain⟨us,L⟩:∃us,iL fn.body=us:=⟨_,rfl⟩
 rw[L]at b1 b2 c bd b3|-;obtain⟨y,hy⟩:∃y,us.all (te p fn)=y:=⟨_,rfl⟩
 rw[hy]at b1 b2;simp only[go_sem];refine dF (λj K=>(us.drop j).all (te p fn)=y/\K.f 1=.one (.ptr 1 (K.gen 1) 0)/\K.obj 1=S [.d (.sl (p.vars.map λs=>[.str s])),.d (.sl (p.arrays.map arD)),.d (.sl (p.funcs.map fnD))]/\K.f 3=iv .i64 k/\K.f 4=.one (.d (.sl (us.map usD)))/\K.f 5=iv .i64 j) (z us) ⟨hy,?_⟩ ?_
 .simp only[go_sem,q1,o1,q3]
 clear q1 o1 q3;rintro j f g1 ad hj ⟨hd,q1,o1,q3,q4,q5⟩;simp only at q1 o1 q3 q4 q5;have c7:=ab (k:=j) a6;by_cases B:j<z us
 case neg=>
  have b6:¬(j:Int)<(z us:Int):=a6;rw[y2 a6]at hd;simp only[go_sem,q4,q5,b6,j5,q3,hw];refine bM af ⟨b1 hd.symm,?_⟩;exact Un
 have b6:(j:Int)<(z us:Int):=a6;obtain⟨x,I⟩:=getq B;obtain⟨U,Y⟩:=dG hd I;have t:=getD_at (f:=usD) I;have h:=l5 I;have av:=bd x h;have G:=b3 x h;have E:usD x=[.str x.1,.int .i64 x.2.1,.int .i64 x.2.2]:=rfl;rw[E]at t;have hF:=hF x.1;unfold te at U Y;unfold wb at G;by_cases e4:x.2.1=4
 case neg=>
  rw[j8 e4]at U;simp only[go_sem,q1,o1,q3,q4,q5,b6,j5,t,e4,c7];refine bM B ⟨U rfl,?_⟩;simp only[go_sem,q1,o1,q3,q4]
 rw[l7 e4]at U Y;obtain⟨A,hA⟩:∃A,(kp p fn x.1).1=A:=⟨_,rfl⟩
 obtain⟨n,hn⟩:∃n,(kp p fn x.1).2=n:=⟨_,rfl⟩
 have a1:=Src.Bv p fn x.1
 have bk:0<=n/\n<z p.funcs:=by
  rw[hA,hn,e4]at G;simp at G;refine⟨?_,a6⟩;rw[<-hn,a1];cases V:Src.bw (Src.bA p) (Src.bC fn) x.1 with
  |none=>
    rw[a1,V]at hA;simp only at hA;omega
  |some r=>simp
 rw[hn]at U Y;rw[hA,hn]at hF;obtain⟨m,rfl⟩:∃m:Nat,n=(m:Int):=⟨n.toNat,a6⟩
 rw[B6]at U Y;obtain⟨b,Q⟩:=getq (l:=p.funcs) (k:=m) a6;rw[Q]at U Y;simp only at U Y;have Z:=getD_at (f:=fnD) Q;have a':fnD b=[.str b.name,.sl (b.params.map λs=>[.str s]),.sl (b.locals.map λs=>[.str s]),.bool b.word,.sl (b.body.map smD)]:=rfl;rw[a']at Z;simp only[go_sem,q1,o1,q3,q4,q5,b6,j5,t,e4];refine dS aR mixed aG [] [([1],[],[],F),([3],[],[],F),([4],[],[],F),([5],[],[],F),([38,39],[],[],F),([40],[],[],F),([41],[],[],F),([36,37,42],[],[],F),([43],[],[],F),([35],[],[],F),([35],[],[],F),([44],[],[],F),([45],[],[],T)] 0 rfl b9 rfl a7 ?_;simp only[go_sem]
 iterate 7 (apply ay;(case hg=>first|exact w8|exact⟨_,rfl,by decide,rfl⟩);(case U=>intro fa ga oa K' J;simp only[go_sem,q1,o1,q3,q4,q5,t]at J|-;exact J))
 refine ay (v:=.tup [iv .i64 A,iv .i64 m]) w8 (λfa ga oa K' J=>?_) ?_
 .exact V2
 iterate 4 (apply ay;(case hg=>first|exact w8|exact⟨_,rfl,by decide,rfl⟩);(case U=>intro fa ga oa K' J;simp only[go_sem]at J|-;exact J))
 refine dU w8 ?_;intro K' b0;simp only[go_sem];refine b0 _ ?_;clear b0 K';simp only[go_sem];refine bh b9 ?_;have W:(0:Int)<=(m:Int):=a6;by_cases e5:(z b.params:Int)=x.2.2
 .simp only[go_sem,q1,o1,q3,q4,q5,t,Z,W,j5,e5,c7]
  refine bM B ⟨U (B3 e5),?_⟩;simp only[go_sem,q1,o1,q3,q4]
 .have bl:y=F:=Y (z7 e5)
  rw[b2 bl]at hz;obtain rfl:X=F:=by rw[<-hz];simp
  simp only[go_sem,q1,o1,q3,q4,q5,t,Z,W,j5,e5]
def Js(p:Src.Prog)(hp:Sm p)(U:1<=z p.funcs):bP Tryz.prog 4 o 35 [cn p] (·=iv .i64 (Src.jx p:Nat)):=by
 refine hdG Tryz.func35 rfl [.tmp 2] λO bo s0 w0 g=>?_;rw[<-Src.SR];have hN:=Np (o:=o) p hp;obtain⟨a,d⟩:=getq (l:=p.funcs) (k:=z p.funcs-1) a6;have j:=λh=>GD (o:=o) p hp h a d;obtain⟨X,b⟩:∃X,Src.Jr p=X:=⟨_,rfl⟩
 rw[b];unfold Src.Jr at b;rw[Dy d]at b;rw[dn]at hN j|-;simp only[go_sem];refine cK rfl Xc ?_;rintro _ rfl;by_cases hb:(eK (fH p)&&bE (gS p) 0 p.funcs)=F
 .rw[l7 hb]at b
  subst b;simp only[go_sem,hb]
 rw[j8 hb]at b;have hb:(eK (fH p)&&bE (gS p) 0 p.funcs)=T:=by simpa using hb
 have j:=j (l4 _ _▸hb).2;simp only[go_sem,hb];refine cK rfl (by simp only[go_sem];exact j) ?_;rintro _ rfl;by_cases h:(p.funcs.all λf=>(iL f.body).all (te p f))=T/\a.name=Src.Pt/\a.params=[]/\a.word=F
 .simp only[l7 h]at b
  subst b;simp only[go_sem,B3 h]
 .simp only[j8 h]at b
  subst b;simp only[go_sem,z7 h]
end
end
end Go.Proofs.YtednjibjomfhfaaGreatDoor
namespace Go.Src
section
attribute [local congr] Go.Am.ite_cc
open Go.Asm (Str)
section
def nx:∀(fs:List Fn)(k:Nat)(s:Str),cH fs s=if bb k (fs.map (·.name)) s<0 then N else fs[(bb k (fs.map (·.name)) s).toNat-k]?
 |[],_,_=>rfl
 |f::l,k,s=>by
   rw[cH,l9,bb];by_cases h:f.name=s
   .rw[l7 h,l7 h,j8 a6,show ((k:Int).toNat-k)=0 by omega];rfl
   .rw[j8 h,j8 h,nx l (k+1)]
    have:=jj (l.map (·.name)) (k+1) s;split
    .rfl
    .rename_i a
     rw[show (bb (k+1) (l.map (·.name)) s).toNat-k=((bb (k+1) (l.map (·.name)) s).toNat-(k+1))+1 by omega,v7]
def rQ(fs:List Fn)(s:Str):Int:=bb 0 (fs.map (·.name)) s
variable{fs:List Fn}
def SS{s:Str}(h:rQ fs s<0):cH fs s=N:=(nx fs 0 s).trans (l7 h)
def SV{s:Str}(h:¬rQ fs s<0):∃(k:Nat)(f:Fn),rQ fs s=(k:Int)/\fs[k]?=S f/\cH fs s=S f:=by
 have c:=jj (fs.map (·.name)) 0 s;rw[j5]at c;unfold rQ at h|-;obtain⟨k,a⟩:∃k:Nat,bb 0 (fs.map (·.name)) s=(k:Int):=⟨(bb 0 (fs.map (·.name)) s).toNat,a6⟩
 have b:k<z fs:=a6;refine⟨k,fs[k],a,y8 b,?_⟩;rw[nx fs 0,j8 h,a];simp[b]
end
end
end Go.Src
namespace Go.Proofs.YtednjibjomfhfaaGreatDoor
section
open Go Go.Am Go.Asm
open Go.Src (Ex Stm szE aH szS aE rQ cH iO ie cJ mq cj iy dj lI bF)
attribute[local congr]ite_cc
section
def ny(p:Src.Prog)(hf:z p.funcs<=1000000)(s:Str):aF Tryz.prog 104 [cn p,sv s] (·=iv .i64 (rQ p.funcs s)):=by
 refine hdP Tryz.func104 rfl [4] λg=>?_;unfold rQ;obtain⟨X,j⟩:∃X,Src.bb 0 (p.funcs.map (·.name)) s=X:=⟨_,rfl⟩
 rw[j,dn];simp only[go_sem];refine dF (λk K=>Src.bb k ((p.funcs.drop k).map (·.name)) s=X/\K.f 2=.one (.ptr 2 (K.gen 2) 0)/\K.obj 2=S [.d (.sl (p.vars.map λs=>[.str s])),.d (.sl (p.arrays.map arD)),.d (.sl (p.funcs.map fnD))]/\K.f 1=sv s/\K.f 5=iv .i64 k) (z p.funcs) ⟨j,?_⟩ ?_
 .exact hG
 rintro k f w x y ⟨a,e,i,l,m⟩;simp only at e i l m;have u:=ab (k:=k) a6;by_cases r:k<z p.funcs
 case neg=>
  have H:¬(k:Int)<(z p.funcs:Int):=a6;rw[y2 a6]at a;have j:X = -1:=a.symm;simp only[go_sem,e,i,m,H,j5,j]
 have H:(k:Int)<(z p.funcs:Int):=a6;obtain⟨fn,t⟩:=getq r;have o:=getD_at (f:=fnD) t;have v:fnD fn=[.str fn.name,.sl (fn.params.map λs=>[.str s]),.sl (fn.locals.map λs=>[.str s]),.bool fn.word,.sl (fn.body.map smD)]:=rfl;rw[v]at o;rw[eH t,l9,Src.bb]at a;by_cases hn:fn.name=s
 .rw[l7 hn]at a
  subst a;simp only[go_sem,e,i,l,m,H,j5,o,hn]
 .rw[j8 hn]at a
  simp only[go_sem,e,i,l,m,H,j5,o,hn,u];refine bM r ⟨a,?_⟩;simp only[go_sem,e,i,l]
section
variable{s:St}{p:Src.Prog}
def zj{x:Str}:eu s [.agg [.d (.sl (p.vars.map λs=>[.str s])),.d (.sl (p.arrays.map arD)),.d (.sl (p.funcs.map fnD))],sv x] [cn p,sv x]:=⟨_,_,rfl,rJ (je p),_,_,rfl,⟨_,.d _,rfl⟩,rfl⟩
def zk{x:List (List D)}:eu s [.agg [.d (.sl (p.vars.map λs=>[.str s])),.d (.sl (p.arrays.map arD)),.d (.sl (p.funcs.map fnD))],.one (.d (.sl x))] [cn p,.one (.d (.sl x))]:=⟨_,_,rfl,rJ (je p),_,_,rfl,⟨_,.d _,rfl⟩,rfl⟩
end
def ud{fs:List Src.Fn}:∀l:List Ex,cJ fs l=l.all (ie fs)
 |[]=>by simp[cJ]
 |e::l=>by simp[cJ,ud l]
def pn{fs:List Src.Fn}:∀l:List Stm,cj fs l=l.all (mq fs)
 |[]=>by simp[cj]
 |e::l=>by simp[cj,pn l]
def Bp{fs:List Src.Fn}{t:Int}:∀l:List Ex,dj fs t l=l.all λe=>decide (iy fs e=t)
 |[]=>by simp[dj]
 |e::l=>by simp[dj,Bp l]
def ue{fs:List Src.Fn}{w:Bool}:∀l:List Stm,bF fs w l=l.all (lI fs w)
 |[]=>by simp[bF]
 |e::l=>by simp[bF,ue l]
def Nq(p:Src.Prog)(hf:z p.funcs<=1000000):∀(av:Nat)(l:List Ex),aH l<=av->av<=1000000000->aF Tryz.prog 105 [cn p,dE l] (·=bv (cJ p.funcs l)):=by
 intro av
 induction av using Nat.strongRecOn with
 |ind av w=>
 intro l A i;refine hdP Tryz.func105 rfl [4] λg=>?_;obtain⟨X,t⟩:∃X,cJ p.funcs l=X:=⟨_,rfl⟩
 rw[t,dn];rw[ud]at t;have G:=Src.Kr l;unfold dE;simp only[go_sem];refine dF (λk K=>(l.drop k).all (ie p.funcs)=X/\K.f 2=.one (.ptr 2 (K.gen 2) 0)/\K.obj 2=S [.d (.sl (p.vars.map λs=>[.str s])),.d (.sl (p.arrays.map arD)),.d (.sl (p.funcs.map fnD))]/\K.f 1=.one (.d (.sl (l.map exD)))/\K.f 5=iv .i64 k) (z l) ⟨t,?_⟩ ?_
 .exact hG
 rintro k f O W Z ⟨hc,j,m,q1,q5⟩;simp only at j m q1 q5;have x:=ab (k:=k) a6;by_cases v:k<z l
 case neg=>
  exact x3
 have H:(k:Int)<(z l:Int):=a6;obtain⟨e,u⟩:=getq v;obtain⟨U,Y⟩:=dG hc u;have bc:=Src.se (l5 u);have o:=getD_at (f:=exD) u;obtain⟨kind,op,num,name,a⟩:=e;rw[szE]at bc;rw[ie]at U Y;have I:exD (.mk kind op num name a)=[.int .i64 kind,.int .i64 op,.int .u32 num,.str name,.sl (a.map exD)]:=by simp only[exD,aA]
 rw[I]at o;have J:=w (aH a) a6 a (l0 _) a6;unfold dE at J;simp only[go_sem,q1,q5,H,j5];refine dC aR mixed b9 ?_;by_cases r:kind=4
 case' pos=>
  rw[l7 r]at U Y;simp only[go_sem,q1,j,m,q5,o,H,r];refine bm rfl (ny p hf name) XX rfl ?_;by_cases hn:rQ p.funcs name<0
  .obtain rfl:=Y (by rw[Src.SS hn];rfl)
   simp only[go_sem,hn]
  obtain⟨_,_,_,_,y⟩:=Src.SV hn;rw[y,C0,w7]at U Y;simp only[go_sem,q1,j,m,q5,o,H,hn]
 case' neg=>
  rw[j8 r,w7]at U Y;simp only[go_sem,q1,j,m,q5,o,H,r]
 all_goals refine bm rfl J XY rfl ?_
 all_goals cases c:cJ p.funcs a
 all_goals simp only[go_sem,c,q5,x]
 any_goals exact(Y c).symm
 all_goals refine bM v ⟨U c,?_⟩
 all_goals simp only[go_sem,j,m,q1]
def zl(p:Src.Prog)(hf:z p.funcs<=1000000):∀(av:Nat)(l:List Stm),aE l<=av->av<=1000000000->aF Tryz.prog 63 [cn p,ed l] (·=bv (cj p.funcs l)):=by
 intro av
 induction av using Nat.strongRecOn with
 |ind av w=>
 intro l Z i;refine hdP Tryz.func63 rfl [4] λg=>?_;obtain⟨X,u⟩:∃X,cj p.funcs l=X:=⟨_,rfl⟩
 rw[u,dn];rw[pn]at u;have cv:=Src.Ks l;unfold ed;simp only[go_sem];refine dF (λk K=>(l.drop k).all (mq p.funcs)=X/\K.f 2=.one (.ptr 2 (K.gen 2) 0)/\K.obj 2=S [.d (.sl (p.vars.map λs=>[.str s])),.d (.sl (p.arrays.map arD)),.d (.sl (p.funcs.map fnD))]/\K.f 1=.one (.d (.sl (l.map smD)))/\K.f 5=iv .i64 k) (z l) ⟨u,?_⟩ ?_
 .exact hG
 rintro k f g1 ad hk ⟨hc,j,m,q1,q5⟩;simp only at j m q1 q5;have O:=ab (k:=k) a6;by_cases x:k<z l
 case neg=>
  exact x3
 have H:(k:Int)<(z l:Int):=a6;obtain⟨e,v⟩:=getq x;obtain⟨U,Y⟩:=dG hc v;have bc:=Src.kO (l5 v);have o:=getD_at (f:=smD) v;obtain⟨kind,name,e,r,el⟩:=e;rw[szS]at bc;rw[mq]at U Y;have I:smD (.mk kind name e r el)=[.int .i64 kind,.str name,.sl (e.map exD),.sl (r.map smD),.sl (el.map smD)]:=by simp only[smD,aA,cT]
 rw[I]at o;have y:=Nq p hf (aH e) e (l0 _) a6;have A:=w (aE r) a6 r (l0 _) a6;have G:=w (aE el) a6 el (l0 _) a6;unfold dE at y;unfold ed at A G;simp only[go_sem,q1,q5,H,j5];refine dC aR mixed b9 ?_;by_cases t:kind=6
 case' pos=>
  rw[l7 t]at U Y;simp only[go_sem,q1,j,m,q5,o,H,t];refine bm rfl (ny p hf name) XX rfl ?_;by_cases hn:rQ p.funcs name<0
  .obtain rfl:=Y (by rw[Src.SS hn];rfl)
   simp only[go_sem,hn]
  obtain⟨_,_,_,_,W⟩:=Src.SV hn;rw[W,C0,w7]at U Y;simp only[go_sem,q1,j,m,q5,o,H,hn]
 case' neg=>
  rw[j8 t,w7]at U Y;simp only[go_sem,q1,j,m,q5,o,H,t]
 all_goals refine bm rfl y XY rfl ?_
 all_goals cases c:cJ p.funcs e
 all_goals simp only[go_sem,c,q1,j,m,q5,o,H]
 any_goals exact(Y (by rw[c];rfl)).symm
 all_goals refine bm rfl A XY rfl ?_
 all_goals cases a:cj p.funcs r
 all_goals simp only[go_sem,a,q1,j,m,q5,o,H]
 any_goals exact(Y (by rw[c,a];rfl)).symm
 all_goals refine bm rfl G XY rfl ?_
 all_goals cases b:cj p.funcs el
 all_goals simp only[go_sem,b,q5,O]
 any_goals exact(Y (by rw[c,a,b];rfl)).symm
 all_goals refine bM x ⟨U (by rw[c,a,b];rfl),?_⟩
 all_goals simp only[go_sem,j,m,q1]
end
section
variable{fs:List Src.Fn}
def Jt{s:Str}(h:rQ fs s<0):iO fs s=F:=by unfold iO;rw[Src.SS h]
def Rb(p:Src.Prog)(hf:z p.funcs<=1000000)(kind op num:Int)(name:Str)(kids:List Ex)(hW:aF Tryz.prog 107 [cn p,dE kids] (·=bv (dj p.funcs 1 kids)))(hB:aF Tryz.prog 106 [cn p,dE kids] (·=bv (dj p.funcs 2 kids))):
  aF Tryz.prog 176 [cn p,exV (.mk kind op num name kids)] (·=iv .i64 (iy p.funcs (.mk kind op num name kids))):=by
 refine hdP Tryz.func176 rfl [4] λg=>?_;have j:exV (.mk kind op num name kids)=.agg [.d (.int .i64 kind),.d (.int .i64 op),.d (.int .u32 num),.d (.str name),.d (.sl (kids.map exD))]:=by simp only[exV,exD,aA,l9,v8]
 have hN:=ny p hf name;obtain⟨X,hz⟩:∃X,iy p.funcs (.mk kind op num name kids)=X:=⟨_,rfl⟩
 rw[hz,j];rw[iy]at hz;unfold dE at hW hB;rw[dn]at hW hB hN|-;have hk:kind=1\/kind=2\/kind=5\/kind=3\/kind=4\/kind=6\/kind=7\/kind=8\/kind=9\/(¬kind=1/\¬kind=2/\¬kind=3/\¬kind=4/\¬kind=5/\¬kind=6/\¬kind=7/\¬kind=8/\¬kind=9):=a6;rcases hk with rfl|rfl|rfl|rfl|rfl|rfl|rfl|rfl|rfl|⟨m,n,o,q,t,r,u,v,a⟩
 iterate 3
  .obtain rfl:X=1:=by rw[<-hz];simp
   simp only[go_sem]
 .simp only[go_sem]
  refine bT rfl XZ ?_;rintro _ rfl;cases hw:dj p.funcs 1 kids
  .exact Ut
  .obtain rfl:X=1:=by rw[<-hz,hw];simp
   exact hG
 .simp only[go_sem]
  refine bT rfl Xc ?_;rintro _ rfl;by_cases hn:rQ p.funcs name<0
  .obtain rfl:X=0:=by rw[<-hz,Jt hn];simp
   simp only[go_sem,show ¬0<=rQ p.funcs name by omega]
  obtain⟨k,fn,hk,A,w⟩:=Src.SV hn;have i:=getD_at (f:=fnD) A;have x:fnD fn=[.str fn.name,.sl (fn.params.map λs=>[.str s]),.sl (fn.locals.map λs=>[.str s]),.bool fn.word,.sl (fn.body.map smD)]:=rfl;rw[x]at i;have G:iO p.funcs name=fn.word:=by unfold iO;rw[w]
  rw[G]at hz;have an:(0:Int)<=(k:Int):=a6;cases b:fn.word
  .obtain rfl:X=0:=by rw[<-hz,b];simp
   simp only[go_sem,hk,an,i,b]
  simp only[go_sem,hk,an,i,b];refine bT rfl XZ ?_;rintro _ rfl;cases hw:dj p.funcs 1 kids
  .exact Ut
  .obtain rfl:X=1:=by rw[<-hz,hw,b];simp
   exact hG
 .simp only[go_sem]
  refine bT rfl XZ ?_;rintro _ rfl;cases hw:dj p.funcs 1 kids
  .exact Ut
  by_cases e:op=14
  .obtain rfl:X=2:=by rw[<-hz,hw,e];simp
   simp only[go_sem,e]
  by_cases l:op=15
  .obtain rfl:X=2:=by rw[<-hz,hw,l];simp
   simp only[go_sem,l]
  obtain rfl:X=1:=by rw[<-hz,hw];simp[e,l]
  simp only[go_sem,e,l]
 iterate 3
  .simp only[go_sem]
   refine bT rfl Xn ?_;rintro _ rfl;cases hw:dj p.funcs 2 kids
   .exact Ut
   .obtain rfl:X=2:=by rw[<-hz,hw];simp
    exact hG
 .obtain rfl:X=0:=by rw[<-hz,l7 a6]
  simp only[go_sem,m,n,o,q,t,r,u,v,a]
def Nr(p:Src.Prog)(hf:z p.funcs<=1000000):∀(av:Nat)(l:List Ex),aH l<=av->av<=1000000000->aF Tryz.prog 107 [cn p,dE l] (·=bv (dj p.funcs 1 l))/\aF Tryz.prog 106 [cn p,dE l] (·=bv (dj p.funcs 2 l)):=by
 intro av
 induction av using Nat.strongRecOn with
 |ind av O=>
 intro l Z i;have cv:=Src.Kr l
 have A:∀(k:Nat)(e:Ex),l[k]?=S e->aF Tryz.prog 176 [cn p,exV e] (·=iv .i64 (iy p.funcs e)):=λk e o=>by
  have bc:=Src.se (l5 o);obtain⟨kind,op,num,name,j⟩:=e;rw[szE]at bc;have:=O (aH j) a6 j (l0 _) a6;exact Rb p hf kind op num name j this.1 this.2
 unfold dE;rw[dn]at A|-;constructor
 case' left=>
  refine hdP Tryz.func107 rfl [4] λg=>?_;obtain⟨t,m⟩:∃t:Int,t=1:=⟨_,rfl⟩
  rw[show dj p.funcs 1 l=dj p.funcs t l by rw[m]]
 case' right=>
  refine hdP Tryz.func106 rfl [4] λg=>?_;obtain⟨t,m⟩:∃t:Int,t=2:=⟨_,rfl⟩
  rw[show dj p.funcs 2 l=dj p.funcs t l by rw[m]]
 all_goals obtain⟨X,u⟩:∃X,dj p.funcs t l=X:=⟨_,rfl⟩
 all_goals rw[u]
 all_goals rw[Bp]at u
 all_goals simp only[go_sem]
 all_goals refine dF (λk K=>((l.drop k).all λe=>decide (iy p.funcs e=t))=X/\K.f 2=.one (.ptr 2 (K.gen 2) 0)/\K.obj 2=S [.d (.sl (p.vars.map λs=>[.str s])),.d (.sl (p.arrays.map arD)),.d (.sl (p.funcs.map fnD))]/\K.f 1=.one (.d (.sl (l.map exD)))/\K.f 5=iv .i64 k) (z l) ⟨u,Wh⟩ ?_
 all_goals rintro k f g1 ad hk ⟨hc,v,w,q1,q5⟩
 all_goals simp only at v w q1 q5
 all_goals have W:=ab (k:=k) a6
 all_goals
  by_cases G:k<z l
  rotate_left
  .exact x3
  have H:(k:Int)<(z l:Int):=a6;obtain⟨e,o⟩:=getq G;obtain⟨U,Y⟩:=dG hc o;have I:=getD_at (f:=exD) o;have h:=A k e o;have y:∃a b c d x,exD e=[.int .i64 a,.int .i64 b,.int .u32 c,.str d,.sl x]:=by cases e;exact⟨_,_,_,_,_,by rw[exD]⟩
  obtain⟨a,b,c,d,x,y⟩:=y;unfold exV at h;rw[y]at h I;simp only[go_sem,q1,q5,H,j5];refine jN b9 ?_;simp only[go_sem,q1,v,w,q5,H,I];refine bT rfl (by simp only[go_sem];exact h) ?_;rintro _ rfl;by_cases bk:iy p.funcs e=t
  .rw[m]at bk
   simp only[go_sem,bk,q5,W];refine bM G ⟨U (B3 (by rw[bk,m])),?_⟩;simp only[go_sem,v,w,q1]
  .obtain rfl:=Y (z7 bk)
   rw[m]at bk;simp only[go_sem,bk]
def Vc{kind:Int}{e:List Ex}:dj fs (if kind=4\/kind=5 then 2 else 1) e=if kind=4\/kind=5 then dj fs 2 e else dj fs 1 e:=by split<;>rfl
def Rc(p:Src.Prog)(hf:z p.funcs<=1000000)(w:Bool):∀(av:Nat)(l:List Stm),aE l<=av->av<=1000000000->cj p.funcs l=T->aF Tryz.prog 64 [cn p,bv w,ed l] (·=bv (bF p.funcs w l)):=by
 intro av
 induction av using Nat.strongRecOn with
 |ind av ih=>
 intro l hN i c;refine hdP Tryz.func64 rfl [6] λg=>?_;obtain⟨X,hz⟩:∃X,bF p.funcs w l=X:=⟨_,rfl⟩
 rw[hz,dn];rw[ue]at hz;rw[pn,x7]at c;have cv:=Src.Ks l;unfold ed;simp only[go_sem];refine dF (λk K=>(l.drop k).all (lI p.funcs w)=X/\K.f 3=.one (.ptr 3 (K.gen 3) 0)/\K.obj 3=S [.d (.sl (p.vars.map λs=>[.str s])),.d (.sl (p.arrays.map arD)),.d (.sl (p.funcs.map fnD))]/\K.f 1=bv w/\K.f 2=.one (.d (.sl (l.map smD)))/\K.f 7=iv .i64 k) (z l) ⟨hz,?_⟩ ?_
 .exact hG
 rintro k f g1 ad hk ⟨hc,j,o3,o,u,v⟩;simp only at j o3 o u v;have hw:=ab (k:=k) a6;by_cases af:k<z l
 case neg=>
  have H:¬(k:Int)<(z l:Int):=a6;rw[y2 a6]at hc;obtain rfl:X=T:=hc.symm;simp only[go_sem,u,v,H,j5]
 have H:(k:Int)<(z l:Int):=a6;obtain⟨e,he⟩:=getq af;obtain⟨U,Y⟩:=dG hc he;have bc:=Src.kO (l5 he);have c:=c e (l5 he);have hg:=getD_at (f:=smD) he;obtain⟨kind,name,e,x,el⟩:=e;rw[szS]at bc;rw[mq]at c;simp only[l4]at c;rw[lI,Vc]at U Y;have I:smD (.mk kind name e x el)=[.int .i64 kind,.str name,.sl (e.map exD),.sl (x.map smD),.sl (el.map smD)]:=by simp only[smD,aA,cT]
 rw[I]at hg;obtain⟨hW,hB⟩:=Nr p hf (aH e) e (l0 _) a6;have hT:=ih (aE x) a6 x (l0 _) a6 c.2.1;have hL:=ih (aE el) a6 el (l0 _) a6 c.2.2;have hN:=ny p hf name;rw[dn]at hW hB hT hL;unfold dE at hW hB;unfold ed at hT hL;obtain⟨y,Z⟩:∃y,(if kind=4\/kind=5 then dj p.funcs 2 e else dj p.funcs 1 e)=y:=⟨_,rfl⟩
 rw[Z]at U Y;have bl:y=F->X=F:=λe=>Y (by rw[e];simp);by_cases k4:kind=4
 case' pos=>
  rw[l7 (.inl k4)]at Z;simp only[go_sem,u,j,o3,v,H,j5,hg,k4];refine bT rfl Xn ?_;rintro _ rfl;rw[Z];have r:¬kind=6:=a6
 case' neg=>
  by_cases k5:kind=5
  case' pos=>
   rw[l7 (.inr k5)]at Z;simp only[go_sem,u,j,o3,v,H,j5,hg,k5];refine bT rfl Xn ?_;rintro _ rfl;rw[Z];have r:¬kind=6:=a6
  case' neg=>
   rw[j8 a6]at Z;simp only[go_sem,u,j,o3,v,H,j5,hg,k4,k5];refine bT rfl XZ ?_;rintro _ rfl;rw[Z];by_cases r:kind=6
   case pos=>
    cases y
    .obtain rfl:=bl rfl
     exact hG
    simp only[go_sem];refine dC aR mixed b9 ?_;have bk:(cH p.funcs name).isSome=T:=by have:=c.1.1;rwa [l7 r]at this
    have hn:¬rQ p.funcs name<0:=λh=>by rw[Src.SS h]at bk;cases bk
    obtain⟨m,fn,hm,A,hs⟩:=Src.SV hn;have b:=getD_at (f:=fnD) A;have a':fnD fn=[.str fn.name,.sl (fn.params.map λs=>[.str s]),.sl (fn.locals.map λs=>[.str s]),.bool fn.word,.sl (fn.body.map smD)]:=rfl;rw[a']at b;have G:iO p.funcs name=fn.word:=by unfold iO;rw[hs]
    have W:(0:Int)<=(m:Int):=a6;rw[G]at U Y;cases b2:fn.word
    case true=>
     obtain rfl:=Y (by simp[b2,r]);simp only[go_sem,r,j,o3];refine bm rfl hN XX rfl ?_;simp only[go_sem,hm,W,b,b2]
    simp only[go_sem,r,j,o3];refine bm rfl hN XX rfl ?_;simp only[go_sem,hm,W,b,b2,r,o,j,o3];refine bT rfl WO ?_;rintro _ rfl;cases t:bF p.funcs w x
    .obtain rfl:=Y (by simp[t])
     exact hG
    simp only[go_sem,o,j,o3];refine bT rfl WQ ?_;rintro _ rfl;cases hl:bF p.funcs w el
    .obtain rfl:=Y (by simp[hl])
     exact hG
    simp only[go_sem,v,hw];refine bM af ⟨U (by simp[t,hl,b2,r]),?_⟩;simp only[go_sem,j,o3,o,u]
 all_goals
  cases y
  .obtain rfl:=bl rfl
   exact hG
  simp only[go_sem];refine dC aR mixed b9 ?_;by_cases O:kind=7
  rotate_left
  .simp only[go_sem,r,O,o,j,o3]
   refine bT rfl WO ?_;rintro _ rfl;cases t:bF p.funcs w x
   .obtain rfl:=Y (by simp[t])
    exact hG
   simp only[go_sem,o,j,o3];refine bT rfl WQ ?_;rintro _ rfl;cases hl:bF p.funcs w el
   .obtain rfl:=Y (by simp[hl])
    exact hG
   simp only[go_sem,v,hw];refine bM af ⟨U (by simp[t,hl,r,O]),?_⟩;simp only[go_sem,j,o3,o,u]
  by_cases E:0<(z e:Int)
  rotate_left
  .have n:¬0<z e:=a6
   simp only[go_sem,r,O,o,j,o3,j5,E];refine bT rfl WO ?_;rintro _ rfl;cases t:bF p.funcs w x
   .obtain rfl:=Y (by simp[t])
    exact hG
   simp only[go_sem,o,j,o3];refine bT rfl WQ ?_;rintro _ rfl;cases hl:bF p.funcs w el
   .obtain rfl:=Y (by simp[hl])
    exact hG
   simp only[go_sem,v,hw];refine bM af ⟨U (by simp[t,hl,O,n]),?_⟩;simp only[go_sem,j,o3,o,u]
  cases a:w
  .have n:0<z e:=a6
   obtain rfl:=Y (by simp[O,n,a]);simp only[go_sem,r,O,o,j,o3,j5,E,a]
   all_goals (exfalso;omega)
  .rw[a]at hT hL o U Y
   simp only[go_sem,r,O,o,j,o3,j5,E,a];refine bT rfl WO ?_;rintro _ rfl;cases t:bF p.funcs T x
   .obtain rfl:=Y (by simp[a,t])
    exact hG
   simp only[go_sem,o,j,o3];refine bT rfl WQ ?_;rintro _ rfl;cases hl:bF p.funcs T el
   .obtain rfl:=Y (by simp[a,hl])
    exact hG
   simp only[go_sem,v,hw];refine bM af ⟨U (by simp[t,hl,O,a]),?_⟩;simp only[go_sem,j,o3,o,u]
def Ju(p:Src.Prog)(hp:Sm p):aF Tryz.prog 36 [cn p] (·=iv .i64 (Src.qX p:Nat)):=by
 refine hdP Tryz.func36 rfl [2] λg=>?_;obtain⟨X,i⟩:∃X,Src.qX p=X:=⟨_,rfl⟩
 rw[i];unfold Src.qX at i;obtain⟨Z,pa,pf,w⟩:=hp;have J:=λ(f:Src.Fn)(hf:f∈p.funcs)=>zl p a6 (aE f.body) f.body (l0 _) (by have:=(w f hf).2;omega);have y:=λ(f:Src.Fn)(hf:f∈p.funcs)=>Rc p a6 f.word (aE f.body) f.body (l0 _) (by have:=(w f hf).2;omega);unfold ed at J y;rw[dn]at J y|-;obtain⟨q,t⟩:∃q,(p.funcs.all λf=>cj p.funcs f.body)=q:=⟨_,rfl⟩
 have a:q=F->X=4:=λe=>by rw[<-i,t,l7 e]
 simp only[go_sem];refine dF (λk K=>((p.funcs.drop k).all λf=>cj p.funcs f.body)=q/\K.f 1=.one (.ptr 1 (K.gen 1) 0)/\K.obj 1=S [.d (.sl (p.vars.map λs=>[.str s])),.d (.sl (p.arrays.map arD)),.d (.sl (p.funcs.map fnD))]/\K.f 3=iv .i64 k) (z p.funcs) ⟨t,?_⟩ ?_
 .exact hG
 rintro k f I O hk ⟨j,q1,o1,m⟩;simp only at q1 o1 m;have x:=ab (k:=k) a6;by_cases o:k<z p.funcs
 .have H:(k:Int)<(z p.funcs:Int):=a6
  obtain⟨fn,l⟩:=getq o;have u:=getD_at (f:=fnD) l;have A:fnD fn=[.str fn.name,.sl (fn.params.map λs=>[.str s]),.sl (fn.locals.map λs=>[.str s]),.bool fn.word,.sl (fn.body.map smD)]:=rfl;rw[A]at u;obtain⟨U,Y⟩:=dG j l;simp only[go_sem,q1,o1,m,H,j5];refine jN b9 ?_;simp only[go_sem,q1,o1,m,H,u];refine bT rfl (by simp only[go_sem];exact J fn (l5 l)) ?_;rintro _ rfl;cases c:cj p.funcs fn.body
  .obtain rfl:=a (Y c)
   exact hG
  .simp only[go_sem,m,x]
   refine bM o ⟨U c,?_⟩;exact Un
 have H:¬(k:Int)<(z p.funcs:Int):=a6;rw[y2 a6]at j;have b:q=T:=j.symm;rw[t,j8 (by rw[b];decide)]at i;rw[b,x7]at t;clear j hk o x a;simp only[go_sem,q1,o1,m,H,j5];obtain⟨r,V⟩:∃r,(p.funcs.all λf=>bF p.funcs f.word f.body)=r:=⟨_,rfl⟩
 rw[V]at i;refine dF (λk K=>((p.funcs.drop k).all λf=>bF p.funcs f.word f.body)=r/\K.f 1=.one (.ptr 1 (K.gen 1) 0)/\K.obj 1=S [.d (.sl (p.vars.map λs=>[.str s])),.d (.sl (p.arrays.map arD)),.d (.sl (p.funcs.map fnD))]/\K.f 4=iv .i64 k) (z p.funcs) ⟨V,?_⟩ ?_
 .exact Un
 clear H q1 o1 m;rintro k f I O hk ⟨j,q1,o1,v⟩;simp only at q1 o1 v;have x:=ab (k:=k) a6;by_cases o:k<z p.funcs
 .have H:(k:Int)<(z p.funcs:Int):=a6
  obtain⟨fn,l⟩:=getq o;have u:=getD_at (f:=fnD) l;have A:fnD fn=[.str fn.name,.sl (fn.params.map λs=>[.str s]),.sl (fn.locals.map λs=>[.str s]),.bool fn.word,.sl (fn.body.map smD)]:=rfl;rw[A]at u;have G:=l5 l;obtain⟨U,Y⟩:=dG j l;simp only[go_sem,q1,o1,v,H,j5];refine jN b9 ?_;simp only[go_sem,q1,o1,v,H,u];refine bT rfl (by simp only[go_sem];exact y fn G (t fn G)) ?_;rintro _ rfl;cases c:bF p.funcs fn.word fn.body
  .rw[l7 (Y c)]at i
   subst i;exact hG
  .simp only[go_sem,v,x]
   refine bM o ⟨U c,?_⟩;exact Un
 have H:¬(k:Int)<(z p.funcs:Int):=a6;rw[y2 a6]at j;have W:r=T:=j.symm;rw[j8 (by rw[W];decide)]at i;subst i;simp only[go_sem,q1,o1,v,H,j5]
def Sm.inP{p:Src.Prog}(h:Sm p)(E:∀f∈p.funcs,Src.qM f.body):Src.InP p:=⟨by have:=h.v;omega,by have:=h.a;omega,by have:=h.f;omega,λf hf=>by
 have:=h.fs f hf;have:=Src.Ks f.body;exact⟨⟨a6,a6⟩,a6,E f hf⟩⟩
def Ns{o:cg}(p:Src.Prog)(hp:Sm p)(E:∀f∈p.funcs,Src.qM f.body):bP Tryz.prog 4 o 13 [cn p] (·=iv .i64 (Src.cW p:Nat)):=by
 refine hdG Tryz.func13 rfl [.tmp 2] λO bo s0 w0 g=>?_;obtain⟨X,a⟩:∃X,Src.cW p=X:=⟨_,rfl⟩
 rw[a];unfold Src.cW at a;have hR:=JC p (hp.inP E);have hT:=Ju p hp;have d:=λh=>Js (o:=o) p hp h;rw[dn]at hR hT d|-;simp only[go_sem];refine jU rfl Yx ?_;rintro _ rfl;cases V:Src.cD p
 .rw[l7 V]at a
  subst a;exact hG
 rw[j8 (by rw[V];decide)]at a;have U:1<=z p.funcs:=by unfold Src.cD at V;simp at V;exact V.1.1.1
 simp only[go_sem];refine cK rfl (by simp only[go_sem];exact d U) ?_;rintro _ rfl;by_cases b:Src.jx p=0
 .rw[j8 (by simp[b])]at a
  subst a;simp only[go_sem,b];refine jU rfl WO ?_;rintro _ rfl;exact hG
 .rw[l7 b]at a
  subst a;have e:¬(Src.jx p:Int)=0:=a6;simp only[go_sem,e]
end
end
end Go.Proofs.YtednjibjomfhfaaGreatDoor
namespace Go.Src
section
attribute [local congr] Go.Am.ite_cc
def Jv(p:Prog):Bool:=(p.funcs.all λf=>decide (z f.params+z f.locals<=40))&&(decide ((p.arrays.map (·.2)).sum<=4096)&&(decide (z p.vars<=40)&&decide (z p.vars+z p.arrays+z p.funcs+(p.funcs.map λf=>z f.params+z f.locals+aE f.body).sum<=200)))
end
end Go.Src
namespace Go.Proofs.YtednjibjomfhfaaGreatDoor
section
open Go Go.Am Go.Asm
open Go.Src (Ex Stm szE aH szS aE)
attribute[local congr]ite_cc
def zm:∀(av:Nat)(l:List Ex),aH l<=av->av<=1000000000->aF Tryz.prog 108 [dE l] (·=iv .i64 (aH l:Nat)):=by
 intro av
 induction av using Nat.strongRecOn with
 |ind av w=>
 intro l y i;refine hdP Tryz.func108 rfl [2] λg=>?_;have A:=Src.Kr l;unfold dE;simp only[go_sem,j5];refine dF (λk K=>∃c:Nat,c+aH (l.drop k)=aH l+z (l.drop k)/\K.f 0=.one (.d (.sl (l.map exD)))/\K.f 3=iv .i64 (c:Nat)/\K.f 4=iv .i64 k) (z l) ⟨z l,by simp;omega,?_⟩ ?_
 .exact hG
 rintro k f G O hk ⟨c,j,q0,o,m⟩;simp only at q0 o m;have x:=ab (k:=k) a6;by_cases u:k<z l
 case neg=>
  have H:¬(k:Int)<(z l:Int):=a6;rw[y2 a6,aH]at j;have j:c=aH l:=by simpa using j
  simp only[go_sem,q0,o,m,H,j5,j]
 have H:(k:Int)<(z l:Int):=a6;obtain⟨e,t⟩:=getq u;have bc:=Src.se (l5 t);have v:=getD_at (f:=exD) t;obtain⟨kind,op,num,name,a⟩:=e;rw[eH t,aH,szE,j6]at j;rw[szE]at bc;have I:exD (.mk kind op num name a)=[.int .i64 kind,.int .i64 op,.int .u32 num,.str name,.sl (a.map exD)]:=by simp only[exD,aA]
 rw[I]at v;have J:=w (aH a) a6 a (l0 _) a6;have Y:=Src.Kr (l.drop (k+1));have b:IntKind.i64.wrap ((c:Int)+(aH a:Nat))=((c+aH a:Nat):Int):=by rw[wrap_i64]<;>omega
 unfold dE at J;simp only[go_sem,q0,o,m,H,j5,v];refine bT rfl (by simp only[go_sem];exact J) ?_;rintro _ rfl;simp only[go_sem,b,m,x];refine bM u ⟨c+aH a,a6,?_⟩;exact VX
def zn:∀(av:Nat)(l:List Stm),aE l<=av->av<=1000000000->aF Tryz.prog 65 [ed l] (·=iv .i64 (aE l:Nat)):=by
 intro av
 induction av using Nat.strongRecOn with
 |ind av u=>
 intro l W i;refine hdP Tryz.func65 rfl [2] λg=>?_;have X:=Src.Ks l;unfold ed;simp only[go_sem,j5];refine dF (λk K=>∃c:Nat,c+aE (l.drop k)=aE l+z (l.drop k)/\K.f 0=.one (.d (.sl (l.map smD)))/\K.f 3=iv .i64 (c:Nat)/\K.f 4=iv .i64 k) (z l) ⟨z l,by simp;omega,?_⟩ ?_
 .exact hG
 rintro k f Z ad hk ⟨c,m,q0,o,j⟩;simp only at q0 o j;have A:=ab (k:=k) a6;by_cases v:k<z l
 case neg=>
  have H:¬(k:Int)<(z l:Int):=a6;rw[y2 a6,aE]at m;have m:c=aE l:=by simpa using m
  simp only[go_sem,q0,o,j,H,j5,m]
 have H:(k:Int)<(z l:Int):=a6;obtain⟨e,t⟩:=getq v;have bc:=Src.kO (l5 t);have r:=getD_at (f:=smD) t;obtain⟨kind,name,e,a,el⟩:=e;rw[eH t,aE,szS,j6]at m;rw[szS]at bc;have I:smD (.mk kind name e a el)=[.int .i64 kind,.str name,.sl (e.map exD),.sl (a.map smD),.sl (el.map smD)]:=by simp only[smD,aA,cT]
 rw[I]at r;have w:=zm (aH e) e (l0 _) a6;have x:=u (aE a) a6 a (l0 _) a6;have y:=u (aE el) a6 el (l0 _) a6;have Y:=Src.Ks (l.drop (k+1));have O:IntKind.i64.wrap ((c:Int)+(aH e:Nat))=((c+aH e:Nat):Int):=by rw[wrap_i64]<;>omega
 have U:IntKind.i64.wrap (((c+aH e:Nat):Int)+(aE a:Nat))=((c+aH e+aE a:Nat):Int):=by rw[wrap_i64]<;>omega
 have G:IntKind.i64.wrap (((c+aH e+aE a:Nat):Int)+(aE el:Nat))=((c+aH e+aE a+aE el:Nat):Int):=by rw[wrap_i64]<;>omega
 unfold dE at w;unfold ed at x y;simp only[go_sem,q0,o,j,H,j5];refine dC aR mixed b9 ?_;simp only[go_sem,q0,o,j,H,r];refine bm rfl w Xw rfl ?_;simp only[go_sem,q0,j,H,r,O];refine bm rfl x Xw rfl ?_;simp only[go_sem,q0,j,H,r,U];refine bm rfl y Xw rfl ?_;simp only[go_sem,G,j,A];refine bM v ⟨c+aH e+aE a+aE el,a6,?_⟩;exact VX
def po(p:Src.Prog):szP p=z p.vars+z p.arrays+z p.funcs+(p.funcs.map λf=>z f.params+z f.locals+aE f.body).sum:=rfl
def Jw{f:Src.Fn->Nat}{l:List Src.Fn}{k:Nat}{x:Src.Fn}(h:l[k]?=S x):((l.drop k).map f).sum=f x+((l.drop (k+1)).map f).sum:=by rw[eH h,l9,D6]
def Re(p:Src.Prog)(j:szP p<=1000000):aF Tryz.prog 37 [cn p] (·=iv .i64 (szP p:Nat)):=by
 refine hdP Tryz.func37 rfl [2] λg=>?_;rw[po]at j|-;obtain⟨X,l⟩:∃X,z p.vars+z p.arrays+z p.funcs+(p.funcs.map λf=>z f.params+z f.locals+aE f.body).sum=X:=⟨_,rfl⟩
 rw[l]at j|-;have b1:IntKind.i64.wrap ((z p.vars:Int)+(z p.arrays:Int))=((z p.vars+z p.arrays:Nat):Int):=by rw[wrap_i64]<;>omega
 have u:IntKind.i64.wrap (((z p.vars+z p.arrays:Nat):Int)+(z p.funcs:Int))=((z p.vars+z p.arrays+z p.funcs:Nat):Int):=by rw[wrap_i64]<;>omega
 rw[dn];simp only[go_sem,j5,b1,u];refine dF (λk K=>∃c:Nat,c+((p.funcs.drop k).map λf=>z f.params+z f.locals+aE f.body).sum=X/\K.f 1=.one (.ptr 1 (K.gen 1) 0)/\K.obj 1=S [.d (.sl (p.vars.map λs=>[.str s])),.d (.sl (p.arrays.map arD)),.d (.sl (p.funcs.map fnD))]/\K.f 3=iv .i64 (c:Nat)/\K.f 4=iv .i64 k) (z p.funcs) ⟨_,l,?_⟩ ?_
 .exact hG
 rintro k f A I O ⟨c,a,q1,o1,i,e⟩;simp only at q1 o1 i e;have v:=ab (k:=k) a6;by_cases m:k<z p.funcs
 case neg=>
  have H:¬(k:Int)<(z p.funcs:Int):=a6;rw[y2 a6]at a;have a:c=X:=by simpa using a
  simp only[go_sem,q1,o1,i,e,H,j5,a]
 have H:(k:Int)<(z p.funcs:Int):=a6;obtain⟨fn,o⟩:=getq m;have r:=getD_at (f:=fnD) o;have w:fnD fn=[.str fn.name,.sl (fn.params.map λs=>[.str s]),.sl (fn.locals.map λs=>[.str s]),.bool fn.word,.sl (fn.body.map smD)]:=rfl;rw[w]at r;rw[Jw o]at a;have t:=zn (aE fn.body) fn.body (l0 _) a6;unfold ed at t;have x:IntKind.i64.wrap ((c:Int)+(z fn.params:Int))=((c+z fn.params:Nat):Int):=by rw[wrap_i64]<;>omega
 have y:IntKind.i64.wrap (((c+z fn.params:Nat):Int)+(z fn.locals:Int))=((c+z fn.params+z fn.locals:Nat):Int):=by rw[wrap_i64]<;>omega
 have G:IntKind.i64.wrap (((c+z fn.params+z fn.locals:Nat):Int)+(aE fn.body:Nat))=((c+z fn.params+z fn.locals+aE fn.body:Nat):Int):=by rw[wrap_i64]<;>omega
 simp only[go_sem,q1,o1,i,e,H,j5];refine dC aR mixed b9 ?_;simp only[go_sem,q1,o1,i,e,H,r,j5,x,y];refine bm rfl t Xw rfl ?_;simp only[go_sem,G,e,v];refine bM m ⟨c+z fn.params+z fn.locals+aE fn.body,a6,?_⟩;exact Un
def GF{l:List (Str×Int)}{k:Nat}{x:Str×Int}(h:l[k]?=S x):((l.drop k).map (·.2)).sum=x.2+((l.drop (k+1)).map (·.2)).sum:=by rw[eH h,l9,D6]
def Jx:∀{l:List (Str×Int)},(∀a∈l,0<=a.2)->0<=(l.map (·.2)).sum
 |[],_=>by simp
 |a::l,h=>by
   have:=Jx (l:=l) λx I=>h x Xs;have:=h a a8;simp only[l9,D6];omega
def Nt(p:Src.Prog)(hp:szP p<=1000000)(ha:∀a∈p.arrays,0<=a.2)(i:(p.arrays.map (·.2)).sum<=1000000000000):aF Tryz.prog 14 [cn p] (·=bv (Src.Jv p)):=by
 refine hdP Tryz.func14 rfl [2] λg=>?_;have hS:=Re p hp;rw[po]at hp hS;obtain⟨X,m⟩:∃X,Src.Jv p=X:=⟨_,rfl⟩
 rw[m];unfold Src.Jv at m;obtain⟨Z,hN⟩:∃Z,z p.vars+z p.arrays+z p.funcs+(p.funcs.map λf=>z f.params+z f.locals+aE f.body).sum=Z:=⟨_,rfl⟩
 rw[hN]at m hp hS;obtain⟨W,hW⟩:∃W,(p.arrays.map (·.2)).sum=W:=⟨_,rfl⟩
 rw[hW]at m i;rw[dn]at hS|-;simp only[go_sem];refine dF (λk K=>∃c:Int,c+((p.arrays.drop k).map (·.2)).sum=W/\0<=c/\K.f 1=.one (.ptr 1 (K.gen 1) 0)/\K.obj 1=S [.d (.sl (p.vars.map λs=>[.str s])),.d (.sl (p.arrays.map arD)),.d (.sl (p.funcs.map fnD))]/\K.f 3=iv .i64 c/\K.f 4=iv .i64 k) (z p.arrays) ⟨0,by simpa using hW,a7,?_⟩ ?_
 .exact hG
 rintro k f g1 ad hk ⟨c,y,bl,q1,o1,o,G⟩;simp only at q1 o1 o G;have O:=ab (k:=k) a6;by_cases v:k<z p.arrays
 .have H:(k:Int)<(z p.arrays:Int):=a6
  obtain⟨a,t⟩:=getq v;have w:=getD_at (f:=arD) t;have bk:arD a=[.str a.1,.int .i64 a.2]:=rfl;rw[bk]at w;rw[GF t]at y;have h0:=ha a (l5 t);have U:=Jx (l:=p.arrays.drop (k+1)) λx I=>ha x (J7 I);have b:IntKind.i64.wrap (c+a.2)=c+a.2:=wrap_i64 _ a6 a6;simp only[go_sem,q1,o1,o,G,H,j5,w,b,O];refine bM v ⟨c+a.2,a6,a6,?_⟩;exact Un
 have H:¬(k:Int)<(z p.arrays:Int):=a6;rw[y2 a6]at y;have y:c=W:=by simpa using y
 subst y;clear hk v O;simp only[go_sem,q1,o1,o,G,H,j5];obtain⟨r,V⟩:∃r,(p.funcs.all λf=>decide (z f.params+z f.locals<=40))=r:=⟨_,rfl⟩
 rw[V]at m;refine dF (λk K=>((p.funcs.drop k).all λf=>decide (z f.params+z f.locals<=40))=r/\K.f 1=.one (.ptr 1 (K.gen 1) 0)/\K.obj 1=S [.d (.sl (p.vars.map λs=>[.str s])),.d (.sl (p.arrays.map arD)),.d (.sl (p.funcs.map fnD))]/\K.f 3=iv .i64 c/\K.f 5=iv .i64 k) (z p.funcs) ⟨V,?_⟩ ?_
 .simp only[go_sem,q1,o1,o]
 clear H q1 o1 o G;rintro k f g1 ad hk ⟨hd,q1,o1,o,u⟩;simp only at q1 o1 o u;have O:=ab (k:=k) a6;by_cases v:k<z p.funcs
 .have H:(k:Int)<(z p.funcs:Int):=a6
  obtain⟨fn,t⟩:=getq v;have w:=getD_at (f:=fnD) t;have a':fnD fn=[.str fn.name,.sl (fn.params.map λs=>[.str s]),.sl (fn.locals.map λs=>[.str s]),.bool fn.word,.sl (fn.body.map smD)]:=rfl;rw[a']at w;obtain⟨U,Y⟩:=dG hd t;have hm:=kK (l5 t);rw[po,hN]at hm;have b:IntKind.i64.wrap ((z fn.params:Int)+(z fn.locals:Int))=((z fn.params+z fn.locals:Nat):Int):=by rw[wrap_i64]<;>omega
  simp only[go_sem,q1,o1,u,H,j5];refine jN b9 ?_;by_cases j:(40:Int)<((z fn.params+z fn.locals:Nat):Int)
  .obtain rfl:X=F:=by rw[<-m,Y (z7 a6)];rfl
   simp only[go_sem,q1,o1,u,H,w,j5,b,j]
  .simp only[go_sem,q1,o1,u,H,w,j5,b,j,O]
   refine bM v ⟨U (B3 a6),?_⟩;simp only[go_sem,q1,o1,o]
 have H:¬(k:Int)<(z p.funcs:Int):=a6;rw[y2 a6]at hd;rw[show r=T from hd.symm,w7]at m;by_cases A:c<=4096
 case neg=>
  obtain rfl:X=F:=by rw[<-m,z7 A];rfl
  simp only[go_sem,q1,o1,o,u,H,j5,A]
 rw[B3 A,w7]at m;by_cases hv:(z p.vars:Int)<=40
 case neg=>
  obtain rfl:X=F:=by rw[<-m,z7 (show ¬z p.vars<=40 by omega)];rfl
  simp only[go_sem,q1,o1,o,u,H,j5,A,hv]
 rw[B3 (show z p.vars<=40 by omega),w7]at m;simp only[go_sem,q1,o1,o,u,H,j5,A,hv];refine bT rfl XW ?_;rintro _ rfl;have e:decide ((Z:Int)<=200)=X:=by rw[<-m];congr 1;exact propext ⟨λh=>by omega,λh=>by omega⟩
 simp only[go_sem,e]
end
end Go.Proofs.YtednjibjomfhfaaGreatDoor
namespace Go.Asm
section
section
def uX:Nat->Nat->Str
 |0,_=>[]
 |k+1,n=>if n<10 then [UInt8.ofNat (48+n)]else uX k (n/10)++[UInt8.ofNat (48+n%10)]
def gg(n:Nat):Str:=uX (n+1) n
def uY:∀{k j n:Nat},n<k->n<j->uX k n=uX j n
 |0,_,_,h,_=>by omega
 |_+1,0,_,_,h=>by omega
 |k+1,j+1,n,h,a=>by
   unfold uX;by_cases o:n<10
   .rw[l7 o,l7 o]
   .rw[j8 o,j8 o,uY (k:=k) (j:=j) (n:=n/10) a6 a6]
variable{n:Nat}
def fJ(h:n<10):gg n=[UInt8.ofNat (48+n)]:=by unfold gg uX;rw[l7 h]
def kZ(h:¬n<10):gg n=gg (n/10)++[UInt8.ofNat (48+n%10)]:=by
 conv=>lhs;unfold gg uX
 rw[j8 h];unfold gg;rw[uY (j:=n/10+1) a6 a6]
def ri{d:Nat}(h:d<10):digit (UInt8.ofNat (48+d))=T/\(UInt8.ofNat (48+d)).toNat=48+d:=by
 have:(UInt8.ofNat (48+d)).toNat=48+d:=by rw[L6];omega
 refine⟨?_,this⟩;unfold digit;rw[this];simp;omega
def zQ(n:Nat):(gg n).all digit=T:=by
 induction n using Nat.strongRecOn with
 |ind n a=>
   by_cases h:n<10
   .rw[fJ h];simp only[C4,T0,(ri h).1,I1]
   .rw[kZ h,G2,a (n/10) a6];simp only[C4,T0,(ri (M8 n (by decide:0<10))).1,I1]
def Eg(n:Nat):gg n≠[]:=by
 by_cases h:n<10
 .rw[fJ h];simp
 .rw[kZ h];simp
def su(s:Str)(c:UInt8):gK (s++[c])=10*gK s+(c.toNat-48):=by simp[gK,Cw]
def xm(n:Nat):gK (gg n)=n:=by
 induction n using Nat.strongRecOn with
 |ind n a=>
   by_cases h:n<10
   .rw[fJ h];simp only[gK,L9,TV,Cw,(ri h).2];omega
   .rw[kZ h,su,a (n/10) a6,(ri (M8 n (by decide:0<10))).2];omega
def tM{c:UInt8}(h:digit c=T):wht c=F/\c≠35/\c≠58/\c≠44/\c≠10/\c≠114/\c≠39/\c≠120:=by
 unfold digit at h;simp only[l4,s7]at h;have b:∀x:UInt8,x.toNat<48\/57<x.toNat->c≠x:=λx I e=>by subst e;omega
 refine⟨?_,b _ a7,b _ a7,b _ a7,b _ a7,b _ a7,b _ a7,b _ a7⟩;unfold wht;simp[b 32 a7,b 9 a7]
def lf(h:n<10000000000):z (gg n)<=10:=by
 have b:∀(k:Nat)(n:Nat),n<10^(k+1)->z (gg n)<=k+1:=by
  intro k
  induction k with
  |zero=>intro n a;rw[fJ a6];simp
  |succ k c=>
    intro n a;by_cases o:n<10
    .rw[fJ o];simp
    .rw[kZ o]
     have:=c (n/10) (by rw[Ln]at a;omega);simp only[j4,j6,j7];omega
 exact b 9 n a6
end
end
end Go.Asm
namespace Go.Emit
section
open Go.Lower (Ins Code Sig codeOf takes)
section
section
variable{a:Int×Int->Int}
end
end
end
end Go.Emit
namespace Go.Lower
section
section
variable{w:Int}{ps:Sig}{f:Nat}{word:Bool}
end
end
end Go.Lower
namespace Go.Src
section
mutual
def uE:Ex->Prop
 |.mk _ _ num _ kids=>(0<=num/\num<4294967296)/\qm kids
def qm:List Ex->Prop
 |[]=>True
 |e::l=>uE e/\qm l
end
mutual
def AA:Stm->Prop
 |.mk _ _ e a el=>qm e/\oX a/\oX el
def oX:List Stm->Prop
 |[]=>True
 |e::l=>AA e/\oX l
end
def xe(p:Prog):Prop:=∀f∈p.funcs,oX f.body
end
section
open Go.Asm (Str gg)
section
abbrev TK:=Nat×Str×Nat
abbrev Pc:=Str×TK
def strip(t:Tok):TK:=(t.kind,t.text,t.num)
def tN(s:Str):TK:=(1,s,0)
def tW(s:Str):TK:=(3,s,0)
def tS(s:Str):TK:=(4,s,0)
def setl(s:Str):List Pc->List Pc
 |[]=>[]
 |x::l=>(s,x.2)::l
def KA(s:Str)(l:List Pc):(setl s l).map (·.2)=l.map (·.2):=by cases l<;>rfl
def jk(kind op:Int):Str:=
 if kind=8 then [38,38]else if kind=9 then [124,124]
 else if op=4 then [43]else if op=5 then [45]else if op=6 then [42]else if op=7 then [47]else if op=8 then [37]else if op=9 then [38]else if op=10 then [124]else if op=11 then [94]
 else if op=12 then [60,60]else if op=13 then [62,62]else if op=14 then [60]else [61,61]
mutual
def pcE:Ex->List Pc
 |.mk kind op num name kids=>
   if kind=1 then [([],2,gg num.toNat,num.toNat)]
   else if kind=2 then [([],tN name)]
   else if kind=3 then([],tN name)::([],tS [91])::(setl [] ((pcM (tS ck) [] kids).drop 1)++[([],tS [93])])
   else if kind=4 then([],tN name)::([],tS cP)::(setl [] ((pcM (tS ck) [] kids).drop 1)++[([],tS bt)])
   else if kind=5 then [([],tW [103,101,116]),([],tS cP),([],tS bt)]
   else if kind=7 then([],tS [33])::setl [] ((pcM (tS ck) [] kids).drop 1)
   else([],tS cP)::(setl [] ((pcM (tS (jk kind op)) [32] kids).drop 1)++[([],tS bt)])
def pcM(c:TK)(s:Str):List Ex->List Pc
 |[]=>[]
 |e::l=>(s,c)::(setl [32] (pcE e)++pcM c s l)
end
def pcJ(l:List Ex):List Pc:=setl [] ((pcM (tS ck) [] l).drop 1)
def ind(n:Nat):Str:=List.replicate (2*n) 32
mutual
def pcS(q:Nat):Stm->List Pc
 |.mk kind name e a el=>
   setl (10::ind q) (if kind=1 then([],tN name)::([32],tS [61])::(setl [32] (pcJ e)++[([],tS bO)])
   else if kind=2 then([],tN name)::([],tS [91])::(pcJ (e.take 1)++([],tS [93])::([32],tS [61])::(setl [32] (pcJ (e.drop 1))++[([],tS bO)]))
   else if kind=3 then([],tW [112,117,116])::([],tS cP)::(pcJ e++[([],tS bt),([],tS bO)])
   else if kind=6 then([],tN name)::([],tS cP)::(pcJ e++[([],tS bt),([],tS bO)])
   else if kind=7 then([],tW [114,101,116,117,114,110])::(setl [32] (pcJ e)++[([],tS bO)])
   else([],tW (if kind=5 then [119,104,105,108,101]else [105,102]))::([32],tS cP)::(pcJ e++([],tS bt)::([32],tS [123])::(gL (q+1) a ++
    ((if el.isEmpty then []else(10::ind q,tS [125])::([32],tW [101,108,115,101])::([32],tS [123])::gL (q+1) el)++[(10::ind q,tS [125])]))))
def gL(q:Nat):List Stm->List Pc
 |[]=>[]
 |s::l=>pcS q s++gL q l
end
def pcN:List Str->List Pc
 |[]=>[]
 |s::l=>([],tN s)::l.flatMap λx=>[([],tS ck),([32],tN x)]
def pcF(f:Fn):List Pc:=
 ([10],tW [102,117,110,99])::([32],tN f.name)::([],tS cP)::(pcN f.params++([],tS bt)::((if f.word then [([32],tW [119,111,114,100])]else [])++([32],tS [123]) ::
   ((if f.locals=[]then []else(10::ind 1,tW [118,97,114])::(setl [32] (pcN f.locals)++[([],tS bO)]))++(gL 1 f.body++[([10],tS [125])]))))
def pcA(a:Str×Int):List Pc:=[([10],tW [97,114,114,97,121]),([32],tN a.1),([],tS [91]),([],2,gg a.2.toNat,a.2.toNat),([],tS [93]),([],tS bO)]
def pcP(p:Prog):List Pc:=setl [] ((if p.vars=[]then []else([10],tW [118,97,114])::(setl [32] (pcN p.vars)++[([],tS bO)]))++(p.arrays.flatMap pcA++p.funcs.flatMap pcF))
def aj(l:List Pc):Str:=l.flatMap λx=>x.1++x.2.2.1
def tks(l:List Pc):List TK:=l.map (·.2)
def bK(l m:List Pc):tks (l++m)=tks l++tks m:=A7
def bj(x:Pc)(m:List Pc):tks (x::m)=x.2::tks m:=rfl
def bZ(s:Str)(l:List Pc):tks (setl s l)=tks l:=KA s l
def ky(l:List Pc):tks (l.drop 1)=(tks l).drop 1:=List.map_drop
variable{A B:Nat}{l:List TK}{x:TK}{s:Str}{m:List Str}
section
variable{G:List Tok}
def Rd(G:List Tok)(l:List TK)(n m:Nat):Prop:=m=n+z l/\∀(j:Nat)(x:TK),l[j]?=S x->∃t,G[n+j]?=S t/\strip t=x
def Rd.nil{n m:Nat}(h:Rd G [] n m):n=m:=h.1.symm
def Rd.cons{n m:Nat}(h:Rd G (x::l) n m):∃t,G[n]?=S t/\strip t=x/\Rd G l (n+1) m:=by
 obtain⟨t,U,Y⟩:=h.2 0 x rfl;refine⟨t,U,Y,by have:=h.1;rw[j6]at this;omega,λj y a=>?_⟩;have:=h.2 (j+1) y (by simpa using a)
 rwa [show n+(j+1)=n+1+j by omega]at this
def Rd.app{l m:List TK}{n b:Nat}(h:Rd G (l++m) n b):∃c,Rd G l n c/\Rd G m c b:=by
 refine⟨n+z l,⟨rfl,λj x I=>h.2 j x ?_⟩,?_,λj x I=>?_⟩
 .rw[G1 (l8.1 I).1];exact I
 .have:=h.1;rw[j4]at this;omega
 .have:=h.2 (z l+j) x (by rw[E3 a6,show z l+j-z l=j by omega];exact I)
  rwa [show n+(z l+j)=n+z l+j by omega]at this
def qY{t:Tok}(h:strip t=x):t.kind=x.1/\t.text=x.2.1/\t.num=x.2.2:=by subst h;exact⟨rfl,rfl,rfl⟩
def aV(h:Rd G (x::l) A B):az G A=if x.1=3\/x.1=4 then x.2.1 else []:=by
 obtain⟨t,a,U,_⟩:=h.cons;obtain⟨U,Y,_⟩:=qY U;simp only[az,a,U,Y]
def nG(h:Rd G (x::l) A B):dL G A=x.1:=by
 obtain⟨t,a,U,_⟩:=h.cons;simp only[dL,a,(qY U).1]
def aK(h:Rd G (x::l) A B):Rd G l (A+1) B:=by
 obtain⟨t,_,_,Y⟩:=h.cons;exact Y
def dw(h:Rd G (tS s::l) A B):aS G (s::m) A=aS G m (A+1):=by
 rw[aS,l7];rw[aV h];rfl
def KB(h:Rd G (tW s::l) A B):aS G (s::m) A=aS G m (A+1):=by
 rw[aS,l7];rw[aV h];rfl
def kQ{k:Nat}(h:Rd G (x::l) A B)(a:x.1=k):∃t,takeN G k A=.ok t (A+1)/\t.text=x.2.1/\t.num=x.2.2:=by
 obtain⟨t,b,U,Y⟩:=h.cons;obtain⟨c,d,e⟩:=qY U;exact⟨t,by simp only[takeN,b];rw[l7 (by rw[c,a])],d,e⟩
def DU{kind op:Int}(h:(kind=6/\4<=op/\op<=15)\/((kind=8\/kind=9)/\op=0)):1<=(qt (jk kind op)).2.2/\(qt (jk kind op)).1=kind/\(qt (jk kind op)).2.1=op:=by
 rcases h with⟨rfl,U,Y⟩|⟨rfl|rfl,rfl⟩
 .have:op=4\/op=5\/op=6\/op=7\/op=8\/op=9\/op=10\/op=11\/op=12\/op=13\/op=14\/op=15:=a6
  rcases this with rfl|rfl|rfl|rfl|rfl|rfl|rfl|rfl|rfl|rfl|rfl|rfl<;>decide
 .decide
 .decide
def Fol(G:List Tok)(B:Nat):Prop:=az G B≠[91]/\az G B≠cP
def DV(G:List Tok)(B:Nat):Prop:=Fol G B/\(qt (az G B)).2.2=0
def cQ{q:Nat}{a:Ex}{l:List Ex}(h:aU q (a::l)=T):cR q a=T/\aU q l=T:=by
 simpa only[aU,l4]using h
def jy(c:TK)(s:Str)(a:Ex)(l:List Ex):tks (pcM c s (a::l))=c::(tks (pcE a)++tks (pcM c s l)):=by
 rw[pcM,bj,bK,bZ]
def ff(h:Rd G (tS s::l) A B)(b:s=bt\/s=[93]\/s=ck\/s=bO):DV G A:=by
 have a:=aV h;simp only[tS,R4,↓reduceIte]at a;unfold DV Fol;rw[a];rcases b with rfl|rfl|rfl|rfl<;>decide
def tD(h:Rd G (tN s::l) A B):az G A=[]/\dL G A=1:=⟨by rw[aV h];rfl,nG h⟩
def KC(e:Ex):∃x l,tks (pcE e)=x::l/\(x.1=1\/x.1=2\/x=tW [103,101,116]\/x=tS cP\/x=tS [33]):=by
 obtain⟨kind,op,num,name,a⟩:=e;unfold pcE;split
 .exact⟨_,_,rfl,.inr (.inl rfl)⟩
 split
 .exact VU
 split
 .exact VU
 split
 .exact VU
 split
 .exact⟨_,_,rfl,.inr (.inr (.inl rfl))⟩
 split
 .exact⟨_,_,rfl,.inr (.inr (.inr (.inr rfl)))⟩
 .exact⟨_,_,rfl,.inr (.inr (.inr (.inl rfl)))⟩
def KD{e:Ex}{m:List TK}(h:Rd G (tks (pcE e)++m) A B):az G A≠bt/\az G A≠bO:=by
 obtain⟨x,l,a,I⟩:=KC e;rw[a,u7]at h;rw[aV h];rcases I with I|I|rfl|rfl|rfl
 .rw[j8 a6];decide
 .rw[j8 a6];decide
 .decide
 .decide
 .decide
def lY(e:Ex):0<szE e:=by cases e;rw[szE];omega
def RdE(G:List Tok)(a:Ex):Prop:=∀(A C:Nat)(n:Nat),Rd G (tks (pcE a)) A C->DV G C->4*szE a+1<=n->dm G n 1 A=.ok a C
def KE:∀(l done:List Ex)(A B:Nat)(n:Nat),(∀a∈l,RdE G a)->Rd G (tks (pcM (tS ck) [] l)++[tS bt]) A B->4*aH l+2<=n->gY G n done A=.ok (done++l) B:=by
 intro l
 induction l with
 |nil=>
   intro done A B n _ h d;obtain⟨n,rfl⟩:∃k,n=k+1:=⟨n-1,a6⟩
   rw[pcM]at h;have h:Rd G [tS bt] A B:=h;rw[gY,j8 WU,dw h,aS,(aK h).nil];simp[PR.bind]
 |cons a l c=>
   intro done A B n e h d;obtain⟨n,rfl⟩:∃k,n=k+1:=⟨n-1,a6⟩
   rw[jy,u7,l6]at h;rw[aH]at d;have K:=lY a;obtain⟨C,U,Y⟩:=(aK h).app
   have y:DV G C:=by
    cases l with
    |nil=>rw[pcM]at Y;exact ff Y (.inl rfl)
    |cons b l=>rw[jy,u7]at Y;exact ff Y (.inr (.inr (.inl rfl)))
   rw[gY,l7 W3,e a a8 _ C n U y a6];simp only[PR.bind];rw[c (done++[a]) C B n (λb hb=>e b Xg) Y a6,l6];rfl
def Cg{l:List Ex}{n:Nat}(d:∀a∈l,RdE G a)(h:Rd G (tks (pcJ l)++[tS bt]) A B)(f:4*aH l+3<=n):fD G n A=.ok l B:=by
 obtain⟨n,rfl⟩:∃k,n=k+1:=⟨n-1,a6⟩
 unfold pcJ at h;rw[bZ,ky]at h;cases l with
 |nil=>
   rw[pcM]at h;have h:Rd G [tS bt] A B:=h;rw[fD,l7 W3,(aK h).nil]
 |cons a l=>
   rw[jy,D2,B1,l6]at h;obtain⟨C,e,c⟩:=h.app
   have y:DV G C:=by
    cases l with
    |nil=>rw[pcM]at c;exact ff c (.inl rfl)
    |cons b l=>rw[jy,u7]at c;exact ff c (.inr (.inr (.inl rfl)))
   rw[aH]at f;have K:=lY a;rw[fD,j8 (KD (m:=[]) (by rw[s5];exact e)).1,d a a8 _ C n e y a6];simp only[PR.bind];rw[KE l [a] C B n (λb hb=>d b Xg) c a6];rfl
def ka{e:Ex}:∀{l:List Ex},qm l->e∈l->uE e
 |a::l,h,b=>by
   rw[qm]at h;rcases y9.1 b with rfl|b
   .exact h.1
   .exact ka h.2 b
def eN{q:Nat}{e:Ex}:∀{l:List Ex},aU q l=T->e∈l->cR q e=T
 |a::l,h,b=>by
   obtain⟨U,Y⟩:=cQ h;rcases y9.1 b with rfl|b
   .exact U
   .exact eN Y b
def KF(G:List Tok):∀(av:Nat),
  (∀e q A B n,szE e<=av->uE e->cR q e=T->Rd G (tks (pcE e)) A B->Fol G B->4*szE e<=n->ey G n A=.ok e B)/\
  (∀e q A B n m,szE e<=av->uE e->cR q e=T->Rd G (tks (pcE e)) A B->DV G B->4*szE e+1<=n->1<=m->dm G n m A=.ok e B):=by
 intro av
 induction av with
 |zero=>exact⟨λe _ _ _ _ h=>by cases e;rw[szE]at h;omega,λe _ _ _ _ _ h=>by cases e;rw[szE]at h;omega⟩
 |succ av Z=>
   have hA:∀e q A B n,szE e<=av+1->uE e->cR q e=T->Rd G (tks (pcE e)) A B->Fol G B->4*szE e<=n->ey G n A=.ok e B:=by
    rintro⟨kind,op,num,name,H⟩ q A B n bc i V h X O;rw[szE]at bc O;rw[uE]at i;obtain⟨j,i⟩:=i;simp only[cR,l4,s7]at V;obtain⟨_,d,f⟩:=V;obtain⟨n,rfl⟩:∃k,n=k+1:=⟨n-1,a6⟩
    have p:∀a∈H,RdE G a:=λa ha A C n h y O=>Z.2 a (q+1) A C n 1 (by have:=se ha;omega) (ka i ha) (eN f ha) h y O (l0 _)
    have b7:∀{a:Ex}{c:TK}{s:Str},H=[a]->tks ((pcM c s H).drop 1)=tks (pcE a):=λe=>by
     rw[e,ky,jy,pcM];simp[tks]
    unfold bI at d;unfold pcE at h;by_cases k1:kind=1
    .rw[l7 k1]at h d
     simp only[l4,s7,ah,↓reduceIte,A3]at d;have h:Rd G [(2,gg num.toNat,num.toNat)] A B:=h;obtain⟨t,L,_,an⟩:=kQ (k:=2) h rfl;rw[ey,l7 (nG h),L];simp only[PR.bind];rw[(aK h).nil,an,k1,d.1.1,d.1.2,r0 d.2,J2 j.1]
    rw[j8 k1]at h d;by_cases k2:kind=2
    .rw[l7 k2]at h d
     simp only[l4,s7]at d;have h:Rd G [tN name] A B:=h;obtain⟨t,L,I,_⟩:=kQ (k:=1) h rfl;have hB:=(aK h).nil;obtain⟨J,Q⟩:=tD h;rw[ey,j8 (by rw[Q];decide),j8 (by rw[J];decide),j8 (by rw[J];decide),j8 (by rw[J];decide),L];simp only[PR.bind];rw[hB,j8 X.1,j8 X.2,I,k2,d.1.1.1,d.1.1.2,r0 d.2];rfl
    rw[j8 k2]at h d
    have g:∀{l:List TK},Rd G (tN name::l) A B->∃t,takeN G 1 A=.ok t (A+1)/\t.text=name/\dL G A≠2/\az G A≠[103,101,116]/\az G A≠cP/\az G A≠[33]:=λh=>by
     obtain⟨t,L,I,_⟩:=kQ (k:=1) h rfl;obtain⟨J,Q⟩:=tD h;exact⟨t,L,I,by rw[Q];decide,by rw[J];decide,by rw[J];decide,by rw[J];decide⟩
    by_cases k3:kind=3
    .rw[l7 k3]at h d
     simp only[l4,s7]at d;obtain⟨a,rfl⟩:∃a,H=[a]:=O0.1 d.2;rw[bj,bj,bK,bZ,b7 rfl]at h;obtain⟨t,L,I,J,Q,q3,q4⟩:=g h;have U:=aK h;obtain⟨C,Y,W⟩:=(aK U).app;have W:Rd G [tS [93]] C B:=W;rw[aH,aH]at bc O;rw[ey,j8 J,j8 Q,j8 q3,j8 q4,L];simp only[PR.bind];rw[l7 Ye,Z.2 a (q+1) _ C n 1 a6 i.1 (cQ f).1 Y (ff W (.inr (.inl rfl))) a6 a6];simp only[PR.bind];rw[dw W,aS,(aK W).nil];simp only[PR.bind];rw[I,k3,d.1.1.1,d.1.1.2]
    rw[j8 k3]at h d;by_cases k4:kind=4
    .rw[l7 k4]at h d
     simp only[l4,s7]at d;rw[bj,bj,bK,bZ,ky]at h;obtain⟨t,L,I,J,Q,q3,q4⟩:=g h;have U:=aK h;have ha:fD G n ((A+1+1))=.ok H B:=Cg p (by unfold pcJ;rw[bZ,ky];exact aK U) a6;rw[ey,j8 J,j8 Q,j8 q3,j8 q4,L];simp only[PR.bind];rw[j8 YG,l7 Ye,ha];simp only[PR.bind];rw[I,k4,d.1.1.1,d.1.1.2]
    rw[j8 k4]at h d;by_cases k5:kind=5
    .rw[l7 k5]at h d
     simp only[l4,s7,ah,↓reduceIte,A3]at d;have U:=aK h;have Y:Rd G [tS bt] ((A+1+1)) B:=aK U;rw[ey,j8 (by rw[nG h];decide),l7 W3,dw U,dw Y,aS,(aK Y).nil];simp only[PR.bind];rw[k5,d.1.1.1,d.1.1.2,d.1.2,r0 d.2]
    rw[j8 k5]at h d;by_cases k7:kind=7
    .have r:¬kind=6:=a6
     rw[l7 k7]at h;rw[j8 r,l7 k7]at d;simp only[l4,s7,ah,↓reduceIte,A3]at d;obtain⟨a,rfl⟩:∃a,H=[a]:=O0.1 d.2;rw[bj,bZ,b7 rfl]at h;rw[aH,aH]at bc O;have h:Rd G (tS [33]::tks (pcE a)) A B:=h;rw[ey,j8 (by rw[nG h];decide),j8 WU,j8 WU,l7 W3,Z.1 a (q+1) _ B n a6 i.1 (cQ f).1 (aK h) X a6];simp only[PR.bind];rw[k7,d.1.1.1,d.1.1.2,d.1.2]
    rw[j8 k7]at h d
    have hb:(((kind=6/\4<=op/\op<=15)\/((kind=8\/kind=9)/\op=0))/\num=0)/\name=[]/\z H=2:=by
     by_cases r:kind=6
     .rw[l7 r]at d
      simp only[l4,s7,ah,↓reduceIte,A3]at d;exact⟨⟨.inl ⟨r,d.1.1.1⟩,d.1.1.2⟩,d.1.2,d.2⟩
     .rw[j8 r]at d
      split at d
      .rename_i k8
       simp only[l4,s7,ah,↓reduceIte,A3]at d;exact⟨⟨.inr ⟨k8,d.1.1.1⟩,d.1.1.2⟩,d.1.2,d.2⟩
      .cases d
    obtain⟨⟨u,e1⟩,e2,e3⟩:=hb
    obtain⟨a,b,rfl⟩:∃a b,H=[a,b]:=by
     match H,e3 with
     |[a,b],_=>exact⟨a,b,rfl⟩
    obtain⟨s1,s2,s3⟩:=DU u;obtain⟨E,rb⟩:=cQ f;rw[bj,bK,bZ,ky,jy,D2,B1,jy,pcM,l6]at h;have h:Rd G (tS cP::(tks (pcE a)++tS (jk kind op)::(tks (pcE b)++[tS bt]))) A B:=by simpa[tks]using h
    obtain⟨C,U,Y⟩:=(aK h).app;obtain⟨D,W,h4⟩:=(aK Y).app;rw[aH,aH,aH]at bc O;have v:=lY a;have w:=lY b;have o:az G C=jk kind op:=by rw[aV Y];rfl
    have y:Fol G C:=by
     unfold Fol;rw[o];constructor
     .intro e;rw[e]at s1;exact absurd s1 a7
     .intro e;rw[e]at s1;exact absurd s1 a7
    obtain⟨n,rfl⟩:∃k,n=k+3:=⟨n-3,a6⟩
    rw[ey,j8 (by rw[nG h];decide),j8 WU,l7 W3,dm,Z.1 a (q+1) _ C (n+2) a6 i.1 E U y a6];simp only[PR.bind];rw[gX,o,j8 a6,Z.2 b (q+1) _ D (n+1) _ a6 i.2.1 (cQ rb).1 W (ff h4 (.inl rfl)) a6 a6];simp only[PR.bind];rw[gX,l7 (by rw[(ff h4 (.inl rfl)).2];decide)];simp only;rw[dw h4,aS,(aK h4).nil];simp only;rw[s2,s3,e1,e2]
   refine⟨hA,λe q A B n m bc i V h X O hm=>?_⟩;obtain⟨n,rfl⟩:∃k,n=k+1:=⟨n-1,a6⟩
   rw[dm,hA e q A B n bc i V h X.1 a6];simp only[PR.bind];have K:=lY e;obtain⟨n,rfl⟩:∃k,n=k+1:=⟨n-1,a6⟩
   rw[gX,l7 (by rw[X.2];omega)]
end
end
section
theorem zC(c:TK)(s:Str):∀l:List Ex,(∀e∈l,szE e<=z (tks (pcE e)))->aH l+z l<=z (tks (pcM c s l))
 |[],_=>by simp[aH]
 |a::l,h=>by
   have U:=h a a8;have Y:=zC c s l λe b=>h e (by simp[b]);rw[jy,aH];simp only[j6,j4];omega
theorem zD:∀(av:Nat)(e:Ex)(q:Nat),szE e<=av->cR q e=T->szE e<=z (tks (pcE e)):=by
 intro av
 induction av with
 |zero=>intro e _ h;have:=lY e;omega
 |succ av i=>
   rintro⟨kind,op,num,name,b⟩ q bc V;rw[szE]at bc|-;simp only[cR,l4,s7]at V;obtain⟨_,d,f⟩:=V
   have j:∀c s,aH b<=z (tks ((pcM c s b).drop 1)):=λc s=>by
    have:=zC c s b λe g=>i e (q+1) (by have:=se g;omega) (eN f g);rw[ky,D4];cases b with
    |nil=>simp[aH]
    |cons a l=>rw[j6]at this;omega
   unfold bI at d;unfold pcE;split
   .rename_i k;rw[l7 k]at d
    exact V1
   rename_i n;rw[j8 n]at d;split
   .rename_i k;rw[l7 k]at d
    exact V1
   rename_i o;rw[j8 o]at d;split
   .have:=j (tS ck) []
    simp only[bj,bK,bZ,j6,j4];omega
   rename_i p;rw[j8 p]at d;split
   .have:=j (tS ck) []
    simp only[bj,bK,bZ,j6,j4];omega
   rename_i r;rw[j8 r]at d;split
   .rename_i k;rw[l7 k]at d
    exact V1
   split
   .have:=j (tS ck) []
    simp only[bj,bZ,j6];omega
   .have:=j (tS (jk kind op)) [32]
    simp only[bj,bK,bZ,j6,j4];omega
theorem uW(a:Ex):tks (pcJ [a])=tks (pcE a):=by
 unfold pcJ;rw[bZ,ky,jy,pcM];simp[tks]
variable{l:List Ex}{m:List TK}{A B k:Nat}
section
variable{G:List Tok}
theorem sh{a:Ex}{q A:Nat}(c:uE a)(V:cR q a=T){C:Nat}(h:Rd G (tks (pcJ [a])) A C)(y:DV G C){b:Nat}(hf:4*szE a+1<=b):dm G b 1 A=.ok a C:=by
 rw[uW]at h;exact(KF G (szE a)).2 a q A C b 1 (l0 _) c V h y hf (l0 _)
theorem Oc{q A B:Nat}(d:qm l)(V:aU q l=T)(h:Rd G (tks (pcJ l)++[tS bt]) A B){b:Nat}(hf:4*aH l+3<=b):fD G b A=.ok l B:=
 Cg (λa c A C n h y r=>(KF G (szE a)).2 a q A C n 1 (l0 _) (ka d c) (eN V c) h y r (l0 _)) h hf
theorem Ch{a:Ex}{q k:Nat}{A B:Nat}(b:uE a)(V:cR q a=T){l:List TK}(h:Rd G (tS cP::(tks (pcJ [a])++tS bt::l)) A B)(hf:4*szE a+1<=k):∃C,jw G k A=.ok [a] C/\Rd G l C B:=by
 obtain⟨C,U,Y⟩:=(aK h).app;refine⟨_,?_,aK Y⟩;unfold jw;rw[dw h,aS];simp only[PR.bind];rw[sh b V U (ff Y (.inl rfl)) hf];simp only;rw[dw Y,aS]
def Ci:Str:=[101,108,115,101]
def RdS(G:List Tok)(s:Stm):Prop:=∀(q:Nat)(A B:Nat)(n:Nat),Rd G (tks (pcS q s)) A B->az G B≠Ci->4*szS s<=n->gy G n A=.ok s B
theorem RL(q:Nat)(s:Stm):∃x l,tks (pcS q s)=x::l/\(x.1=1\/x=tW [112,117,116]\/x=tW [114,101,116,117,114,110]\/x=tW [119,104,105,108,101]\/x=tW [105,102]):=by
 obtain⟨kind,name,e,a,el⟩:=s;rw[pcS,bZ];split
 .exact VU
 split
 .exact VU
 split
 .exact⟨_,_,rfl,.inr (.inl rfl)⟩
 split
 .exact VU
 split
 .exact⟨_,_,rfl,.inr (.inr (.inl rfl))⟩
 refine⟨_,_,rfl,?_⟩;split
 .exact .inr (.inr (.inr (.inl rfl)))
 .exact .inr (.inr (.inr (.inr rfl)))
theorem DW{q:Nat}{s:Stm}{A B:Nat}(h:Rd G (tks (pcS q s)++m) A B):az G A≠[125]/\az G A≠Ci/\az G A≠[118,97,114]:=by
 obtain⟨x,l,a,I⟩:=RL q s;rw[a,u7]at h;rw[aV h];rcases I with I|rfl|rfl|rfl|rfl
 .rw[j8 a6];decide
 all_goals decide
theorem si(s:Stm):0<szS s:=by cases s;rw[szS];omega
theorem tE:∀(l done:List Stm)(q:Nat)(A B:Nat)(n:Nat)(m:List TK),(∀s∈l,RdS G s)->Rd G (tks (gL q l)++tS [125]::m) A B->4*aE l+2<=n->∃C,dH G n done A=.ok (done++l) C/\Rd G m C B:=by
 intro l
 induction l with
 |nil=>
   intro done q A B n m _ h d;obtain⟨n,rfl⟩:∃k,n=k+1:=⟨n-1,a6⟩
   rw[gL]at h;have h:Rd G (tS [125]::m) A B:=h;refine⟨_,?_,aK h⟩;rw[dH,l7 W3,s5]
 |cons a l c=>
   intro done q A B n m e h d;obtain⟨n,rfl⟩:∃k,n=k+1:=⟨n-1,a6⟩
   rw[gL,bK,l6]at h;rw[aE]at d;have K:=si a;have o:=(DW h).1;obtain⟨C,U,Y⟩:=h.app
   have y:az G C≠Ci:=by
    cases l with
    |nil=>rw[gL]at Y;rw[aV (show Rd G (tS [125]::m) C B from Y)];decide
    |cons b l=>rw[gL,bK,l6]at Y;exact(DW Y).2.1
   rw[dH,j8 o,e a a8 q _ C n U y a6];simp only[PR.bind];obtain⟨D,f,g⟩:=c (done++[a]) q C B n m (λb hb=>e b Xg) Y a6;exact⟨D,by rw[f,l6];rfl,g⟩
theorem dr{q:Nat}{a:Stm}:∀{l:List Stm},bg q l=T->a∈l->di q a=T
 |b::l,h,c=>by
   simp only[bg,l4]at h;rcases y9.1 c with rfl|c
   .exact h.1
   .exact dr h.2 c
theorem fZ{a:Stm}:∀{l:List Stm},oX l->a∈l->AA a
 |b::l,h,c=>by
   rw[oX]at h;rcases y9.1 c with rfl|c
   .exact h.1
   .exact fZ h.2 c
theorem DX{b:Type}{l:List b}(h:z l=1):∃a,l=[a]:=O0.1 h
theorem RM:∀(av:Nat)(s:Stm)(q:Nat),szS s<=av->AA s->di q s=T->RdS G s:=by
 intro av
 induction av with
 |zero=>intro s _ h;have:=si s;omega
 |succ av ih=>
   rintro⟨kind,name,e,th,el⟩ q bc i V c A B n h hB hn;rw[szS]at bc hn;rw[AA]at i;simp only[di,l4,s7]at V;obtain⟨⟨_,d,H⟩,p,a'⟩:=V;obtain⟨n,rfl⟩:∃k,n=k+1:=⟨n-1,a6⟩
   rw[pcS,bZ]at h;unfold cp at d
   have P:∀{l:List TK},Rd G (tN name::l) A B->az G A≠[112,117,116]/\az G A≠[114,101,116,117,114,110]/\az G A≠[105,102]/\az G A≠[119,104,105,108,101]:=λh=>by
    rw[(tD h).1];decide
   have Q:∀{l:List TK},Rd G (tN name::l) A B->∃t,takeN G 1 A=.ok t (A+1)/\t.text=name:=λh=>by
    obtain⟨t,J,I,_⟩:=kQ (k:=1) h rfl;exact⟨t,J,I⟩
   by_cases k1:kind=1
   .rw[l7 k1]at h d
    simp only[l4,s7]at d;obtain⟨a,rfl⟩:=DX d.2.1;rw[bj,bj,bK,bZ]at h;have h:Rd G (tN name::tS [61]::(tks (pcJ [a])++[tS bO])) A B:=h;obtain⟨L,O,W,X⟩:=P h;obtain⟨t,J,I⟩:=Q h;have U:=aK h;obtain⟨C,Y,w⟩:=(aK U).app;rw[gy,j8 L,j8 O,j8 W,j8 X];unfold iE;rw[J];simp only[PR.bind];rw[l7 Ye,sh i.1.1 (cQ H).1 Y (ff w (.inr (.inr (.inr rfl)))) Xe];simp only;rw[dw w,aS,(aK w).nil];simp only;rw[I,k1,r0 d.2.2.1,r0 d.2.2.2]
   rw[j8 k1]at h d;by_cases k2:kind=2
   .rw[l7 k2]at h d
    simp only[l4,s7]at d
    obtain⟨a,b,rfl⟩:∃a b,e=[a,b]:=by
     match e,d.2.1 with
     |[a,b],_=>exact⟨a,b,rfl⟩
    simp only[C5,F6,D2,B1,bj,bK,bZ]at h;have h:Rd G (tN name::tS [91]::(tks (pcJ [a])++tS [93]::tS [61]::(tks (pcJ [b])++[tS bO]))) A B:=h;obtain⟨L,O,W,X⟩:=P h;obtain⟨t,J,I⟩:=Q h;have U:=aK h;obtain⟨C,Y,w⟩:=(aK U).app;have v:=aK w;obtain⟨D,h5,Z⟩:=(aK v).app;rw[gy,j8 L,j8 O,j8 W,j8 X];unfold iE;rw[J];simp only[PR.bind];rw[j8 YG,l7 Ye,sh i.1.1 (cQ H).1 Y (ff w (.inr (.inl rfl))) Xe];simp only;rw[dw w,dw v,aS];simp only;rw[sh i.1.2.1 (cQ (cQ H).2).1 h5 (ff Z (.inr (.inr (.inr rfl)))) Xe];simp only;rw[dw Z,aS,(aK Z).nil];simp only;rw[I,k2,r0 d.2.2.1,r0 d.2.2.2]
   rw[j8 k2]at h d;by_cases k3:kind=3
   .rw[l7 k3]at h d
    simp only[l4,s7,ah,↓reduceIte,A3]at d;obtain⟨a,rfl⟩:=DX d.2.1;rw[bj,bj,bK]at h;have h:Rd G (tW [112,117,116]::tS cP::(tks (pcJ [a])++tS bt::[tS bO])) A B:=h;obtain⟨C,U,Y⟩:=Ch (k:=n) i.1.1 (cQ H).1 (aK h) Xe;rw[gy,l7 W3,U];simp only[PR.bind];rw[dw Y,aS,(aK Y).nil];simp only;rw[k3,d.1,r0 d.2.2.1,r0 d.2.2.2]
   rw[j8 k3]at h d;by_cases r:kind=6
   .have y:¬kind=4:=a6
    have x:¬kind=5:=a6;rw[l7 r]at h;rw[j8 y,j8 x,l7 r]at d;simp only[l4,s7]at d;rw[bj,bj,bK]at h;have h:Rd G (tN name::tS cP::(tks (pcJ e)++[tS bt,tS bO])) A B:=h;obtain⟨L,O,W,X⟩:=P h;obtain⟨t,J,I⟩:=Q h;have U:=aK h;have Y:=aK U;rw[show (tks (pcJ e)++[tS bt,tS bO])=(tks (pcJ e)++[tS bt])++[tS bO] by simp]at Y;obtain⟨C,w,v⟩:=Y.app;rw[gy,j8 L,j8 O,j8 W,j8 X];unfold iE;rw[J];simp only[PR.bind];rw[j8 YG,j8 YG,l7 Ye,Oc i.1 H w a6];simp only;rw[dw v,aS,(aK v).nil];simp only;rw[I,r,r0 d.2.2.1,r0 d.2.2.2]
   rw[j8 r]at h;by_cases K:kind=7
   .have y:¬kind=4:=a6
    have x:¬kind=5:=a6;rw[l7 K]at h;rw[j8 y,j8 x,j8 r,l7 K]at d;simp only[l4,s7,ah,↓reduceIte,A3]at d;have e3:=r0 d.2.2.1;have e4:=r0 d.2.2.2;rw[bj,bK,bZ]at h;have h:Rd G (tW [114,101,116,117,114,110]::(tks (pcJ e)++[tS bO])) A B:=h;rw[gy,j8 WU,l7 W3]
    match e,d.2.1 with
    |[],_=>
      have U:Rd G [tS bO] (A+1) B:=aK h;rw[l7 Ye,show A+2=B from(aK U).nil,K,d.1,e3,e4]
    |[a],_=>
      have U:=aK h;rw[uW]at U;have o:=(KD U).2;rw[<-uW]at U;obtain⟨C,Y,w⟩:=U.app;rw[j8 o,sh i.1.1 (cQ H).1 Y (ff w (.inr (.inr (.inr rfl)))) Xe];simp only[PR.bind];rw[dw w,aS,(aK w).nil];simp only;rw[K,d.1,e3,e4]
   rw[j8 K]at h
   have hk:(kind=4\/kind=5/\el=[])/\name=[]/\z e=1:=by
    by_cases y:kind=4
    .rw[l7 y]at d
     simp only[l4,s7,ah,↓reduceIte,A3]at d;exact⟨.inl y,d⟩
    .rw[j8 y]at d
     by_cases x:kind=5
     .rw[l7 x]at d
      simp only[l4,s7,ah,↓reduceIte,A3]at d;exact⟨.inr ⟨x,r0 d.2.2⟩,d.1,d.2.1⟩
     .rw[j8 x,j8 r,j8 K]at d
      cases d
   obtain⟨hk,e2,e1⟩:=hk;obtain⟨a,rfl⟩:=DX e1;have m:∀s∈th,RdS G s:=λs hs=>ih s (q+1) Xf (fZ i.2.1 hs) (dr p hs);have u:∀s∈el,RdS G s:=λs hs=>ih s (q+1) Xf (fZ i.2.2 hs) (dr a' hs)
   have h:Rd G (tW (if kind=5 then [119,104,105,108,101]else [105,102])::tS cP::(tks (pcJ [a])++tS bt::tS [123]::(tks (gL (c+1) th)++tS [125]::(if el.isEmpty then []else tW Ci::tS [123]::(tks (gL (c+1) el)++[tS [125]]))))) A B:=by
    rw[bj,bj,bK,bj,bj,bK,bK]at h;cases j:el.isEmpty
    .rw[j]at h
     simp only[A3,↓reduceIte,bj]at h|-;exact h
    .rw[j]at h
     simp only[↓reduceIte]at h|-;exact h
   obtain⟨C,U,Y⟩:=Ch (k:=n) i.1.1 (cQ H).1 (aK h) Xe;obtain⟨n,rfl⟩:∃k,n=k+1:=⟨n-1,a6⟩
   obtain⟨D,w,v⟩:=tE th [] (c+1) (C+1) B n _ m (aK Y) a6
   have g:iw G (n+1) C=.ok th D:=by
    rw[iw,dw Y,aS];simp only[PR.bind];exact w
   rcases hk with y|⟨x,rfl⟩
   .have x:¬kind=5:=a6
    rw[j8 x]at h;rw[gy,j8 WU,j8 WU,l7 W3,U];simp only[PR.bind];rw[g];simp only;cases el with
    |nil=>
      have v:Rd G [] D B:=v;have hB:az G B≠[101,108,115,101]:=hB;rw[v.nil,j8 hB,y,e2]
    |cons b l=>
      have v:Rd G (tW Ci::tS [123]::(tks (gL (c+1) (b::l))++[tS [125]])) D B:=v;have h5:=aK v;obtain⟨E,Z,h7⟩:=tE (b::l) [] (c+1) (D+1+1) B n _ u (aK h5) a6
      have f:iw G (n+1) (D+1)=.ok (b::l) E:=by
       rw[iw,dw h5,aS];simp only[PR.bind];exact Z
      rw[l7 (by rw[aV v];rfl),f];simp only;rw[h7.nil,y,e2]
   .rw[l7 x]at h
    have v:Rd G [] D B:=v;rw[gy,j8 WU,j8 WU,j8 WU,l7 W3,U];simp only[PR.bind];rw[g];simp only;rw[v.nil,x,e2]
theorem Cj:∀(l done:List Str)(A B:Nat)(n:Nat),Rd G (tks (l.flatMap λx=>[([],tS ck),([32],tN x)])) A B->az G B≠ck->z l+1<=n->eg G n done A=.ok (done++l) B
 |[],done,A,B,n,h,hB,b=>by
   obtain⟨n,rfl⟩:∃k,n=k+1:=⟨n-1,a6⟩
   have h:Rd G [] A B:=h;rw[eg,h.nil,j8 hB,s5]
 |a::l,done,A,B,n,h,hB,b=>by
   rw[j6]at b;obtain⟨n,rfl⟩:∃k,n=k+1:=⟨n-1,a6⟩
   have h:Rd G (tS ck::tN a::tks (l.flatMap λx=>[([],tS ck),([32],tN x)])) A B:=h;have U:=aK h;obtain⟨t,c,I,_⟩:=kQ (k:=1) U rfl;have I:t.text=a:=I;rw[eg,l7 W3,c];simp only[PR.bind];rw[I,Cj l (done++[a]) _ B n (aK U) hB a6,l6];rfl
theorem wR{l:List Str}(hl:l≠[])(h:Rd G (tks (pcN l)++m) A B)(b:∃s m',m=tS s::m'/\s≠ck)(c:z l<=k):∃C,eL G k A=.ok l C/\Rd G m C B:=by
 cases l with
 |nil=>exact absurd rfl hl
 |cons a l=>
   obtain⟨s,m',rfl,d⟩:=b;have h:Rd G (tN a::(tks (l.flatMap λx=>[([],tS ck),([32],tN x)])++tS s::m')) A B:=h;obtain⟨t,e,I,_⟩:=kQ (k:=1) h rfl;have I:t.text=a:=I;obtain⟨C,U,Y⟩:=(aK h).app;refine⟨C,?_,Y⟩;unfold eL;rw[e];simp only[PR.bind];rw[I,Cj l [a] _ C _ U (by rw[aV Y];exact d) c];rfl
theorem KG{f:Fn}(V:cI f=T)(v:oX f.body)(h:Rd G (tks (pcF f)) A B)(K:4*(z f.params+z f.locals+aE f.body)+5<=k):mn G k A=.ok f B:=by
 obtain⟨name,params,locals,word,body⟩:=f;simp only at K v;unfold cI at V;simp only[l4,s7]at V;obtain⟨_,_,L⟩:=V;obtain⟨d,w⟩:∃d,tks (if locals=[]then []else(10::ind 1,tW [118,97,114])::(setl [32] (pcN locals)++[([],tS bO)]))++(tks (gL 1 body)++[tS [125]])=d:=⟨_,rfl⟩
 have h:Rd G (tW [102,117,110,99]::tN name::tS cP::(tks (pcN params)++tS bt::((if word then [tW [119,111,114,100]]else [])++tS [123]::d))) A B:=by
  unfold pcF at h;simp only[bj,bK]at h;rw[<-w];cases word
  .exact h
  .exact h
 have U:=aK h;have Y:=aK U;obtain⟨t,O,I,_⟩:=kQ (k:=1) U rfl;have I:t.text=name:=I;unfold mn;rw[KB h,aS];simp only[PR.bind];rw[O];simp only;rw[dw Y,aS];simp only;have p:=aK Y
 obtain⟨C,Q,x⟩:∃C,(if dL G (A+1+1+1)=1 then eL G k (A+1+1+1)else .ok [] (A+1+1+1))=.ok params C/\Rd G (tS bt::((if word then [tW [119,111,114,100]]else [])++tS [123]::d)) C B:=by
  cases params with
  |nil=>
    have p:Rd G (tS bt::((if word then [tW [119,111,114,100]]else [])++tS [123]::d)) (A+1+1+1) B:=p;exact⟨_,j8 (by rw[nG p];decide),p⟩
  |cons a l=>
    obtain⟨C,u,r⟩:=wR (k:=k) a8 p ⟨_,_,rfl,a7⟩ a6;refine⟨C,?_,r⟩;have b:dL G (A+1+1+1)=1:=nG (show Rd G (tN a::_) _ B from p);rw[l7 b,u]
 rw[Q];simp only;rw[dw x,aS];simp only;have n:=aK x
 obtain⟨D,X,Z,g⟩:∃D,(if az G (C+1)=[119,111,114,100]then C+1+1 else C+1)=D/\decide (az G (C+1)=[119,111,114,100])=word/\Rd G (tS [123]::d) D B:=by
  cases word
  .have n:Rd G (tS [123]::d) (C+1) B:=n
   have e:¬az G (C+1)=[119,111,114,100]:=by rw[aV n];decide
   exact⟨_,j8 e,z7 e,n⟩
  .have n:Rd G (tW [119,111,114,100]::tS [123]::d) (C+1) B:=n
   have e:az G (C+1)=[119,111,114,100]:=by rw[aV n];rfl
   exact⟨_,l7 e,B3 e,aK n⟩
 rw[X,Z,dw g,aS];simp only;have c:=aK g;rw[<-w]at c
 obtain⟨E,o,W⟩:∃E,dI G k [] (D+1)=.ok locals E/\Rd G (tks (gL 1 body)++[tS [125]]) E B:=by
  have i:∀{A:Nat},Rd G (tks (gL 1 body)++[tS [125]]) A B->az G A≠[118,97,114]:=λh=>by
   cases body with
   |nil=>rw[aV (show Rd G [tS [125]] _ B from h)];decide
   |cons s l=>rw[gL,bK,l6]at h;exact(DW h).2.2
  obtain⟨k,rfl⟩:∃j,k=j+2:=⟨k-2,a6⟩
  by_cases hl:locals=[]
  .rw[l7 hl]at c
   have c:Rd G (tks (gL 1 body)++[tS [125]]) (D+1) B:=c;exact⟨_,by rw[dI,j8 (i c),hl],c⟩
  .rw[j8 hl,bj,bK,bZ,u7,l6]at c
   have c:Rd G (tW [118,97,114]::(tks (pcN locals)++tS bO::(tks (gL 1 body)++[tS [125]]))) (D+1) B:=c;obtain⟨E,u,r⟩:=wR (k:=k+1) hl (aK c) ⟨_,_,rfl,a7⟩ a6;have y:=aK r;refine⟨_,?_,y⟩;rw[dI,l7 (by rw[aV c];rfl),u];simp only[PR.bind];rw[dw r,aS];simp only;rw[dI,j8 (i y)];rfl
 rw[o];simp only;obtain⟨b1,q,H⟩:=tE body [] 1 E B k [] (λs J=>RM _ s 1 (l0 _) (fZ v J) (dr L J)) W a6;rw[q];simp only;rw[I,H.nil];rfl
def sj:Str:=[102,117,110,99]
theorem zE:∀(l:List (Str×Int))(vs:List Str)(done:List (Str×Int))(A B:Nat)(n:Nat)(m:List TK),(∀a∈l,0<=a.2)->Rd G (tks (l.flatMap pcA)++tW sj::m) A B->z l+1<=n->∃C,kv G n vs done A=.ok (vs,done++l) C/\Rd G (tW sj::m) C B
 |[],vs,done,A,B,n,m,_,h,c=>by
   obtain⟨n,rfl⟩:∃k,n=k+1:=⟨n-1,a6⟩
   have h:Rd G (tW sj::m) A B:=h;exact⟨A,by rw[kv,j8 WU,j8 WU,s5],h⟩
 |a::l,vs,done,A,B,n,m,d,h,c=>by
   rw[j6]at c;obtain⟨n,rfl⟩:∃k,n=k+1:=⟨n-1,a6⟩
   have h:Rd G (tW [97,114,114,97,121]::tN a.1::tS [91]::(2,gg a.2.toNat,a.2.toNat)::tS [93]::tS bO::(tks (l.flatMap pcA)++tW sj::m)) A B:=h;have U:=aK h;have Y:=aK U;have e:=aK Y;have f:=aK e;have i:=aK f;obtain⟨t,j,I,_⟩:=kQ (k:=1) U rfl;obtain⟨o,p,_,g⟩:=kQ (k:=2) e rfl;obtain⟨C,q,r⟩:=zE l vs (done++[a]) _ B n m (λb hb=>d b Xg) (aK i) a6;refine⟨C,?_,r⟩;rw[kv,j8 WU,l7 W3,j];simp only[PR.bind];rw[dw Y,aS];simp only;rw[p];simp only;rw[dw f,aS];simp only;rw[dw i,aS];simp only;have I:t.text=a.1:=I;have g:o.num=a.2.toNat:=g;rw[I,g,J2 (d a a8),q,l6];rfl
theorem Fv{k0 B:Nat}(hB:B<z G)(I:az G B≠sj):∀(l done:List Fn)(A:Nat)(n:Nat),(∀f∈l,(cI f=T/\oX f.body)/\4*(z f.params+z f.locals+aE f.body)+5<=k0)->Rd G (tks (l.flatMap pcF)) A B->k0+z l+1<=n->lH G n done A=.no B
 |[],done,A,n,_,h,a=>by
   obtain⟨n,rfl⟩:∃k,n=k+1:=⟨n-1,a6⟩
   have h:Rd G [] A B:=h;have I:az G B≠[102,117,110,99]:=I;rw[h.nil,lH,l7 hB];unfold mn;rw[aS,j8 I];rfl
 |f::l,done,A,n,hf,h,a=>by
   rw[j6]at a;obtain⟨n,rfl⟩:∃k,n=k+1:=⟨n-1,a6⟩
   rw[A1,bK]at h;obtain⟨C,U,Y⟩:=h.app;have b:A<z G:=by have:=U.1;have:=Y.1;omega
   obtain⟨⟨f1,c⟩,f3⟩:=hf f a8;rw[lH,l7 b,KG f1 c U a6];simp only[PR.bind];exact Fv hB I l _ C n (λg d=>hf g (by simp[d])) Y a6
omit G in
theorem Od{q:Nat}(V:aU q l=T):aH l<=z (tks (pcJ l)):=by
 unfold pcJ;rw[bZ,ky,D4];have:=zC (tS ck) [] l λe b=>zD _ e q (l0 _) (eN V b);cases l with
 |nil=>simp[aH]
 |cons a l=>rw[j6]at this;omega
omit G in
theorem sk(q:Nat):∀l:List Stm,(∀s∈l,∀c,szS s<=z (tks (pcS c s)))->aE l<=z (tks (gL q l))
 |[],_=>by simp[aE]
 |a::l,h=>by
   have U:=h a a8 q;have Y:=sk q l λs b=>h s (by simp[b]);rw[gL,aE,bK,j4];omega
omit G in
theorem Oe:∀(av:Nat)(s:Stm)(q c:Nat),szS s<=av->di q s=T->szS s<=z (tks (pcS c s)):=by
 intro av
 induction av with
 |zero=>intro s _ _ h;have:=si s;omega
 |succ av i=>
   rintro⟨kind,name,e,g,el⟩ q c bc V;rw[szS]at bc|-;simp only[di,l4,s7]at V;obtain⟨⟨_,d,j⟩,p,o⟩:=V;have x:=Od j;have y:=sk (c+1) g λs hs f=>i s (q+1) f Xf (dr p hs);have H:=sk (c+1) el λs hs f=>i s (q+1) f Xf (dr o hs)
   have n:∀{b:Bool},(b&&decide (z e=1/\z g=0/\z el=0))=T->aE g=0/\aE el=0:=λh=>by
    simp only[l4,s7]at h;rw[r0 h.2.2.1,r0 h.2.2.2];exact⟨rfl,rfl⟩
   rw[pcS,bZ];unfold cp at d;split
   .rename_i k;rw[l7 k]at d
    have:=n d;simp only[bj,bK,bZ,j6,j4];omega
   rename_i t;rw[j8 t]at d;split
   .rename_i k;rw[l7 k]at d
    simp only[l4,s7]at d;rw[r0 d.2.2.1,r0 d.2.2.2]
    match e,d.2.1 with
    |[a,b],_=>
      obtain⟨E,u⟩:=cQ j;have U:=zD _ a _ (l0 _) E;have Y:=zD _ b _ (l0 _) (cQ u).1;simp only[C5,F6,D2,B1,bj,bK,bZ,j6,j4,uW,aH,aE];omega
   rename_i v;rw[j8 v]at d;split
   .rename_i k;rw[l7 k]at d
    have:=n d;simp only[bj,bK,j6,j4];omega
   rename_i w;rw[j8 w]at d;split
   .rename_i k
    rw[j8 a6,j8 a6,l7 k]at d;simp only[l4,s7]at d;rw[r0 d.2.2.1,r0 d.2.2.2];simp only[bj,bK,j6,j4,aE];omega
   rename_i r;split
   .rename_i k
    rw[j8 a6,j8 a6,j8 r,l7 k]at d;simp only[l4,s7]at d;rw[r0 d.2.2.1,r0 d.2.2.2];simp only[bj,bK,bZ,j6,j4,aE];omega
   .simp only[bj,bK,j6,j4]
    cases el with
    |nil=>simp only[aE];omega
    |cons b l=>simp only[R5,A3,↓reduceIte,bj,j6];omega
omit G in
theorem KH:∀l:List Str,z l<=z (tks (l.flatMap λx=>[([],tS ck),([32],tN x)]))
 |[]=>by simp
 |b::l=>by
   have:=KH l;rw[A1,bK,j4,j6];have:z (tks [(([]:Str),tS ck),([32],tN b)])=2:=rfl;omega
omit G in
theorem zF(l:List Str):z l<=z (tks (pcN l)):=by
 cases l with
 |nil=>simp
 |cons a l=>have:=KH l;unfold pcN;rw[bj,j6,j6];omega
omit G in
theorem zG{f:Fn}(V:cI f=T):z f.params+z f.locals+aE f.body+6<=z (tks (pcF f)):=by
 obtain⟨name,params,locals,word,body⟩:=f;unfold cI at V;simp only[l4,s7]at V;have U:=sk 1 body λs a c=>Oe _ s 1 c (l0 _) (dr V.2.2 a);have Y:=zF params;have b:=zF locals;unfold pcF;simp only[bj,bK,j6,j4,show tks ([]:List Pc)=[]from rfl,j7]at U Y b|-
 have d:z locals<=z (tks (if locals=[]then []else(10::ind 1,tW [118,97,114])::(setl [32] (pcN locals)++[([],tS bO)]))):=by
  split
  .rename_i e;subst e;simp
  .rw[bj,bK,bZ,j6,j4];omega
 omega
omit G in
theorem sq{d:Type}{b1:d->List Pc}{k:Nat}:∀{l:List d},(∀a∈l,k<=z (tks (b1 a)))->k*z l<=z (tks (l.flatMap b1))
 |[],_=>by simp
 |b::l,h=>by
   have U:=h b a8;have Y:=sq (l:=l) λc hc=>h c Yk;rw[A1,bK,j4,j6,Nat.mul_add];omega
omit G in
theorem Ck{d:Type}{b1:d->List Pc}{w:d->Nat}{k:Nat}:∀{l:List d}{a:d},(∀a∈l,w a<=z (tks (b1 a))/\k<=z (tks (b1 a)))->a∈l->w a+k*z l<=z (tks (l.flatMap b1))+k
 |b::l,a,h,e=>by
   rw[A1,bK,j4,j6,Nat.mul_add];rcases y9.1 e with rfl|e
   .have:=(h a a8).1
    have:=sq (b1:=b1) (k:=k) (l:=l) λc hc=>(h c Yk).2;omega
   .have:=Ck (a:=a) (λc hc=>h c Yk) e
    have:=(h b a8).2;omega
theorem RN{p:Prog}(V:cD p=T)(H:xe p){B:Nat}(hB:B<z G)(I:az G B≠sj)(h:Rd G (tks (pcP p)) 0 B):lW G (4*z G+7) 0=.no B:=by
 unfold cD at V;simp only[l4,s7,x7]at V;obtain⟨⟨x,_⟩,J,bk⟩:=V
 obtain⟨f,fs,s⟩:∃f fs,p.funcs=f::fs:=by
  cases e:p.funcs with
  |nil=>rw[e]at x;exact absurd x.1 a8
  |cons f fs=>exact⟨f,fs,rfl⟩
 have o:∀g∈f::fs,cI g=T/\oX g.body:=λg j=>⟨bk g (s▸j),H g (s▸j)⟩
 unfold pcP at h;rw[bZ,bK,bK,s,A1,bK]at h
 have y:∀a∈p.arrays,0<=a.2:=λa t=>by
  have:=J a t;unfold fb at this;simp only[l4,s7]at this;omega
 obtain⟨i,b⟩:∃m,tks (pcF f)=tW sj::m:=⟨_,rfl⟩
 have W:=sq (b1:=pcA) (k:=6) (l:=p.arrays) λa _=>by simp[pcA,tks]
 have d:=sq (b1:=pcF) (k:=6) (l:=fs) λg j=>by have:=zG (o g (by simp[j])).1;omega
 have v:=h.1;have X:=zG (o f a8).1
 have c:∀g∈fs,z g.params+z g.locals+aE g.body+6*z fs<=z (tks (fs.flatMap pcF)):=λg j=>by
  have:=Ck (b1:=pcF) (w:=λg=>z g.params+z g.locals+aE g.body+6) (k:=6) (l:=fs) (λa t=>by have:=zG (o a (by simp[t])).1;omega) j;omega
 simp only[j4]at v
 obtain⟨C,q,n⟩:∃C,kv G (4*z G+7) [] [] 0=.ok (p.vars,p.arrays) C/\Rd G (tks (pcF f)++tks (fs.flatMap pcF)) C B:=by
  by_cases r:p.vars=[]
  .rw[l7 r]at h
   have h:Rd G (tks (p.arrays.flatMap pcA)++(tks (pcF f)++tks (fs.flatMap pcF))) 0 B:=h;rw[b,u7]at h|-;obtain⟨C,q,n⟩:=zE p.arrays [] [] 0 _ (4*z G+7) _ y h a6;exact⟨C,by rw[q,r];rfl,n⟩
  .rw[j8 r]at v
   have u:=zF p.vars;rw[bj,bK,bZ,j6,j4]at v;rw[j8 r,bj,bK,bZ,u7,l6]at h;have h:Rd G (tW [118,97,114]::(tks (pcN p.vars)++tS bO::(tks (p.arrays.flatMap pcA)++(tks (pcF f)++tks (fs.flatMap pcF))))) 0 B:=h;obtain⟨C,q,n⟩:=wR (k:=4*z G+6) r (aK h) ⟨_,_,rfl,a7⟩ a6;have E:=aK n;rw[b,u7]at E|-;obtain⟨D,K,L⟩:=zE p.arrays p.vars [] _ _ (4*z G+6) _ y E a6;refine⟨D,?_,L⟩;rw[kv,l7 W3,q];simp only[PR.bind];rw[dw n,aS];simp only;rw[x9,K];rfl
 obtain⟨D,U,Y⟩:=n.app;unfold lW;rw[q];simp only[PR.bind];obtain⟨O,Q⟩:=o f a8;rw[KG O Q U a6];simp only;rw[Fv (k0:=4*(z (tks (fs.flatMap pcF))-6*z fs)+5) hB I fs [f] D _ (λg j=>⟨o g (by simp[j]),by have:=c g j;omega⟩) Y a6]
end
end
end
section
open Go.Asm (Str digit letter dP gK gg zQ Eg xm tM wht small)
section
def Sep(R:Str):Prop:=∀c,R.head?=S c->dP c=F
def nH(s:Str):Prop:=∀c∈s,c=32\/c=10
def qu(k:TK)(R:Str):Prop:=firstT (k.2.1++R)=.ok k/\∃c t,k.2.1=c::t/\c≠32/\c≠9/\c≠10/\¬(c=47/\(t++R).head?=S 47)
def okC:List Pc->Str->Prop
 |[],_=>True
 |x::l,R=>nH x.1/\qu x.2 (aj l++R)/\okC l R
def aJ(l m:List Pc):aj (l++m)=aj l++aj m:=J9
def ak(x:Pc)(l:List Pc):aj (x::l)=x.1++x.2.2.1++aj l:=A1
def dy:∀(l m:List Pc)(R:Str),okC (l++m) R↔okC l (aj m++R)/\okC m R
 |[],m,R=>by simp[okC]
 |x::l,m,R=>by
   rw[u7,okC,okC,dy l m R,aJ,l6];exact⟨λ⟨a,b,c,d⟩=>⟨⟨a,b,c⟩,d⟩,λ⟨⟨a,b,c⟩,d⟩=>⟨a,b,c,d⟩⟩
variable{R:Str}{l:List Pc}{c:UInt8}{s:Str}{k:TK}
def jz(a:nH s):∀{l:List Pc}{R:Str},okC l R->okC (setl s l) R
 |[],_,h=>h
 |_::_,_,h=>⟨a,h.2.1,h.2.2⟩
def lZ:Nat->List Pc->List Tok
 |_,[]=>[]
 |k,x::l=>⟨x.2.1,x.2.2.1,x.2.2.2,k+z x.1⟩::lZ (k+z x.1+z x.2.2.1) l
def uw:∀(l:List Pc)(k:Nat),(lZ k l).map strip=tks l
 |[],_=>rfl
 |x::l,k=>by rw[lZ,l9,uw l];rfl
def yk:∀(l m:List Pc)(k:Nat),lZ k (l++m)=lZ k l++lZ (k+z (aj l)) m
 |[],m,k=>rfl
 |x::l,m,k=>by
   rw[u7,lZ,lZ,yk l m,ak,u7];simp only[j4];rw[show k+z x.1+z x.2.2.1+z (aj l)=k+(z x.1+z x.2.2.1+z (aj l)) by omega]
def yl:∀(s:Str)(n k:Nat)(R:Str),nH s->jH (n+z s) k (s++R)=jH n (k+z s) R
 |[],n,k,R,_=>by simp
 |c::s,n,k,R,h=>by
   have a:=h c a8;rw[u7,j6,<-C7,jH,l7 (by rcases a with rfl|rfl<;>simp),yl s n (k+1) R λx I=>h x Xs];rw[show k+1+z s=k+(z s+1) by omega]
def Ha(h:qu k R)(n p:Nat):jH (n+1) p (k.2.1++R)=match jH n (p+z k.2.1) R with|(.ok l,q)=>(.ok (⟨k.1,k.2.1,k.2.2,p⟩::l),q)|(.err e,q)=>(.err e,q):=by
 obtain⟨U,c,t,e,Y,b,d,f⟩:=h;obtain⟨g,i,v⟩:=k;simp only at e U;subst e;simp only;rw[u7]at U|-;rw[jH,j8 (by simp[Y,b,d]),j8 f,U];simp only;rw[show (c::(t++R)).drop (z (c::t))=R by rw[<-u7];exact List.drop_left];obtain⟨a,q⟩:=jH n (p+z (c::t)) R;cases a<;>rfl
def KI:∀(l:List Pc)(n k:Nat),okC l []->z (aj l)<n->(jH n k (aj l)).1=.ok (lZ k l)
 |[],n,k,_,h=>by
   obtain⟨n,rfl⟩:∃j,n=j+1:=⟨n-1,a6⟩
   rfl
 |x::l,n,k,h,d=>by
   obtain⟨U,Y,f⟩:=h;rw[ak]at d|-;simp only[j4]at d;have g:0<z x.2.2.1:=by obtain⟨_,c,t,e,_⟩:=Y;rw[e];simp
   obtain⟨n,rfl⟩:∃j,n=j+1+z x.1:=⟨n-1-z x.1,a6⟩
   rw[s5]at Y;rw[l6,yl x.1 _ k _ U,Ha Y];have b:=KI l n (k+z x.1+z x.2.2.1) f a6;rw[lZ];generalize jH n (k+z x.1+z x.2.2.1) (aj l)=r at b|-;obtain⟨a,q⟩:=r;have b:a=.ok _:=b;subst b;rfl
def ke{q:UInt8->Bool}:∀{s:Str}{R:Str},s.takeWhile q=s->(∀c,R.head?=S c->q c=F)->(s++R).takeWhile q=s
 |[],[],_,_=>rfl
 |[],c::R,_,h=>by rw[x9,G0,j8 (by rw[h c rfl];simp)]
 |a::s,R,b,h=>by
   rw[G0]at b;split at b
   .rename_i d
    rw[u7,G0,l7 d,ke (List.cons.inj b).2 h]
   .cases b
def qv{q:UInt8->Bool}:∀s:Str,(∀c∈s,q c=T)->s.takeWhile q=s
 |[],_=>rfl
 |a::s,h=>by rw[G0,l7 (h a a8),qv s λc hc=>h c Yk]
def mR(h:letter c=T):digit c=F/\c≠39/\c≠32/\c≠9/\c≠10/\c≠47:=by
 unfold letter small at h;simp only[F3,l4,s7]at h;refine⟨?_,?_,?_,?_,?_,?_⟩
 .unfold digit
  simp only[S9,Sk];omega
 all_goals rintro rfl;revert h;decide
def gf{s R:Str}(h:aN s=T)(b:Sep R):qu (tN s) R:=by
 unfold aN at h;simp only[s7]at h;obtain⟨U,Y,d,e,f⟩:=h;cases s with
 |nil=>exact absurd rfl U
 |cons c t=>
   have hl:letter c=T:=by simpa using d
   obtain⟨g,i,j,m,n,o⟩:=mR hl;have a:=ke e b;refine⟨?_,c,t,rfl,j,m,n,λx=>o x.1⟩;show firstT ((c::t)++R)=_;rw[u7]at a|-;rw[firstT,j8 (by rw[g];simp),j8 i,l7 hl,a,j8 a6,j8 f];rfl
def iq{s R:Str}(h:s∈gW)(b:Sep R):qu (tW s) R:=by
 have d:s.takeWhile dP=s/\z s<=20/\∃c t,s=c::t/\letter c=T:=by
  revert h;unfold gW;simp only[y9,A4,E7];rintro(rfl|rfl|rfl|rfl|rfl|rfl|rfl|rfl|rfl|rfl)<;>exact⟨a7,a7,_,_,rfl,a7⟩
 obtain⟨e,Y,c,t,rfl,hl⟩:=d;obtain⟨f,g,i,j,m,n⟩:=mR hl;have a:=ke e b;refine⟨?_,c,t,rfl,i,j,m,λx=>n x.1⟩;show firstT ((c::t)++R)=_;rw[u7]at a|-;rw[firstT,j8 (by rw[f];simp),j8 g,l7 hl,a,j8 a6,l7 h];rfl
def DY(h:dP c=F):digit c=F:=by
 unfold dP at h;simp only[Bool.or_eq_false_iff]at h;exact h.1.2
def Cl{n:Nat}(h:n<4294967296)(g:Sep R):qu (2,gg n,n) R:=by
 have b:=zQ n;have a:(gg n).takeWhile digit=gg n:=qv _ (x7.1 b);have e:=ke (q:=digit) a λc i=>DY (g c i);have bl:=Eg n;have f:=xm n;cases hd:gg n with
 |nil=>exact absurd hd bl
 |cons c t=>
   rw[hd]at b e f;simp only[C4,l4]at b;obtain⟨d,_,_,_,j,_,_,_⟩:=tM b.1;unfold wht at d;simp only[Bool.or_eq_false_iff,beq_eq_false_iff_ne]at d;refine⟨?_,c,t,rfl,d.1,d.2,j,λx=>?_⟩
   .show firstT ((c::t)++R)=.ok (2,c::t,n)
    rw[u7]at e|-;rw[firstT,l7 b.1,e,f,j8 a6]
   .have:=b.1;rw[x.1]at this;revert this;decide
def Fw:List Str:=[[40],[41],[91],[93],[59],[44],[123],[125],[33]]
def aY{s R:Str}(h:s∈Fw):qu (tS s) R:=by
 unfold Fw at h;simp only[y9,A4,E7]at h;rcases h with rfl|rfl|rfl|rfl|rfl|rfl|rfl|rfl|rfl
 all_goals
  refine⟨?_,_,_,rfl,a7,a7,a7,λx=>absurd x.1 a7⟩;show firstT (_::R)=_;rw[firstT,j8 a7,j8 a7,j8 a7];simp[nD,List.find?,List.isPrefixOf,tS]
def zH{s R:Str}(h:s∈nD)(a:R.head?=S 32):qu (tS s) R:=by
 obtain⟨n,rfl⟩:∃n,R=32::n:=by
  cases R with
  |nil=>cases a
  |cons c R=>cases a;exact⟨_,rfl⟩
 unfold nD at h;simp only[y9,A4,E7]at h;rcases h with rfl|rfl|rfl|rfl|rfl|rfl|rfl|rfl|rfl|rfl|rfl|rfl|rfl|rfl|rfl|rfl|rfl|rfl|rfl|rfl|rfl|rfl|rfl|rfl
 all_goals
  refine⟨?_,_,_,rfl,a7,a7,a7,λx=>absurd x.2 a8⟩;show firstT (_::_)=_;rw[firstT,j8 a7,j8 a7,j8 a7];simp[nD,List.find?,List.isPrefixOf,tS]
def bl0:nH []:=λ_ h=>absurd h a8
def bl1:nH [32]:=λc h=>.inl (C6.1 h)
def bl2:nH [10]:=λc h=>.inr (C6.1 h)
def blI(n:Nat):nH (10::ind n):=λc h=>by
 rcases y9.1 h with rfl|h
 .exact .inr rfl
 .exact .inl (H0 h)
def Cm(h:dP c=F):Sep (c::R):=λx I=>by cases I;exact h
def cw{s R:Str}(h:s∈Fw):Sep (aj (([],tS s)::l)++R):=by
 rw[ak];unfold Fw at h;simp only[y9,A4,E7]at h;rcases h with rfl|rfl|rfl|rfl|rfl|rfl|rfl|rfl|rfl<;>exact Cm a7
def eQ{s R:Str}(h:c=32\/c=10):Sep (aj ((c::s,k)::l)++R):=by
 rw[ak];rcases h with rfl|rfl<;>exact Cm a7
def KJ{kind op:Int}:jk kind op∈nD:=by
 have t:∀(c:Prop)[Decidable c](a b:Str),a∈nD->b∈nD->(if c then a else b)∈nD:=λc _ a b d e=>by by_cases h:c<;>simp[h,d,e]
 unfold jk
 repeat (refine t _ _ _ (by decide) ?_)
 decide
def KK(e:Ex):pcE e≠[]:=λh=>by
 obtain⟨x,l,a,_⟩:=KC e;rw[h]at a;cases a
def mT(h:l≠[])(R:Str):(aj (setl [32] l)++R).head?=S 32:=by
 cases l with
 |nil=>exact absurd rfl h
 |cons x l=>rfl
def OkE(a:Ex):Prop:=∀R,Sep R->okC (pcE a) R
def okM{c:TK}{s:Str}(e:nH s)(f:∀Q,Q.head?=S 32->qu c Q)(d:∀m R,Sep (aj ((s,c)::m)++R)):∀(l:List Ex)(R:Str),(∀a∈l,OkE a)->Sep R->okC (pcM c s l) R
 |[],R,_,_=>trivial
 |a::l,R,g,i=>by
   have j:=okM e f d l R (λb hb=>g b Xg) i;rw[pcM];refine⟨e,f _ ?_,(dy _ _ _).2 ⟨jz bl1 (g a a8 _ ?_),j⟩⟩
   .rw[aJ,l6];exact mT (KK a) _
   .cases l with
    |nil=>exact i
    |cons b l=>rw[pcM];exact d _ _
def Cn(h:okC l R):okC (l.drop 1) R:=by
 cases l with
 |nil=>exact h
 |cons x l=>exact h.2.2
def okJ{l:List Ex}(b:∀a∈l,OkE a)(d:Sep R):okC (pcJ l) R:=
 jz bl0 (Cn (okM bl0 (λQ _=>aY a7) (λm R=>cw a7) l R b d))
def RO:∀(av:Nat)(e:Ex)(q:Nat),szE e<=av->uE e->cR q e=T->OkE e:=by
 intro av
 induction av with
 |zero=>intro e _ h;have:=lY e;omega
 |succ av n=>
   rintro⟨kind,op,num,name,b⟩ q bc i V R g;rw[szE]at bc;rw[uE]at i;simp only[cR,l4,s7]at V;obtain⟨_,d,f⟩:=V;have J:∀a∈b,OkE a:=λa j=>n a (q+1) (by have:=se j;omega) (ka i.2 j) (eN f j);unfold bI at d;unfold pcE;split
   .exact⟨bl0,Cl a6 g,trivial⟩
   rename_i o;rw[j8 o]at d;split
   .rename_i k;rw[l7 k]at d
    simp only[l4,ah,↓reduceIte]at d;exact⟨bl0,gf d.1.2 g,trivial⟩
   rename_i p;rw[j8 p]at d;split
   .rename_i k;rw[l7 k]at d
    exact Ul
   rename_i r;rw[j8 r]at d;split
   .rename_i k;rw[l7 k]at d
    exact Ul
   split
   .exact⟨bl0,iq a7 (cw a7),bl0,aY a7,bl0,aY a7,trivial⟩
   split
   .exact⟨bl0,aY a7,okJ J g⟩
   .refine⟨bl0,aY a7,(dy _ _ _).2 ⟨jz bl0 (Cn (okM bl1 (λQ t=>zH KJ t) (λm R=>eQ (.inl rfl)) b _ J (cw a7))),bl0,aY a7,trivial⟩⟩
def Fx(h:l≠[]):setl s l≠[]:=by cases l<;>simp_all[setl]
def DZ{l:List Ex}(h:l≠[]):pcJ l≠[]:=by
 cases l with
 |nil=>exact absurd rfl h
 |cons a l=>unfold pcJ;rw[pcM,D2,B1];exact Fx (by simp[Fx (KK a)])
def Co(h:R.head?=S 32):Sep R:=λc a=>by rw[h]at a;cases a;decide
def OkS(s:Stm):Prop:=∀q R,Sep R->okC (pcS q s) R
def KL(q:Nat)(s:Stm):∃k l,pcS q s=(10::ind q,k)::l:=by
 obtain⟨kind,name,e,a,el⟩:=s;rw[pcS]
 repeat' split
 all_goals exact⟨_,_,rfl⟩
def Fy:∀(l:List Stm)(q:Nat)(R:Str),(∀s∈l,OkS s)->Sep R->okC (gL q l) R
 |[],_,_,_,_=>by rw[gL];trivial
 |a::l,q,R,d,f=>by
   rw[gL,dy];refine⟨d a a8 q _ ?_,Fy l q R (λb hb=>d b Xg) f⟩;cases l with
   |nil=>rw[gL];exact f
   |cons b l=>
     obtain⟨k,m,e⟩:=KL q b;rw[gL,e];exact eQ (.inr rfl)
def RP:∀(av:Nat)(s:Stm)(q:Nat),szS s<=av->AA s->di q s=T->OkS s:=by
 intro av
 induction av with
 |zero=>intro s _ h;have:=si s;omega
 |succ av m=>
   rintro⟨kind,name,e,n,el⟩ q bc i V c R y;rw[szS]at bc;rw[AA]at i;simp only[di,l4,s7]at V;obtain⟨⟨_,d,o⟩,p,r⟩:=V;have g:∀a∈e,OkE a:=λa j=>RO _ a (q+1) (l0 _) (ka i.1 j) (eN o j);have t:∀s∈n,OkS s:=λs hs=>m s (q+1) Xf (fZ i.2.1 hs) (dr p hs);have u:∀s∈el,OkS s:=λs hs=>m s (q+1) Xf (fZ i.2.2 hs) (dr r hs);have f:∀{Q:Str},okC [(([]:Str),tS bO)] Q:=λ{Q}=>⟨bl0,aY a7,trivial⟩
   unfold cp at d;rw[pcS];refine jz (blI c) ?_;split
   .rename_i k;rw[l7 k]at d
    simp only[l4,ah,↓reduceIte,s7]at d;exact⟨bl0,gf d.1 (eQ (.inl rfl)),bl1,zH a7 (by rw[aJ,l6];exact mT (DZ (λh=>by rw[h]at d;exact absurd d.2.1 a7)) _),(dy _ _ _).2 ⟨jz bl1 (okJ g (cw a7)),f⟩⟩
   rename_i v;rw[j8 v]at d;split
   .rename_i k;rw[l7 k]at d
    simp only[l4,ah,↓reduceIte,s7]at d;exact⟨bl0,gf d.1 (cw a7),bl0,aY a7,(dy _ _ _).2 ⟨okJ (λa j=>g a (N0 j)) (cw a7),bl0,aY a7,bl1,zH a7 (by rw[aJ,l6];exact mT (DZ (λh=>by have:=congrArg z h;rw[D4,d.2.1]at this;exact absurd this a7)) _),(dy _ _ _).2 ⟨jz bl1 (okJ (λa j=>g a (J7 j)) (cw a7)),f⟩⟩⟩
   rename_i w;rw[j8 w]at d;split
   .exact⟨bl0,iq a7 (cw a7),bl0,aY a7,(dy _ _ _).2 ⟨okJ g (cw a7),bl0,aY a7,f⟩⟩
   rename_i x;rw[j8 x]at d;split
   .rename_i k
    rw[j8 a6,j8 a6,l7 k]at d;simp only[l4,ah,↓reduceIte,s7]at d;exact⟨bl0,gf d.1 (cw a7),bl0,aY a7,(dy _ _ _).2 ⟨okJ g (cw a7),bl0,aY a7,f⟩⟩
   split
   .refine⟨bl0,iq a7 ?_,(dy _ _ _).2 ⟨jz bl1 (okJ g (cw a7)),f⟩⟩
    cases e with
    |nil=>exact cw a7
    |cons a l=>rw[aJ,l6];exact Co (mT (DZ a8) _)
   .refine⟨bl0,iq (by split<;>decide) (eQ (.inl rfl)),bl1,aY a7,(dy _ _ _).2 ⟨okJ g (cw a7),bl0,aY a7,bl1,aY a7,(dy _ _ _).2 ⟨Fy n _ _ t ?_,?_⟩⟩⟩
    .cases el<;>exact eQ (.inr rfl)
    .cases el with
     |nil=>exact⟨blI _,aY a7,trivial⟩
     |cons b l=>exact⟨blI _,aY a7,bl1,iq a7 (eQ (.inl rfl)),bl1,aY a7,(dy _ _ _).2 ⟨Fy (b::l) _ _ u (eQ (.inr rfl)),blI _,aY a7,trivial⟩⟩
def Fz:∀(l:List Str)(R:Str),l.all aN=T->Sep R->okC (l.flatMap λx=>[([],tS ck),([32],tN x)]) R
 |[],_,_,_=>trivial
 |a::l,R,h,d=>by
   simp only[C4,l4]at h;rw[A1,dy];refine⟨⟨bl0,aY a7,bl1,gf h.1 ?_,trivial⟩,Fz l R h.2 d⟩;cases l with
   |nil=>exact d
   |cons b l=>exact cw a7
def okN{l:List Str}(h:l.all aN=T)(d:Sep R):okC (pcN l) R:=by
 cases l with
 |nil=>trivial
 |cons a l=>
   simp only[C4,l4]at h;refine⟨bl0,gf h.1 ?_,Fz l R h.2 d⟩;cases l with
   |nil=>exact d
   |cons b l=>exact cw a7
def RQ{l:List Str}(h:l≠[]):pcN l≠[]:=by
 cases l with
 |nil=>exact absurd rfl h
 |cons a l=>exact List.cons_ne_nil _ _
def KM(a:nH s){l:List Str}(h:l.all aN=T)(hl:l≠[]):okC ((s,tW [118,97,114])::(setl [32] (pcN l)++[([],tS bO)])) R:=
 ⟨a,iq a7 (by rw[aJ,l6];exact Co (mT (RQ hl) _)),(dy _ _ _).2 ⟨jz bl1 (okN h (cw a7)),bl0,aY a7,trivial⟩⟩
def RR{f:Fn}(V:cI f=T)(d:oX f.body)(i:Sep R):okC (pcF f) R:=by
 obtain⟨name,params,locals,word,body⟩:=f;unfold cI at V;simp only[l4,s7]at V;obtain⟨⟨P,_⟩,⟨e,hl⟩,g⟩:=V;have hB:okC (gL 1 body++[([10],tS [125])]) R:=(dy _ _ _).2 ⟨Fy body 1 _ (λs a=>RP _ s 1 (l0 _) (fZ d a) (dr g a)) (eQ (.inr rfl)),bl2,aY a7,trivial⟩
 have b:okC ((if locals=[]then []else(10::ind 1,tW [118,97,114])::(setl [32] (pcN locals)++[([],tS bO)]))++(gL 1 body++[([10],tS [125])])) R:=by
  refine(dy _ _ _).2 ⟨?_,hB⟩;split
  .trivial
  .rename_i h;exact KM (blI 1) hl h
 unfold pcF;refine⟨bl2,iq a7 (eQ (.inl rfl)),bl1,gf P (cw a7),bl0,aY a7,(dy _ _ _).2 ⟨okN e (cw a7),bl0,aY a7,?_⟩⟩;cases word
 .exact⟨bl1,aY a7,b⟩
 .exact⟨bl1,iq a7 (eQ (.inl rfl)),bl1,aY a7,b⟩
def KN{b1:List Pc}(h:∃k m,b1=([10],k)::m)(R:Str):Sep (aj b1++R):=by
 obtain⟨k,m,rfl⟩:=h;exact eQ (.inr rfl)
def Ea{d:Type}{b1:d->List Pc}(e:∀a,∃k m,b1 a=([10],k)::m):∀(l:List d)(R:Str),(∀a∈l,∀R,Sep R->okC (b1 a) R)->Sep R->okC (l.flatMap b1) R
 |[],_,_,_=>trivial
 |a::l,R,h,f=>by
   rw[A1,dy];refine⟨h a a8 _ ?_,Ea e l R (λb hb=>h b Xg) f⟩;cases l with
   |nil=>exact f
   |cons b l=>rw[A1,aJ,l6];exact KN (e b) _
def RS{p:Prog}(V:cD p=T)(e:xe p)(b:Sep R):okC (pcP p) R:=by
 unfold cD at V;simp only[l4,s7,x7]at V;obtain⟨⟨_,g⟩,i,bk⟩:=V;unfold pcP;have j:okC (p.funcs.flatMap pcF) R:=Ea (λf=>⟨_,_,rfl⟩) _ _ (λf d R b=>RR (bk f d) (e f d) b) b
 have m:okC (p.arrays.flatMap pcA++p.funcs.flatMap pcF) R:=by
  refine(dy _ _ _).2 ⟨Ea (b1:=pcA) (λa=>⟨_,_,rfl⟩) _ _ (λa n R b=>?_) ?_,j⟩
  .have:=i a n
   unfold fb at this;simp only[l4,s7]at this;exact⟨bl2,iq a7 (eQ (.inl rfl)),bl1,gf this.1.1 (cw a7),bl0,aY a7,bl0,Cl a6 (cw a7),bl0,aY a7,bl0,aY a7,trivial⟩
  .cases o:p.funcs with
   |nil=>exact b
   |cons f l=>rw[A1,aJ,l6];exact KN ⟨_,_,rfl⟩ _
 refine jz bl0 ((dy _ _ _).2 ⟨?_,m⟩);split
 .trivial
 .rename_i h;exact KM bl2 (x7.2 g) h
def KO{p:Prog}(V:cD p=T)(i:xe p)(m:qu k [])(hl:z (aj (pcP p)++([10,32]++k.2.1))<=20000):
  ∃G,qT (aj (pcP p)++([10,32]++k.2.1))=(G,0,0)/\Rd G (tks (pcP p)) 0 (z (pcP p))/\z G=z (pcP p)+1/\G[z (pcP p)]?=S ⟨k.1,k.2.1,k.2.2,z (aj (pcP p))+2⟩:=by
 have e:aj (pcP p)++([10,32]++k.2.1)=aj (pcP p++[([10,32],k)]):=by rw[aJ];simp[aj]
 have n:okC (pcP p++[([10,32],k)]) []:=(dy _ _ _).2 ⟨RS V i (eQ (.inr rfl)),λc d=>by simp at d;rcases d with rfl|rfl<;>simp,m,trivial⟩;have h:=KI _ (z (aj (pcP p++[([10,32],k)]))+1) 0 n (Nat.lt_succ_self _);rw[e]at hl|-;have f:=uw (pcP p) 0;have g:z (lZ 0 (pcP p))=z (pcP p):=by have:=congrArg z f;simpa[tks]using this
 have b:lZ 0 (pcP p++[([10,32],k)])=lZ 0 (pcP p)++[⟨k.1,k.2.1,k.2.2,z (aj (pcP p))+2⟩]:=by rw[yk,B9];rfl
 refine⟨lZ 0 (pcP p++[([10,32],k)]),?_,⟨by simp[tks],λj x I=>?_⟩,?_,?_⟩
 .unfold qT
  rw[j8 a6];generalize jH (z (aj (pcP p++[([10,32],k)]))+1) 0 (aj (pcP p++[([10,32],k)]))=r at h|-;obtain⟨a,q⟩:=r;have h:a=.ok _:=h;subst h;rfl
 .rw[<-f,y7]at I
  obtain⟨t,U,Y⟩:=H4.1 I;refine⟨t,?_,Y⟩;rw[b,B9,G1 (l8.1 U).1];exact U
 .rw[b,j4,g];rfl
 .rw[b,E3 a6,g,J4];rfl
end
end
section
open Go.Asm (Str digit letter dP gK gg fJ kZ)
section
def lf:∀(k n:Nat),n<10^(k+1)->z (gg n)<=k+1
 |0,n,h=>by rw[fJ a6];simp
 |k+1,n,h=>by
   by_cases o:n<10
   .rw[fJ o];simp
   rw[kZ o,j4,B7];have:=lf k (n/10) (by rw[Ln]at h;omega);omega
def kc{s:Str}(h:aN s=T):z s<=20:=by
 unfold aN at h;simp only[s7]at h;exact h.2.1
def jA(s:Str)(l:List Pc):z (aj (setl s l))<=z s+z (aj l):=by
 cases l with
 |nil=>simp[setl,aj]
 |cons x l=>simp only[setl,ak,j4];omega
def tF(l:List Pc):z (aj (l.drop 1))<=z (aj l):=by
 cases l with
 |nil=>simp
 |cons x l=>simp only[D2,B1,ak,j4];omega
def Og{c:TK}{s:Str}{w:Nat}(d:z s+z c.2.1+1<=w):∀l:List Ex,(∀a∈l,z (aj (pcE a))+w<=28*szE a)->z (aj (pcM c s l))<=28*aH l
 |[],_=>by simp[pcM,aj]
 |a::l,h=>by
   have U:=h a a8;have Y:=Og d l λb hb=>h b Xg;have e:=jA [32] (pcE a);rw[pcM,ak,aJ,aH];simp only[j4,B7]at e|-;omega
def KP(kind op:Int):z (jk kind op)<=2:=by
 have t:∀(c:Prop)[Decidable c](a b:Str),z a<=2->z b<=2->z (if c then a else b)<=2:=λc _ a b d e=>by by_cases h:c<;>simp[h,d,e]
 unfold jk
 repeat (refine t _ _ _ (by decide) ?_)
 decide
def VA:∀(av:Nat)(e:Ex)(q:Nat),szE e<=av->uE e->cR q e=T->z (aj (pcE e))+4<=28*szE e:=by
 intro av
 induction av with
 |zero=>intro e _ h;have:=lY e;omega
 |succ av n=>
   rintro⟨kind,op,num,name,b⟩ q bc i V;rw[szE]at bc|-;rw[uE]at i;simp only[cR,l4,s7]at V;obtain⟨_,d,f⟩:=V;have J:∀a∈b,z (aj (pcE a))+4<=28*szE a:=λa j=>n a (q+1) (by have:=se j;omega) (ka i.2 j) (eN f j)
   have y:z (aj (setl [] ((pcM (tS ck) [] b).drop 1)))<=28*aH b:=by
    have U:=Og (c:=tS ck) (s:=[]) (w:=4) a7 b J;have Y:=tF (pcM (tS ck) [] b);have m:=jA [] ((pcM (tS ck) [] b).drop 1);simp only[j7]at m;omega
   have L:z (aj (setl [] ((pcM (tS (jk kind op)) [32] b).drop 1)))<=28*aH b:=by
    have u:=KP kind op;have U:=Og (c:=tS (jk kind op)) (s:=[32]) (w:=4) (by simp only[tS,B7];omega) b J;have Y:=tF (pcM (tS (jk kind op)) [32] b);have m:=jA [] ((pcM (tS (jk kind op)) [32] b).drop 1);simp only[j7]at m;omega
   have P:ah T name=T->z name<=20:=λh=>kc (by simpa[ah]using h);have g:∀s:Str,(tS s).2.1=s:=λ_=>rfl;have r:(tN name).2.1=name:=rfl;unfold bI at d;unfold pcE;split
   .have:=lf 9 num.toNat a6
    simp only[aj,A1,H5,j4,j7,s5];omega
   rename_i o;rw[j8 o]at d;split
   .rename_i k;rw[l7 k]at d
    simp only[l4]at d;have:=P d.1.2;simp only[aj,A1,H5,j4,j7,s5,r];omega
   rename_i p;rw[j8 p]at d;split
   .rename_i k;rw[l7 k]at d
    simp only[l4]at d;have:=P d.1.2;rw[ak,ak,aJ,ak];simp only[r,g,j4,j7,j6,aj,H5]at y|-;omega
   rename_i t;rw[j8 t]at d;split
   .rename_i k;rw[l7 k]at d
    simp only[l4]at d;have:=P d.1.2;rw[ak,ak,aJ,ak];simp only[r,g,j4,j7,j6,aj,H5,cP,bt]at y|-;omega
   split
   .rw[ak,ak,ak]
    simp only[g,j4,j7,j6,aj,H5,cP,bt,tW]at y|-;omega
   split
   .rw[ak]
    simp only[g,j4,j7,j6]at y|-;omega
   .rw[ak,aJ,ak]
    simp only[g,j4,j7,j6,aj,H5,cP,bt]at L|-;omega
def KQ{l:List Ex}{q:Nat}(d:qm l)(V:aU q l=T):z (aj (pcJ l))<=28*aH l:=by
 have U:=Og (c:=tS ck) (s:=[]) (w:=4) a7 l λa b=>VA _ a q (l0 _) (ka d b) (eN V b);have Y:=tF (pcM (tS ck) [] l);have e:=jA [] ((pcM (tS ck) [] l).drop 1);unfold pcJ;simp only[j7]at e;omega
def Oh(q:Nat):z (10::ind q)=2*q+1:=by simp[ind]
def zI(q:Nat):∀l:List Stm,(∀s∈l,z (aj (pcS q s))<=200*szS s)->z (aj (gL q l))<=200*aE l
 |[],_=>by simp[gL,aj]
 |a::l,h=>by
   have U:=h a a8;have Y:=zI q l λs b=>h s (by simp[b]);rw[gL,aJ,aE,j4];omega
def VB:∀(av:Nat)(s:Stm)(q:Nat),szS s<=av->AA s->di q s=T->z (aj (pcS q s))<=200*szS s:=by
 intro av
 induction av with
 |zero=>intro s _ h;have:=si s;omega
 |succ av n=>
   rintro⟨kind,name,e,o,el⟩ q bc i V;rw[szS]at bc|-;rw[AA]at i;simp only[di,l4,s7]at V;obtain⟨⟨j,d,f⟩,p,t⟩:=V;have y:=KQ i.1 f;have c:=jA [32] (pcJ e);have A:=zI (q+1) o λs hs=>n s (q+1) Xf (fZ i.2.1 hs) (dr p hs);have B:=zI (q+1) el λs hs=>n s (q+1) Xf (fZ i.2.2 hs) (dr t hs);have P:ah T name=T->z name<=20:=λh=>kc (by simpa[ah]using h);have hs:∀s:Str,(tS s).2.1=s:=λ_=>rfl;have g:∀s:Str,(tW s).2.1=s:=λ_=>rfl;have r:(tN name).2.1=name:=rfl;have m:=Oh q;unfold cp at d;rw[pcS];refine C1 (jA _ _) ?_;rw[m];simp only[B7]at c;split
   .rename_i k;rw[l7 k]at d
    simp only[l4]at d;have:=P d.1;simp only[ak,aJ,r,hs,j4,j7,j6,bO,show aj []=[]from rfl];omega
   rename_i u;rw[j8 u]at d;split
   .rename_i k;rw[l7 k]at d
    simp only[l4,s7]at d;have:=P d.1
    match e,d.2.1 with
    |[a,b],_=>
      have U:=KQ (l:=[a]) (q:=q+1) (by simp only[qm]at i|-;exact⟨i.1.1,trivial⟩) (by simp only[aU,l4]at f|-;exact⟨f.1,trivial⟩);have Y:=KQ (l:=[b]) (q:=q+1) (by simp only[qm]at i|-;exact i.1.2) (cQ f).2;have v:=jA [32] (pcJ [b]);simp only[aH,B7]at U Y v;simp only[C5,F6,D2,B1,ak,aJ,r,hs,j4,j7,j6,bO,show aj []=[]from rfl,aH];omega
   rename_i w;rw[j8 w]at d;split
   .simp only[ak,aJ,hs,g,j4,j7,j6,bO,cP,bt,show aj []=[]from rfl]
    omega
   rename_i x;rw[j8 x]at d;split
   .rename_i k
    rw[j8 a6,j8 a6,l7 k]at d;simp only[l4]at d;have:=P d.1;simp only[ak,aJ,r,hs,j4,j7,j6,bO,cP,bt,show aj []=[]from rfl];omega
   split
   .simp only[ak,aJ,hs,g,j4,j7,j6,bO,show aj []=[]from rfl]
    omega
   .have E:z (if kind=5 then [119,104,105,108,101]else [105,102]:Str)<=5:=by split<;>decide
    cases el with
    |nil=>
      simp only[List.isEmpty_nil,↓reduceIte,ak,aJ,hs,g,j4,j7,j6,cP,bt,show aj []=[]from rfl]at m|-;omega
    |cons b l=>
      simp only[R5,A3,↓reduceIte,ak,aJ,hs,g,j4,j7,j6,cP,bt,show aj []=[]from rfl]at m|-;omega
def ym:∀l:List Str,l.all aN=T->z (aj (l.flatMap λx=>[([],tS ck),([32],tN x)]))<=22*z l
 |[],_=>by simp[aj]
 |a::l,h=>by
   simp only[C4,l4]at h;have U:=ym l h.2;have Y:=kc h.1;rw[A1,aJ,j4,ak,ak];simp only[j4,j7,j6,show (tS ck).2.1=[44]from rfl,show (tN a).2.1=a from rfl,show aj []=[]from rfl]at U|-;omega
variable{l:List Str}
def Pu(h:l.all aN=T):z (aj (pcN l))<=22*z l:=by
 cases l with
 |nil=>simp[pcN,aj]
 |cons a l=>
   simp only[C4,l4]at h;have U:=ym l h.2;have Y:=kc h.1;unfold pcN;rw[ak];simp only[j4,j7,j6,show (tN a).2.1=a from rfl];omega
def Pv{s:Str}(a:z s<=3)(h:l.all aN=T):z (aj (if l=[]then []else(s,tW [118,97,114])::(setl [32] (pcN l)++[([],tS bO)])))<=30*z l:=by
 split
 .rename_i e;subst e;simp[aj]
 .rename_i e
  have U:=Pu h;have Y:=jA [32] (pcN l);have:=H7.2 e;simp only[ak,aJ,j4,j7,j6,show (tS bO).2.1=[59]from rfl,show (tW [118,97,114]).2.1=[118,97,114]from rfl,show aj []=[]from rfl]at Y|-;omega
def VC{f:Fn}(V:cI f=T)(b:oX f.body):z (aj (pcF f))<=200*(1+z f.params+z f.locals+aE f.body):=by
 obtain⟨name,params,locals,word,body⟩:=f;unfold cI at V;simp only[l4,s7]at V;obtain⟨⟨P,_⟩,⟨c,hl⟩,d⟩:=V;have U:=kc P;have Y:=Pu c;have e:=Pv (s:=10::ind 1) a7 hl;have i:=zI 1 body λs a=>VB _ s 1 (l0 _) (fZ b a) (dr d a);unfold pcF;simp only[ak,aJ,j4];have g:z (aj (if word then [([32],tW [119,111,114,100])]else []))<=5:=by cases word<;>decide
 simp only[j7,j6,show ∀s,(tS s).2.1=s from λ_=>rfl,show ∀s,(tW s).2.1=s from λ_=>rfl,show (tN name).2.1=name from rfl,show aj []=[]from rfl,cP,bt]at e g|-;omega
def mr{c:Type}{b1:c->List Pc}{w:c->Nat}:∀l:List c,(∀a∈l,z (aj (b1 a))<=w a)->z (aj (l.flatMap b1))<=(l.map w).sum
 |[],_=>by simp[aj]
 |a::l,h=>by
   have U:=h a a8;have Y:=mr l λb hb=>h b Xg;rw[A1,aJ,j4,l9,D6];omega
def VD{p:Prog}(V:cD p=T)(d:xe p):z (aj (pcP p))<=200*(z p.vars+z p.arrays+z p.funcs+(p.funcs.map λf=>z f.params+z f.locals+aE f.body).sum):=by
 unfold cD at V;simp only[l4,s7,x7]at V;obtain⟨⟨_,e⟩,g,bk⟩:=V;have U:=Pv (s:=[10]) a7 (x7.2 e)
 have Y:=mr (b1:=pcA) (w:=λ_=>200) p.arrays λa i=>by
  have:=g a i;unfold fb at this;simp only[l4,s7]at this;have n:=kc this.1.1;have b:=lf 9 a.2.toNat a6;unfold pcA;simp only[ak,j4,j7,j6,show ∀s,(tS s).2.1=s from λ_=>rfl,show ∀s,(tW s).2.1=s from λ_=>rfl,show (tN a.1).2.1=a.1 from rfl,show aj []=[]from rfl,bO];omega
 have j:=mr (b1:=pcF) (w:=λf=>200*(1+z f.params+z f.locals+aE f.body)) p.funcs λf c=>VC (bk f c) (d f c);have b:(p.arrays.map λ_=>200).sum=200*z p.arrays:=by rw[List.map_const'];simp[SJ]
 have k:∀l:List Fn,(l.map λf=>200*(1+z f.params+z f.locals+aE f.body)).sum=200*(z l+(l.map λf=>z f.params+z f.locals+aE f.body).sum):=by
  intro l
  induction l with
  |nil=>rfl
  |cons a l m=>simp only[l9,D6,j6,m];omega
 unfold pcP;refine C1 (jA _ _) ?_;rw[aJ,aJ];simp only[j4,j7];rw[b]at Y;rw[k]at j;omega
def qZ:List TK:=[tS [125],tS [59],(2,[55],7),tN [120],tW [112,117,116],tS [40],tW [118,97,114],tW [101,108,115,101],tS [61],tS [38,38]]
def Eb{k:TK}(h:k∈qZ):qu k []/\(if k.1=3\/k.1=4 then k.2.1 else [])≠sj/\z k.2.1<=4:=by
 unfold qZ at h;simp only[y9,A4,E7]at h;rcases h with rfl|rfl|rfl|rfl|rfl|rfl|rfl|rfl|rfl|rfl<;>exact⟨⟨c9,_,_,rfl,a7,a7,a7,λx=>absurd x.1 a7⟩,a7,a7⟩
def Hb{p:Prog}(V:cD p=T)(a:xe p){k:TK}(h:k∈qZ)(hl:z (aj (pcP p))<=19000):Ky (aj (pcP p)++([10,32]++k.2.1))=(.err 3,z (aj (pcP p))+2):=by
 obtain⟨c,d,b1⟩:=Eb h;obtain⟨G,e,f,j,b⟩:=KO V a c (by simp only[j4,j6,j7];omega)
 have g:az G (z (pcP p))≠sj:=by
  unfold az;rw[b];exact d
 have i:=RN V a a6 g f;unfold Ky;rw[e];simp only;rw[j8 a8,i];simp only;unfold lS;rw[b]
end
end
section
open Go.Asm (Str gg)
section
def ln(l:List Pc):Str:=(aj l).drop 1++[10]
def Nl(l:List Pc):Prop:=∃s k m,l=(10::s,k)::m
variable{s:Str}{l:List Pc}
def Pw(h:Nl l):10::ln l=aj l++[10]:=by
 obtain⟨s,k,m,rfl⟩:=h;rfl
def prS(q:Nat)(s:Stm):Str:=ln (pcS q s)
def ss(q:Nat)(l:List Stm):Str:=l.flatMap (prS q)
def XL(q:Nat)(s:Stm):Nl (pcS q s):=by
 obtain⟨k,l,e⟩:=KL q s;exact⟨_,k,l,e⟩
def FA(q:Nat):∀l:List Stm,10::ss q l=aj (gL q l)++[10]
 |[]=>by simp[ss,gL,aj]
 |s::l=>by
   have a:=FA q l;have h:=Pw (XL q s);unfold ss at a|-;rw[A1,gL,aJ,l6,<-a,<-u7];unfold prS;rw[h];simp
def FB(q:Nat)(l:List Stm)(r:Str):aj (gL q l)++10::r=10::(ss q l++r):=by
 rw[show aj (gL q l)++10::r=(aj (gL q l)++[10])++r by simp,<-FA];rfl
def nJ{x:Pc}(h:x.1=[]):aj (setl s (x::l))=s++aj (x::l):=by
 rw[setl,ak,ak,h];simp
def qb(e:Ex):∃k l,pcE e=([],k)::l:=by
 obtain⟨kind,op,num,name,kids⟩:=e;unfold pcE
 repeat' split
 all_goals exact⟨_,_,rfl⟩
def yn(s:Str)(e:Ex):aj (setl s (pcE e))=s++aj (pcE e):=by
 obtain⟨k,l,h⟩:=qb e;rw[h];exact nJ rfl
def KR(a:Ex)(l:List Ex):aj (pcJ (a::l))=aj (pcE a)++l.flatMap λe=>[44,32]++aj (pcE e):=by
 have j:∀l:List Ex,aj (pcM (tS ck) [] l)=l.flatMap λe=>[44,32]++aj (pcE e):=by
  intro l
  induction l with
  |nil=>rfl
  |cons b l c=>rw[pcM,ak,aJ,yn,c,A1];simp[tS,ck]
 unfold pcJ;rw[pcM,D2,B1];obtain⟨k,m,h⟩:=qb a;rw[h,setl,u7,setl,<-u7,aJ,j]
def tG{l:List Ex}(h:l≠[]):aj (setl s (pcJ l))=s++aj (pcJ l):=by
 cases l with
 |nil=>exact absurd rfl h
 |cons a l=>
   unfold pcJ;rw[pcM,D2,B1];obtain⟨k,m,h⟩:=qb a;rw[h,setl,u7,setl];exact nJ rfl
section
variable{op num:Int}{name:Str}{kids:List Ex}
def fl1:aj (pcE (.mk 1 op num name kids))=gg num.toNat:=by simp[pcE,aj]
def fl2:aj (pcE (.mk 2 op num name kids))=name:=by simp[pcE,aj,tN]
def fl3:aj (pcE (.mk 3 op num name kids))=name++[91]++aj (pcJ kids)++[93]:=by
 rw[pcE,j8 a7,j8 a7,l7 rfl,ak,ak,aJ,show setl [] ((pcM (tS ck) [] kids).drop 1)=pcJ kids from rfl];simp[aj,tN,tS]
def fl4:aj (pcE (.mk 4 op num name kids))=name++[40]++aj (pcJ kids)++[41]:=by
 rw[pcE,j8 a7,j8 a7,j8 a7,l7 rfl,ak,ak,aJ,show setl [] ((pcM (tS ck) [] kids).drop 1)=pcJ kids from rfl];simp[aj,tN,tS,cP,bt]
def fl5:aj (pcE (.mk 5 op num name kids))=[103,101,116,40,41]:=by simp[pcE,aj,tW,tS,cP,bt]
def fl7:aj (pcE (.mk 7 op num name kids))=[33]++aj (pcJ kids):=by
 rw[pcE,j8 a7,j8 a7,j8 a7,j8 a7,j8 a7,l7 rfl,ak,show setl [] ((pcM (tS ck) [] kids).drop 1)=pcJ kids from rfl];simp[tS]
def flO{kind:Int}{a b:Ex}(c:kind=6\/kind=8\/kind=9):aj (pcE (.mk kind op num name [a,b]))=[40]++aj (pcE a)++([32]++jk kind op++[32])++aj (pcE b)++[41]:=by
 rw[pcE,j8 a6,j8 a6,j8 a6,j8 a6,j8 a6,j8 a6,ak,aJ,pcM,pcM,pcM,D2,B1];obtain⟨k,m,h⟩:=qb a;rw[h,setl,u7,setl,<-u7,aJ,ak ([32],_),aJ,yn];simp[aj,tS,cP,bt]
def VE(a:Ex):aj (pcJ [a])=aj (pcE a):=by rw[KR];simp
end
section
variable{q:Nat}{name:Str}{e:List Ex}{c el:List Stm}
def tH{x:Pc}(h:x.1=[]):ln (setl (10::s) (x::l))=s++aj (x::l)++[10]:=by
 unfold ln;rw[nJ h];rfl
def st1(h:e≠[]):prS q (.mk 1 name e c el)=ind q++(name++[32,61,32])++aj (pcJ e)++[59]++[10]:=by
 unfold prS;rw[pcS,l7 rfl,tH rfl,ak,ak,aJ,tG h];simp[aj,tN,tS,bO]
def st2{a b:Ex}:prS q (.mk 2 name [a,b] c el)=ind q++(name++[91])++aj (pcJ [a])++[93,32,61,32]++aj (pcJ [b])++[59]++[10]:=by
 unfold prS;rw[pcS,j8 a7,l7 rfl,tH rfl,C5,F6,D2,B1,ak,ak,aJ,ak,ak,aJ,tG a8];simp[aj,tN,tS,bO]
def st3:prS q (.mk 3 name e c el)=ind q++[112,117,116,40]++aj (pcJ e)++[41,59]++[10]:=by
 unfold prS;rw[pcS,j8 a7,j8 a7,l7 rfl,tH rfl,ak,ak,aJ];simp[aj,tW,tS,bO,cP,bt]
def st6:prS q (.mk 6 name e c el)=ind q++(name++[40])++aj (pcJ e)++[41,59]++[10]:=by
 unfold prS;rw[pcS,j8 a7,j8 a7,j8 a7,l7 rfl,tH rfl,ak,ak,aJ];simp[aj,tN,tS,bO,cP,bt]
def st7:prS q (.mk 7 name e c el)=ind q++[114,101,116,117,114,110]++(if e=[]then []else [32]++aj (pcJ e))++[59]++[10]:=by
 unfold prS;rw[pcS,j8 a7,j8 a7,j8 a7,j8 a7,l7 rfl,tH rfl,ak,aJ];split
 .rename_i h;subst h;simp[aj,tW,tS,bO,pcJ,pcM,setl]
 .rename_i h;rw[tG h];simp[aj,tW,tS,bO]
def st45{kind:Int}(d:kind=4\/kind=5):prS q (.mk kind name e c el)=ind q++((if kind=5 then [119,104,105,108,101,32,40]else [105,102,32,40]):Str)++aj (pcJ e)++[41,32,123]++[10]++ss (q+1) c ++
  (if el=[]then []else ind q++[125,32,101,108,115,101,32,123]++[10]++ss (q+1) el)++(ind q++[125]++[10]):=by
 unfold prS;rw[pcS,j8 a6,j8 a6,j8 a6,j8 a6,j8 a6,tH rfl,ak,ak,aJ,ak,ak,aJ,aJ];have a:(if kind=5 then [119,104,105,108,101,32,40]else [105,102,32,40]:Str)=(if kind=5 then [119,104,105,108,101]else [105,102])++[32,40]:=by split<;>rfl
 rw[a];cases el with
 |nil=>
   simp only[tS,tW,cP,bt,List.isEmpty_nil,↓reduceIte,ak,show aj []=[]from rfl,s5,x9,l6,u7,FB]
 |cons b l=>
   simp only[tS,tW,cP,bt,R5,A3,reduceCtorEq,↓reduceIte,ak,show aj []=[]from rfl,s5,x9,l6,u7,FB]
end
def ig:List Str->Str
 |[]=>[]
 |a::l=>a++l.flatMap λx=>[44,32]++x
def Ec(l:List Str):aj (pcN l)=ig l:=by
 have j:∀l:List Str,aj (l.flatMap λx=>[([],tS ck),([32],tN x)])=l.flatMap λx=>[44,32]++x:=by
  intro l
  induction l with
  |nil=>rfl
  |cons b l c=>rw[A1,aJ,c,A1];simp[aj,tS,tN,ck]
 cases l with
 |nil=>rfl
 |cons a l=>unfold pcN ig;rw[ak,j];simp[tN]
def yo{l:List Str}(h:l≠[]):aj (setl s (pcN l))=s++ig l:=by
 rw[<-Ec];cases l with
 |nil=>exact absurd rfl h
 |cons a l=>exact nJ rfl
def rf(s:Str)(l:List Str):Str:=if l=[]then []else s++([118,97,114,32]++ig l++[59])++[10]
def oe(a:Str×Int):Str:=([97,114,114,97,121,32]++a.1++[91]++gg a.2.toNat++[93,59])++[10]
def prF(f:Fn):Str:=(([102,117,110,99,32]++f.name++[40]++ig f.params++[41])++(if f.word then [32,119,111,114,100]else [])++[32,123])++[10]++rf (ind 1) f.locals++ss 1 f.body++([125]++[10])
def kD(p:Prog):Str:=rf [] p.vars++p.arrays.flatMap oe++p.funcs.flatMap prF
def XM(f:Fn):ln (pcF f)=prF f:=by
 obtain⟨name,params,locals,word,body⟩:=f;unfold ln pcF prF rf;by_cases hl:locals=[]
 .cases word<;>
  simp only[hl,tS,tW,tN,cP,bt,bO,↓reduceIte,A3,ak,aJ,Ec,show aj []=[]from rfl,s5,x9,l6,u7,FB,D2,B1]
 .cases word<;>
  simp only[hl,tS,tW,tN,cP,bt,bO,↓reduceIte,A3,ak,aJ,Ec,yo hl,show aj []=[]from rfl,s5,x9,l6,u7,FB,D2,B1]
def XN(f:Fn):Nl (pcF f):=⟨_,_,_,rfl⟩
def XO(a:Str×Int):Nl (pcA a):=⟨_,_,_,rfl⟩
def XP(a:Str×Int):ln (pcA a)=oe a:=by
 unfold ln pcA oe;simp only[tS,tW,tN,bO,ak,show aj []=[]from rfl,s5,x9,l6,u7,D2,B1]
def rh{b:Type}{b1:b->List Pc}(c:∀a,Nl (b1 a)):∀(l:List b)(r:Str),aj (l.flatMap b1)++10::r=10::((l.flatMap λa=>ln (b1 a))++r)
 |[],r=>rfl
 |a::l,r=>by
   have h:=Pw (c a);rw[A1,A1,aJ,l6,rh c l r,l6]
   calc aj (b1 a)++(10::((l.flatMap λa=>ln (b1 a))++r))=(aj (b1 a)++[10])++((l.flatMap λa=>ln (b1 a))++r):=a8
    _=_:=by rw[<-h];rfl
def Ed{p:Prog}(h:p.funcs≠[]):kD p=aj (pcP p)++[10]:=by
 have e:aj ((if p.vars=[]then []else([10],tW [118,97,114])::(setl [32] (pcN p.vars)++[([],tS bO)]))++(p.arrays.flatMap pcA++p.funcs.flatMap pcF))++[10]=10::kD p:=by
  have j:(λa=>ln (pcA a))=oe:=funext XP;have k:(λf=>ln (pcF f))=prF:=funext XM;rw[aJ,aJ,l6,l6,rh XN,rh XO,j,k];unfold kD rf;split
  .simp[aj]
  .rename_i c
   simp only[tS,tW,bO,ak,aJ,yo c,show aj []=[]from rfl,s5,x9,l6,u7]
 have bl:((if p.vars=[]then []else([10],tW [118,97,114])::(setl [32] (pcN p.vars)++[([],tS bO)]))++(p.arrays.flatMap pcA++p.funcs.flatMap pcF))≠[]:=λg=>by
  rw[g]at e;have e:=congrArg z e
  obtain⟨f,fs,m⟩:∃f fs,p.funcs=f::fs:=by
   cases d:p.funcs with
   |nil=>exact absurd d h
   |cons f fs=>exact⟨f,fs,rfl⟩
  have U:=(K8.1 (K8.1 g).2).2;rw[m,A1]at U;exact absurd (K8.1 U).1 (List.cons_ne_nil _ _)
 unfold pcP;obtain⟨x,l,hl⟩:=List.exists_cons_of_ne_nil bl;rw[hl]at e|-
 have I:x.1=[10]:=by
  have Y:x∈(((if p.vars=[]then []else([10],tW [118,97,114])::(setl [32] (pcN p.vars)++[([],tS bO)]))++(p.arrays.flatMap pcA++p.funcs.flatMap pcF)).head?):=by rw[hl];rfl
  by_cases c:p.vars=[]
  .rw[l7 c,x9]at hl
   cases i:p.arrays with
   |nil=>
     rw[i,H5,x9]at hl;cases d:p.funcs with
     |nil=>exact absurd d h
     |cons f fs=>rw[d,A1]at hl;cases hl;rfl
   |cons a b=>rw[i,A1]at hl;cases hl;rfl
  .rw[j8 c]at hl;cases hl;rfl
 rw[ak,I]at e;rw[setl,ak];exact((List.cons.inj e).2).symm
end
end
section
open Go.Asm (Str)
def Hc{p:Prog}(V:cD p=T)(a:xe p)(h:z p.vars+z p.arrays+z p.funcs+(p.funcs.map λf=>z f.params+z f.locals+aE f.body).sum<=90):z (aj (pcP p))<=18000:=by
 have:=VD V a;omega
def refuse{p:Prog}(V:cD p=T)(a:xe p)(h:z p.vars+z p.arrays+z p.funcs+(p.funcs.map λf=>z f.params+z f.locals+aE f.body).sum<=90){k:TK}(b:k∈qZ):
  Ky (kD p++([32]++k.2.1))=(.err 3,z (kD p)+1)/\z (kD p)<=18001:=by
 have bl:p.funcs≠[]:=λe=>by
  unfold cD at V;rw[e]at V;simp at V
 have hl:=Hc V a h;have U:=Hb V a b a6;rw[Ed bl];simp only[l6,j4,B7];exact⟨U,a6⟩
end
end Go.Src
namespace Go.Proofs.YtednjibjomfhfaaGreatDoor.Low
section
open Go Go.Am Go.Asm Go.Mach
open Go.Src (cW aE xe Jv)
attribute[local congr]ite_cc
section
variable{p:Src.Prog}{src:Asm.Str}
def GQ(h:cW p=0):∀a∈p.arrays,0<=a.2/\a.2<=4096:=λa c=>by
 have b:=(Src.BK h).1;unfold Src.cD at b;simp only[l4,x7]at b;have:=b.2.1 a c;unfold Src.fb at this;simp at this;omega
def NU:∀l:List (Str×Int),(∀a∈l,0<=a.2/\a.2<=4096)->(l.map (·.2)).sum<=4096*(z l:Int):=by
 intro l
 induction l with
 |nil=>intro _;simp
 |cons a l b=>
   intro h;have:=b λx I=>h x Xs;have:=h a a8;simp only[l9,D6,j6];omega
def Vr(bc:szP p<=150):Sm p:=by
 rw[po]at bc;refine⟨a6,a6,a6,λf a=>?_⟩;have:=kK a;rw[po]at this;exact⟨⟨a6,a6⟩,a6⟩
def NV{o:cg}(p:Src.Prog)(I:Src.InP p)(m:Nat)(hm:m<=150):bP Tryz.prog 4 o 5 [cn p,iv .i64 (m:Nat)] (λr=>∃b,r=bv b/\(b=T->cW p=0/\szP p<=m/\Jv p=T)):=by
 refine hdG Tryz.func5 rfl [.tmp 4] λO bo s0 w0 g=>?_;have Z:=Vf p I m a6;have E:∀f∈p.funcs,Src.qM f.body:=λf hf=>(I.fs f hf).2.2;have j:=λh=>Ns (o:=o) p h E;have q:=λU Y h3=>Nt p U Y h3;have v:=I.a;rw[dn]at Z j q|-;simp only[go_sem];refine dF (λk K=>∃c:Int,K.f 2=.one (.ptr 2 (K.gen 2) 0)/\K.obj 2=S [.d (.sl (p.vars.map λs=>[.str s])),.d (.sl (p.arrays.map arD)),.d (.sl (p.funcs.map fnD))]/\K.f 1=iv .i64 (m:Nat)/\K.f 5=iv .i64 c/\K.f 6=iv .i64 k) (z p.arrays) ⟨0,?_⟩ ?_
 .exact hG
 rintro k f g1 ad hk ⟨c,t,u,x,y,G⟩;simp only at t u x y G;have hw:=ab (k:=k) a6;by_cases af:k<z p.arrays
 .have H:(k:Int)<(z p.arrays:Int):=a6
  obtain⟨a,A⟩:=getq af;have W:=getD_at (f:=arD) A;have bk:arD a=[.str a.1,.int .i64 a.2]:=rfl;rw[bk]at W;by_cases hn:200<a.2
  .simp only[go_sem,t,u,G,H,j5,W,hn]
   exact⟨F,rfl,a8⟩
  .simp only[go_sem,t,u,y,G,H,j5,W,hn,hw]
   refine bM af ⟨IntKind.i64.wrap (c+a.2),?_⟩;simp only[go_sem,t,u,x]
 have H:¬(k:Int)<(z p.arrays:Int):=a6;simp only[go_sem,t,u,x,G,H,j5];refine jR aG rfl (by simp only[go_sem,t,u,x];exact Z) (by simp only[go_sem,t,u,x];rfl) ?_;rintro _ rfl;cases l:Src.Ve p m
 .simp only[go_sem,y]
  exact⟨F,rfl,a8⟩
 have bc:szP p<=m:=by have:=Src.Wu (i:=m) l;rw[po];omega
 by_cases hc:c<=200
 case neg=>
  simp only[go_sem,y,hc];exact⟨F,rfl,a8⟩
 simp only[go_sem,t,u,y,hc];refine jS aG (λs β ds w h=>h.1.2) rfl (by simp only[go_sem,t,u];exact j (Vr a6)) (by simp only[go_sem,t,u];rfl) ?_;rintro _ rfl;by_cases A:cW p=0
 case neg=>
  have e:¬(cW p:Int)=0:=a6;simp only[go_sem,e];exact⟨F,rfl,a8⟩
 have B:=GQ A;have n:=NU p.arrays B;have dk:z p.arrays<=150:=by rw[po]at bc;omega
 have q:=q a6 (λa ha=>(B a ha).1) a6;simp only[go_sem,t,u,A];refine jR aG rfl (by simp only[go_sem,t,u];exact q) (by simp only[go_sem,t,u];rfl) ?_;rintro _ rfl;simp only[go_sem];exact⟨_,rfl,λh=>⟨A,bc,h⟩⟩
def BJ{k:Nat}(h:Src.Ky src=(.err 3,k)):lE src=([],k,3):=by
 unfold lE jW;rw[h];simp
def GR{k:Nat}(h:Src.Ky src=(.err 3,k)):szP (jW src).1<=2000:=by
 unfold jW;rw[h];show szP Dh<=2000
 decide
end
end
end Go.Proofs.YtednjibjomfhfaaGreatDoor.Low
namespace Go.Am
section
section
section
variable{P:Program}{G:Nat->TI}{O:Bs}{β:Loc}{w:World}
def St.claimC(s:St)(c o b j sz:Nat)(cells:List C):St:=⟨s.f,upd s.gen b (nxC c (s.gen b)),upd (upd s.obj o (S (cells.set j (.osl b (nxC c (s.gen b)) sz 0 0)))) b (S [])⟩
def xC{s:St}{t c o b j sz:Nat}{cells:List C}(ht:(∃off,s.f t=.one (.ptr o (s.gen o) off))\/∃sz off len,s.f t=.one (.osl o (s.gen o) sz off len))(ho:s.obj o=S cells)(Z:cells[j]?=S (.d .nsl))(Q:o≠b):ae s (s.claimC c o b j sz cells):=by
 intro O av β a w V
 let E:Loc:=λi=>if i=b then N else β i
 have n:∀i,i≠b->((s.claimC c o b j sz cells).obj i).isSome=T->(s.obj i).isSome=T:=λi p hi=>by
  simp only[St.claimC,upd,j8 p]at hi;by_cases A:i=o
  .subst A;rw[ho];rfl
  .rwa [j8 A]at hi
 have m:ft O β s.gen s.obj w E (s.claimC c o b j sz cells).gen (s.claimC c o b j sz cells).obj w:=by
  refine⟨λx I=>⟨⟨I.1,I.2.1,λi W hi H=>?_⟩,rfl⟩,λi=>?_,λi hg hi=>?_⟩
  .exact U8
  .simp only[St.claimC,upd];split
   .rename_i e;subst e;exact P7 (uZ _ _)
   .exact l0 _
  .by_cases p:i=b
   .subst p;simp[St.claimC,upd]at hg;exact absurd hg (yq _ _)
   .exact⟨n i p hi,by simp[E,p],λW _ arr el fr h=>⟨arr,el,fr,h,l0 _⟩⟩
 have g:∀ad,β o=S ad->ad.spot=N:=λad H=>by
  exact sb
 refine⟨E,⟨V.defers,V.size,λi=>ag.keep m _ (V.f i),λi l r=>?_,λi1 u a1 a2 q J b1 b2 hb=>?_,V.base⟩,l0 _,λ_ _=>rfl,m,rfl,rfl⟩
 .by_cases p:i=b
  .subst p
   simp only[St.claimC,upd,B5,w9]at r;subst r;simp only[E,B5];rfl
  .by_cases A:i=o
   .subst A
    simp only[St.claimC,upd,j8 p,B5,w9]at r;subst r;have K:=V.obj i cells ho;have B:E i=β i:=by simp[E,Q]
    rw[B];cases H:β i with
    |none=>rw[H]at K;have:cells=[]:=K;subst this;simp at Z
    |some ad=>
      rw[H]at K;obtain⟨g1,arr,el,lo,hi,g2,g3,g4,g5⟩:=K.cells (g ad H);refine .ofCells (g ad H) ⟨g1,arr,el,lo,hi,g2,by simpa[St.claimC,upd,p]using g3,by simpa using g4,λk c1 L=>?_⟩;by_cases y:k=j
      .subst y
       have af:=(l8.1 Z).1;rw[SH af]at L;cases L;obtain⟨v,hv,X⟩:=g5 k _ Z;simp only[aD]at X;obtain rfl:=X.inv_nsl;refine⟨_,hv,rfl,by simp[St.claimC,upd],λ_ _=>?_⟩;simp only[E,B5];exact⟨rfl,rfl⟩
      .rw[M9 (A9 y)]at L
       obtain⟨v,hv,X⟩:=g5 k c1 L;exact⟨v,hv,X.keep m⟩
   .simp only[St.claimC,upd,j8 p,j8 A]at r
    have:=(V.obj i l r).keep m (λ_ _=>rfl);simpa[E,p,St.claimC,upd]using this
 .exact K3
end
end
end
end Go.Am
namespace Go.Proofs.YtednjibjomfhfaaGreatDoor
section
open Go Go.Am Go.Asm Go.RowKit
attribute[local congr]ite_cc
section
def FD:Tryz.prog.cellsOf 53=2:=c8
def VG:Tryz.prog.underlying 53=S (.struct #[⟨ "text",51,0,F,"","seedcorn/syntax",0⟩]):=c8
def RW{n:Nat}(a:2<=n):liesAt Tryz.prog Tryz.prog.depth 53 (n/Tryz.prog.cellsOf 53) 0 51 1=T:=by
 rw[FD];have hd:Tryz.prog.depth=(2*(Tryz.prog.types.size+Made.depth))+1+1:=rfl;have U:1<=n/2:=a6;rw[hd];simp only[liesAt,F3];left;rw[hd];simp[rowAt,FD,NI,VG,U,sameLayout];exact .inr a
def tL(b n:Nat)(w:World)(l:w.cell? ⟨b,0,N⟩=S (.pointer N))(m:w.shape? b=S (53,n))(k:2<=n)(o:w.frozen? ⟨b,0,N⟩=F):
  Calls Tryz.prog 66 #[.pointer (S ⟨b,0,N⟩)] w λe w'=>e=.returned (.tuple #[])/\w'=w.setCell ⟨b,0,N⟩ (.pointer (S ⟨b,0,N⟩)):=by
 obtain⟨j,i,r⟩:=JK;obtain⟨h,f,d⟩:=Rj;have a:=run_underlying Bz;have c:=run_underlying Po;have u4:=run_underlying Vj;have g:=run_underlying JJ
 go_enter Tryz.func66,Tryz.ntmps66
 go_wp2
 rw[Lib.run_to_unsafe w ⟨b,0,N⟩ Bz JJ i (by rw[r];decide) m (by show 0<n;omega)];simp only[Result.andThen];rw[Oper.upon_value]
 go_wp2
 rw[run_callFunc_extern Tryz.func109 c8 c8 c8 (e:=Extern.AbiNoEscape.same) c8];rw[Lib.run_noEscape];simp only[Result.andThen];rw[Oper.upon_value]
 go_wp2
 rw[Lib.run_from_unsafe w ⟨b,0,N⟩ JJ Bz i m (RW k)];simp only[Result.andThen];rw[Oper.upon_value]
 go_wp2
 go_end0
 exact⟨rfl,rfl⟩
variable{g:Nat->Nat}
def zK{b X:Nat}{ob:Obs}{a buf:C}(hg:g b=X)(hc:code X=54)(ho:ob b=S [a,buf])(ha:a=.d .nilp\/a=.ptr b X 0):
  jl Tryz.prog 66 [.one (.ptr b X 0)] g ob (λr g' Z=>r=uv/\g'=g/\Z=upd ob b (S [.ptr b X 0,buf])):=by
 refine⟨Rk,λO av x l K w vs V p=>?_⟩;simp only[aO]at p;obtain⟨u,us,rfl,y,rfl⟩:=p;have f:=y;simp only[ag,aD]at y;obtain⟨n,H,b2,rfl⟩:=y.2.2 hg Yp;have Q:=V.obj b _ ho;rw[H]at Q;obtain⟨hB,arr,el,lo,hi,q,⟨L,E⟩,W,bo⟩:=Q.cells b2;simp only at E;rw[hg,hc]at E;obtain⟨G,c⟩:=E a6;have G:el=53:=Nat.add_right_cancel (m:=1) G;subst G;simp only[j6,j7]at W;rw[c]at W;simp only[I3,c];have k:ag O x g ob w uv (.tuple #[]):=cL;obtain⟨I,cz,s⟩:=bo 0 a rfl;rw[c]at cz;have bd:w.cell? ⟨n.block,0,N⟩=S I:=by rw[eJ q];exact cz
 rcases ha with rfl|rfl
 ·-- it h j address
  have p:I=.pointer N:=by simp only[aD]at s;cases s;rfl
  subst p
  have b7:qx (Tt 48) ⟨K,g,ob⟩ (.one (.ptr b X 0)) (.one (.ptr b X 0)) (bx λs'=>s'=⟨K,g,upd ob b (S [.ptr b X 0,buf])⟩):=by
   simp only[go_sem,hg,ho]
  obtain⟨s',J,rfl,U,Y,h3⟩:=rz aR V b7 f f;have bz:=nO (P:=Tryz.prog) (w:=w) (t:=48) (A:=Tt 48) TT (b:=n.block) (o:=0) (v:=.pointer (S ⟨n.block,0,N⟩)) (vs:=[.pointer (S ⟨n.block,0,N⟩)]) rfl rfl (by simp[Value.oneCell']) q L (by simp only[j6,j7];omega);simp only[I3,c]at U;rw[U]at bz;have b0:J=w.setCells n.block 0 [.pointer (S ⟨n.block,0,N⟩)]:=by injection bz
  refine(tL n.block arr.size w bd (by simp[World.shape?,q]) a6 (pN q L a6)).mono λe w2⟨q1,q2⟩=>?_;have ch:w2=J:=by rw[q2,b0];rfl
  subst ch;exact⟨_,uv,g,_,x,q1,⟨rfl,rfl,rfl⟩,cL,Y.obj,Y.inj,h3⟩
 .have p:I=.pointer (S ⟨n.block,0,N⟩):=by
   simp only[aD]at s;obtain⟨c',B,_,e⟩:=s.2.2 hg Yp;rw[H]at B;cases B;rw[e,c]
  subst p;refine(wk n.block w bd).mono λe J⟨U,Y⟩=>?_;subst Y;have he:upd ob b (S [.ptr b X 0,buf])=ob:=by funext i;simp only[upd];split<;>simp_all
  exact⟨_,uv,g,ob,x,U,⟨rfl,rfl,he.symm⟩,k,V.obj,V.inj,Tr.refl⟩
structure Tap (G f P:Nat) (W:Str) (g:Nat->Nat) (ob:Obs):Prop where
 gen:g G=P
 code:code P=54
 obj:∃a,(a=.d .nilp\/a=.ptr G P 0)/\ob G=some [a,.osl f (g f) 1 0 W.length]
 bc:Am.code (g f)=6
 buf:ob f=some (W.map Vk)
 ne:G≠f
def Ct{G f P:Nat}{W:Str}{ob:Obs}(t:Str)(h:Tap G f P W g ob)(hl:z W<=1000000000)(b6:z t<=1000000000):
  jl Tryz.prog 39 [.one (.ptr G P 0),sv t] g ob (λr g' Z=>r=.tup [iv .i64 (z t),.one (.d .nili)]/\Tap G f P (W++t) g' Z/\∀i,i≠G->i≠f->g' i=g i/\Z i=ob i):=by
 refine hdF 0 Tryz.func39 rfl [4,5] ?_;obtain⟨b,j,⟨a,k,ho⟩,l,m,bl⟩:=h;have I:¬f=G:=λe=>bl e.symm;simp only[go_sem];refine ct rfl (by simp only[go_sem];exact zK b j ho k) ?_;rintro _ g' Z ⟨rfl,rfl,rfl⟩;simp only[go_sem,b,ho,bl,I,aZ,m];refine⟨l0 _,⟨a7,a6⟩,_,ae.refl _,by simp only[lM,upd];rfl,⟨?_,j,⟨_,.inr rfl,?_⟩,?_,?_,bl⟩,λi U Y=>?_⟩
 .simp[upd,bl,b]
 .simp[upd]
 .simp[upd,lh,apC,l]
 .rw[s6 a8]
  simp[upd,I];intros;rfl
 .simp[upd,U,Y]
end
end
section
open Go Go.Am Go.Asm Go.RowKit
open Go.Src (ind)
attribute[local congr]ite_cc
section
variable{B:Nat}
def tl5(hB:200<=B)(k:Nat):(125=B+k)=False:=by simp;omega
def th5(hB:200<=B)(k:Nat):(B+k=125)=False:=by simp;omega
def tl1(hB:200<=B)(k:Nat):(121=B+k)=False:=by simp;omega
def th1(hB:200<=B)(k:Nat):(B+k=121)=False:=by simp;omega
abbrev Tp(P:Nat)(W:Str)(g:Nat->Nat)(ob:Obs):Prop:=Tap 125 121 P W g ob
def WtR(P:Nat)(W:Str)(g:Nat->Nat)(ob:Obs)(r:AV)(g':Nat->Nat)(Z:Obs):Prop:=r=uv/\Tp P W g' Z/\∀i,i≠125->i≠121->g' i=g i/\Z i=ob i
def Wts(f:FuncId)(xs:List AV)(out:Str):Prop:=∀(B P:Nat)(W:Str)(g:Nat->Nat)(ob:Obs),200<=B->(∀i,B<=i->ob i=N)->Tp P W g ob->z W+z out<=1000000000->
 fv Tryz.prog f (.one (.ptr 125 P 0)::xs) g ob (WtR P (W++out) g ob) (λ_ _ _=>False)
def dZ{B P:Nat}{W:Str}{g:Nat->Nat}{ob:Obs}{s:St}(hB:200<=B)(h:Tp P W s.gen s.obj)(l:∀i,i<B->i≠125->i≠121->s.gen i=g i/\s.obj i=ob i):bD B [125,121] g ob (WtR P W g ob) s []:=by
 obtain⟨m,n,⟨a,j,ho⟩,p,b,bl⟩:=h;refine⟨⟨λi b h=>l i b (λe=>h Yj) (λe=>h Yj),λi y f d c o=>?_⟩,[],rfl,rfl,⟨?_,n,⟨a,j,?_⟩,?_,?_,bl⟩,λi U Y=>⟨j8 (by simp[U,Y]),j8 (by simp[U,Y])⟩⟩
 .rcases y9.1 y with rfl|y
  .rw[ho]at d
   cases d;rcases y9.1 o with rfl|o
   .rcases j with rfl|rfl
    .trivial
    .show 125<B;omega
   .obtain rfl:=C6.1 o
    show 121<B;omega
  .obtain rfl:=C6.1 y
   rw[b]at d;cases d;obtain⟨x,_,rfl⟩:=G3.1 o;trivial
 .exact(l7 a8).trans m
 .simp only[fM,jT,y9,S7,R4,B5];exact ho
 .simp only[jT,y9,R4,S7,B5];exact p
 .simp only[fM,y9,R4,S7,B5];exact b
section
variable{O:Bs}{rd:Option Nat}{b:St->Am.Loc->List Deferred->World->Prop}{l:Nat}{m:fW}{op:Oper}{s:St}{K:St->Prop}{k:Box K}{args:Array Operand}{tys:Array TypeId}{P:Nat}{W:Str}
def mb(c:br O b)(ho:op.op=.call ⟨.value (.func 39),args,tys⟩)(t:Str)(I:args.toList.map s.ev=[.one (.ptr 125 P 0),sv t])(h:Tp P W s.gen s.obj)(hl:z W+z t<=1000000000)
 (e:∀a Z,Tp P (W++t) a Z->(∀i,i≠125->i≠121->a i=s.gen i/\Z i=s.obj i)->K (St.put ⟨s.f,a,Z⟩ op.dst (.tup [iv .i64 (z t),.one (.d .nili)]))):bu (spF Tryz.prog rd O b l m) op s k:=
 jc c ho (by rw[I];exact Ct t h a6 a6) λr a Z g=>by obtain⟨rfl,U,Y⟩:=g;exact e a Z U Y
def kz(c:br O b){f:FuncId}{xs:List AV}{out:Str}(hf:Wts f xs out)(ho:op.op=.call ⟨.value (.func f),args,tys⟩)(I:args.toList.map s.ev=.one (.ptr 125 P 0)::xs)(B:Nat)(hB:200<=B)(L:∀i,B<=i->s.obj i=N)(h:Tp P W s.gen s.obj)(hl:z W+z out<=1000000000)
 (d:∀a Z,Tp P (W++out) a Z->(∀i,i≠125->i≠121->a i=s.gen i/\Z i=s.obj i)->K (St.put ⟨s.f,a,Z⟩ op.dst uv)):bu (spF Tryz.prog rd O b l m) op s k:=
 jc c ho (by rw[I];exact(hf B P W s.gen s.obj hB L h hl).toR) λr a Z e=>by obtain⟨rfl,U,Y⟩:=e;exact d a Z U Y
end
def kR(q:Nat)(t:Str)(j:q<=1000):Wts 38 [iv .i64 q,sv t] (ind q++t):=by
 intro B P W g ob hB hf h hl;refine hdM B [125,121] Tryz.func38 rfl [] Wk hf λO bo s0 w0=>?_;have y:z (ind q)=2*q:=by simp[ind]
 rw[j4,y]at hl;simp only[go_sem];refine dF (λk K=>K.f 0=.one (.ptr 125 P 0)/\K.f 2=sv t/\K.f 6=iv .i64 q/\K.f 7=iv .i64 k/\Tp P (W++ind k) K.gen K.obj/\∀i,i≠125->i≠121->K.gen i=g i/\K.obj i=ob i) q ?_ ?_
 .simp only[go_sem]
  rw[show W++ind 0=W by simp[ind]];exact h
 rintro k f g1 ad hk ⟨m,u,o,v,l,r⟩;simp only at m u o v l r;have G:=ab (k:=k) a6;have x:z (W++ind k)=z W+2*k:=by rw[j4];simp[ind]
 obtain⟨a,ha,ho⟩:=l.obj;by_cases I:k<q
 .have H:(k:Int)<(q:Int):=a6
  simp only[go_sem,m,o,v,H,l.gen,ho];refine mb (W:=W++ind k) (P:=P) aa rfl [32,32] Wh l (by rw[x];simp;omega) ?_;intro Z b3 w A;simp only[go_sem,m,u,o,v,G];refine bM I ?_;simp only[go_sem,m,u,o];refine⟨?_,λi U Y=>⟨(A i U Y).1.trans (r i U Y).1,(A i U Y).2.trans (r i U Y).2⟩⟩;have e:ind (k+1)=ind k++[32,32]:=by unfold ind;rw[Nat.mul_add,<-List.replicate_append_replicate];rfl
  rw[e,<-l6];exact w
 .have H:¬(k:Int)<(q:Int):=a6
  obtain rfl:k=q:=a6;simp only[go_sem,m,u,o,v,H,l.gen,ho];refine mb (W:=W++ind k) (P:=P) aa rfl t Wh l (by rw[x];omega) ?_;intro Z b3 w A;simp only[go_sem];refine⟨_,ae.refl _,?_⟩;refine dZ hB (by rw[<-l6];exact w) λi _ U Y=>⟨(A i U Y).1.trans (r i U Y).1,(A i U Y).2.trans (r i U Y).2⟩
def al{g a g2:Nat->Nat}{ob ad b:Obs}(h:∀i,i≠125->i≠121->a i=g i/\ad i=ob i)(c:∀i,i≠125->i≠121->g2 i=a i/\b i=ad i):∀i,i≠125->i≠121->g2 i=g i/\b i=ob i:=
 λi U Y=>⟨(c i U Y).1.trans (h i U Y).1,(c i U Y).2.trans (h i U Y).2⟩
def pF(q:Nat)(t:Str)(j:q<=1000):Wts 15 [iv .i64 q,sv t] (ind q++t++[10]):=by
 intro B P W g ob hB hf h hl;refine hdM B [125,121] Tryz.func15 rfl [] Wk hf λO bo s0 w0=>?_;rw[j4,B7]at hl;simp only[go_sem];refine kz aa (kR q t j) rfl Wh B hB (by simp only[go_sem];exact hf) h a6 ?_;exact q8
def uy(t:Str):Wts 69 [sv t] (t++[10]):=by
 intro B P W g ob hB hf h hl;refine hdM B [125,121] Tryz.func69 rfl [] Wk hf λO bo s0 w0=>?_;rw[j4,B7]at hl;obtain⟨a,ha,ho⟩:=h.obj;simp only[go_sem,h.gen,ho];refine mb (P:=P) aa rfl t Wh h a6 ?_;exact q8
end
end
end Go.Proofs.YtednjibjomfhfaaGreatDoor
namespace Go.Am
section
section
variable{P:Program}{G:Nat->TI}
def Ap(B X:Nat)(o:cg)(an:List Nat)(hT:bp P G)(hm:P.follows .mixedOrders=T){f:FuncId}{fn:Func}{c:Code}(hf:P.funcs[f]?=S fn)(A:fn.body=S c)(hn:(fn.name == "runtime.NumGoroutine")=F)
 (rs:List ResultVar)(L:fn.results=rs.toArray)(j:gv c=T)(bd:codeOk fn.ntmps c=T){xs:List AV}(p:z xs<=fn.ntmps){g:Nat->Nat}{ob:Obs}{R:AV->(Nat->Nat)->Obs->Prop}
 (hS:∀i∈an,i<B)(hB:∀i,B<=i->ob i=N)
 (h:∀O bo s0 w0,wpC (spF P N O (LM X o O bo s0 w0) B ql) G c (bx (FY G rs B an g ob R)) ⟨dA xs,g,ob⟩):Aj P X o f xs g ob R:=by
 refine⟨⟨fn,hf,by rw[A];rfl,hn⟩,λO av I a fa w vs cu bs J hv=>?_⟩;refine jr (n:=0) (callsIn_of_wp hf A trivial ?_);have V:=mE (av:=fn.ntmps) p J hv;refine wpIn_mono (cB (rd:=N) (B:=B) (ds:=[]) hT hm aL c j bd V ⟨⟨cu,bs⟩,rfl,Tr.refl⟩ (h O I ⟨dA xs,g,ob⟩ w)) (λe W s hp=>?_);obtain⟨s',E,a0,bc,rfl,t,bk,_,rfl,ht⟩:=hp.plain
 have d:FY G rs B an g ob R .ret s'->∃v,(results fn a0.tmps).run P s=.ok v s/\∃Y r u Z E,Ending.returned v=.returned Y/\R r u Z/\ag O E u Z s r Y/\
   (∀id m,Z id=S m->dX O E u Z s (u id) m (E id))/\(∀id K a W,(Z id).isSome=T->(Z K).isSome=T->E id=S a->E K=S W->a.block=W.block->id=K)/\
   Tr O I ⟨fa,g,ob⟩ w E ⟨fa,u,Z⟩ s:=by
  rintro⟨s2,bz,hR⟩;obtain⟨bl,x,a1⟩:=bz O fn.ntmps E a0 s bk;have H:=ht.trans a1;obtain⟨v,Q,U,⟨hE,q,eo,b⟩,h3,k,rfl,h4⟩:=dY hT x L hR;obtain⟨b0,b1,k1,k2,y,k4⟩:=vx (a0:=a) (fa:=fa) J x rfl rfl H hS hB hE;exact⟨lr k,U,lr k,_,_,_,b0,rfl,b,vo (eo.repL (λid ho=>⟨(y id ho).1,(y id ho).2.1⟩) x (λid ho=>(y id ho).2.2) h4),k1,k2,k4⟩
 cases e with
 |normal=>exact⟨rfl,d t⟩
 |ret=>exact⟨rfl,d t⟩
 |exit id=>exact t.elim
 |goto l=>exact t.elim
 |panic ch=>exact t.elim
 |outgrown=>exact t.elim
end
end
end Go.Am
namespace Go.Proofs.YtednjibjomfhfaaGreatDoor
section
open Go Go.Am Go.Asm Go.RowKit
open Go.Src (Ex ind aj pcE pcJ szE aH)
attribute[local congr]ite_cc
section
def Tp.upd{P B:Nat}{W:Str}{g:Nat->Nat}{ob:Obs}(h:Tp P W g ob)(hB:200<=B)(k x:Nat)(y:Option (List C)):Tp P W (upd g (B+k) x) (upd ob (B+k) y):=by
 obtain⟨hg,cm,⟨a,ha,ho⟩,b5,hi,bl⟩:=h;have Q:¬125=B+k:=a6;have n2:¬121=B+k:=a6;exact UK
variable{ob:Obs}{l:List Ex}{g:Nat->Nat}{xs:List AV}
def Tp.upd2{P B:Nat}{W:Str}(h:Tp P W g ob)(hB:200<=B)(k x:Nat)(y X:Option (List C)):Tp P W (Am.upd g (B+k) x) (Am.upd (Am.upd ob (B+k) y) (B+k) X):=by
 have e:Am.upd (Am.upd ob (B+k) y) (B+k) X=Am.upd ob (B+k) X:=by funext i;simp only[Am.upd];split<;>rfl
 rw[e];exact h.upd hB k x X
def Cu{B k i:Nat}{y X:Option (List C)}(h:∀i,B+100<=i->ob i=N)(hi:B+100<=i)(hk:k<100:=by decide):Am.upd (Am.upd ob (B+k) y) (B+k) X i=N:=by
 simp only[Am.upd];rw[j8 a6,j8 a6];exact h i hi
def WtG(o:cg)(f:FuncId)(xs:List AV)(out:Str):Prop:=∀(B P:Nat)(W:Str)(g:Nat->Nat)(ob:Obs),200<=B->(∀i,B<=i->ob i=N)->Tp P W g ob->z W+z out<=1000000000->
 Aj Tryz.prog 4 o f (.one (.ptr 125 P 0)::xs) g ob (WtR P (W++out) g ob)
def KU(o:cg)(B:Nat)(an:List Nat){f:FuncId}{fn:Func}{c:Code}(hf:Tryz.prog.funcs[f]?=S fn)(hb:fn.body=S c)(rs:List ResultVar){R:AV->(Nat->Nat)->Obs->Prop}(hS:∀i∈an,i<B)(hB:∀i,B<=i->ob i=N)(h:∀O bo s0 w0,wpC (spF Tryz.prog N O (LM 4 o O bo s0 w0) B ql) Tt c (bx (FY Tt rs B an g ob R)) ⟨dA xs,g,ob⟩)(hn:(fn.name == "runtime.NumGoroutine")=F:=by rfl)(L:fn.results=rs.toArray:=by rfl)(j:gv c=T:=by kernel_rfl)(bd:codeOk fn.ntmps c=T:=by kernel_rfl)(p:Nat.ble (z xs) fn.ntmps=T:=by kernel_rfl):Aj Tryz.prog 4 o f xs g ob R:=Ap B 4 o an aR mixed hf hb hn rs L j bd (H2 p) hS hB h
section
variable{o:cg}{O:Bs}{rd:Option Nat}{bo:Am.Loc}{s0:St}{w0:World}{m:Nat}{n:fW}{op:Oper}{s:St}{K:St->Prop}{k:Box K}{args:Array Operand}{tys:Array TypeId}{P:Nat}{W:Str}
def dt{f:FuncId}{out:Str}(hf:WtG o f xs out)(ho:op.op=.call ⟨.value (.func f),args,tys⟩)(I:args.toList.map s.ev=.one (.ptr 125 P 0)::xs)(B:Nat)(hB:200<=B)(L:∀i,B<=i->s.obj i=N)(h:Tp P W s.gen s.obj)(hl:z W+z out<=1000000000)
 (b:∀a Z,Tp P (W++out) a Z->(∀i,i≠125->i≠121->a i=s.gen i/\Z i=s.obj i)->K (St.put ⟨s.f,a,Z⟩ op.dst uv)):bu (spF Tryz.prog rd O (LM 4 o O bo s0 w0) m n) op s k:=
 sE (X:=4) (o:=o) aL (λ_ _ _ _ h=>h.1) ho XU λr a Z c=>by obtain⟨rfl,U,Y⟩:=c;exact b a Z U Y
end
section
variable{O:Bs}{rd:Option Nat}{q:St->Am.Loc->List Deferred->World->Prop}{m:Nat}{n:fW}{op:Oper}{s:St}{K:St->Prop}{k:Box K}{args:Array Operand}{tys:Array TypeId}{P:Nat}{W:Str}
def ij(c:br O q){b:Nat}(ho:op.op=.call ⟨.value (.tmp b),args,tys⟩)(t:Str)(e:s.f b=.one (.clo (39+1000000) [.ptr 125 P 0]))(I:args.toList.map s.ev=[sv t])(h:Tp P W s.gen s.obj)(hl:z W+z t<=1000000000)
 (j:∀a Z,Tp P (W++t) a Z->(∀i,i≠125->i≠121->a i=s.gen i/\Z i=s.obj i)->K (St.put ⟨s.f,a,Z⟩ op.dst (.tup [iv .i64 (z t),.one (.d .nili)]))):bu (spF Tryz.prog rd O q m n) op s k:=
 qE (cd:=λ_ _ _=>False) c ho e (by rw[I];exact(Ct t h a6 a6).toX) (λ_ _ _ h=>h.elim) λr a Z p=>by obtain⟨rfl,U,Y⟩:=p;exact j a Z U Y
end
def KV{k:Nat}{e:Ex}(b:l[k]?=S e):aj (pcJ (l.take (k+1)))=aj (pcJ (l.take k))++(if k=0 then []else [44,32])++aj (pcE e):=by
 cases l with
 |nil=>simp at b
 |cons a l=>
   cases k with
   |zero=>cases b;rw[C5,F6,F6,Src.VE,l7 rfl];rfl
   |succ k=>
     have c:l[k]?=S e:=by simpa using b
     rw[C5,C5,Src.KR,Src.KR,B4,c];simp
def RX(k:Nat):z (aj (pcJ (l.take k)))<=z (aj (pcJ l)):=by
 cases l with
 |nil=>simp
 |cons a l=>
   cases k with
   |zero=>simp[pcJ,Src.pcM,Src.setl,aj]
   |succ k=>
     rw[C5,Src.KR,Src.KR,j4,j4]
     have:∀(l:List Ex)(k:Nat),z ((l.take k).flatMap λe=>[44,32]++aj (pcE e))<=z (l.flatMap λe=>[44,32]++aj (pcE e)):=by
      intro l
      induction l with
      |nil=>simp
      |cons b l c=>
        intro k;cases k with
        |zero=>simp
        |succ k=>have:=c k;rw[C5,A1,A1];simp only[j4]at this|-;omega
     have:=this l k;omega
def qe(cx:z l<=1000000){o:cg}(Z:∀a∈l,WtG o 115 [exV a] (aj (pcE a))):WtG o 70 [dE l] (aj (pcJ l)):=by
 intro B P W g ob hB hf h hl;refine KU o B [125,121] Tryz.func70 rfl [] Wk hf λO bo s0 w0=>?_;unfold dE;simp only[go_sem,j5];refine dF (λk K=>K.f 0=.one (.ptr 125 P 0)/\K.f 6=.one (.d (.sl (l.map exD)))/\K.f 7=iv .i64 (z l)/\K.f 8=iv .i64 k/\Tp P (W++aj (pcJ (l.take k))) K.gen K.obj/\(∀i,i<B->i≠125->i≠121->K.gen i=g i/\K.obj i=ob i)/\∀i,B+100<=i->K.obj i=N) (z l) ?_ ?_
 .simp only[go_sem]
  rw[show W++aj (pcJ [])=W by simp[pcJ,Src.pcM,Src.setl,aj]];exact⟨h,λi hi=>hf i a6⟩
 rintro k f g1 ad hk ⟨t,v,u,c,r,G,L⟩;simp only at t v u c r G L;have hw:=ab (k:=k) a6;by_cases af:k<z l
 .have H:(k:Int)<(z l:Int):=a6
  obtain⟨e,w⟩:=getq af;have hg:=getD_at (f:=exD) w;have j:=Z e (l5 w);have Q:=KV w;have I:=RX (l:=l) (k+1);rw[Q,j4,j4]at I;unfold exV at j;obtain⟨kind,op,num,name,m⟩:=e;have hX:exD (.mk kind op num name m)=[.int .i64 kind,.int .i64 op,.int .u32 num,.str name,.sl (m.map exD)]:=by simp only[exD,aA]
  rw[hX]at hg j;obtain⟨a,ha,ho⟩:=r.obj;have t1:=tl5 hB;have t2:=th5 hB;have t3:=tl1 hB;have p:=th1 hB;by_cases an:k=0
  case' neg=>
   have b:(0:Int)<(k:Int):=a6;rw[j8 an]at Q I;simp only[go_sem,t,v,u,c,H,j5,hg,r.gen,ho,t1,t2,t3,p,b];refine mb (P:=P) aL rfl [44,32] Wh (r.upd2 hB 5 _ _ _) (by rw[j4];omega) ?_;intro g2 b3 cb A;have x:=A (B+5) a6 a6;have x:=x6 (x.1.trans (l7 rfl)) (x.2.trans (l7 rfl));simp only[go_sem,t,x.1,x.2]
  case' pos=>
   have b:¬(0:Int)<(k:Int):=a6;rw[l7 an,s5]at Q;rw[l7 an]at I;simp only[go_sem,t,v,u,c,H,j5,hg,r.gen,ho,t1,t2,t3,p,b]
  case' neg=>refine dt (xs:=[exV (.mk kind op num name m)]) (P:=P) (Z _ (l5 w)) rfl (by unfold exV;rw[hX];simp only[go_sem]) (B+200) a6 (λi hi=>(A i a6 a6).2.trans ?_) cb (by rw[j4,j4];omega) ?_
  case' pos=>refine dt (xs:=[exV (.mk kind op num name m)]) (P:=P) (Z _ (l5 w)) rfl (by unfold exV;rw[hX];simp only[go_sem]) (B+200) a6 (λi hi=>?_) (r.upd2 hB 5 _ _ _) (by rw[j4];simp at I;omega) ?_
  case neg.refine_1=>exact Cu L a6
  case pos.refine_1=>exact Cu L a6
  all_goals intro g3 cf bf bd;simp only[go_sem,t,v,u,c,hw];refine bM af ?_;simp only[go_sem,t,v,u]
  case' neg=>have bd:=al A bd
  all_goals
   refine⟨by rw[Q];simpa only[l6]using bf,λi hi U Y=>?_,λi hi=>?_⟩
   .have:=bd i U Y
    simp only[Am.upd,j8 (show ¬i=B+5 by omega)]at this;exact⟨this.1.trans (G i hi U Y).1,this.2.trans (G i hi U Y).2⟩
   .exact(bd i a6 a6).2.trans (Cu L hi)
 .have H:¬(k:Int)<(z l:Int):=a6
  obtain rfl:k=z l:=a6;simp only[go_sem,u,c,H];rw[F0]at r;refine⟨_,ae.refl _,?_⟩;exact dZ hB r G
end
end
section
open Go Go.Shelf
def gz{c:Type}{a b:c}(h:a=b):S a=S b:=by rw[h]
def ux:Ren:=⟨fun|156=>16|165=>40|166=>39|169=>19|240=>66|241=>67|276=>109|277=>110|n=>n,fun|31=>22|9=>9|3=>3|4=>4|0=>0|20=>20|72=>51|76=>93|70=>48|37=>49|75=>92|127=>102|164=>200|5=>5|80=>62|n=>n,λn=>n⟩
def Oi:Go.Proofs.Lays.n156 Tryz.prog ux where
 mixed:=c8
 f156:=Tryz.func16.trans (gz c8)
 f165:=Tryz.func40.trans (gz c8)
 f166:=Tryz.func39.trans (gz c8)
 f169:=Tryz.func19.trans (gz c8)
 f240:=Tryz.func66.trans (gz c8)
 f241:=Tryz.func67.trans (gz c8)
 f276:=Tryz.func109.trans (gz c8)
 f277:=Tryz.func110.trans (gz c8)
 t0:=Tryz.underlying0
 a0:=Tryz.isAgg0
 z0:=Tryz.sizeOf0
 v0:=Tryz.zeroValue0
 t3:=Tryz.underlying3
 a3:=Tryz.isAgg3
 z3:=Tryz.sizeOf3
 v3:=Tryz.zeroValue3
 t4:=Tryz.underlying4
 a4:=Tryz.isAgg4
 z4:=Tryz.sizeOf4
 v4:=Tryz.zeroValue4
 t9:=Tryz.underlying9
 a9:=Tryz.isAgg9
 z9:=Tryz.sizeOf9
 v9:=Tryz.zeroValue9
 t20:=Tryz.underlying20
 a20:=Tryz.isAgg20
 z20:=Tryz.sizeOf20
 v20:=Tryz.zeroValue20
 t31:=Tryz.underlying22
 a31:=Tryz.isAgg22
 z31:=Tryz.sizeOf22
 v31:=Tryz.zeroValue22
 t37:=Tryz.underlying49
 a37:=Tryz.isAgg49
 z37:=Tryz.sizeOf49
 v37:=Tryz.zeroValue49
 t70:=Tryz.underlying48
 a70:=Tryz.isAgg48
 z70:=Tryz.sizeOf48
 v70:=Tryz.zeroValue48
 t72:=Tryz.underlying51
 a72:=Tryz.isAgg51
 z72:=Tryz.sizeOf51
 v72:=Tryz.zeroValue51
 t75:=Tryz.underlying92
 a75:=Tryz.isAgg92
 z75:=Tryz.sizeOf92
 v75:=Tryz.zeroValue92
 t76:=Tryz.underlying93
 a76:=Tryz.isAgg93
 z76:=Tryz.sizeOf93
 v76:=Tryz.zeroValue93
 t127:=Tryz.underlying102
 a127:=Tryz.isAgg102
 z127:=Tryz.sizeOf102
 v127:=Tryz.zeroValue102
 t164:=Tryz.underlying200
 a164:=Tryz.isAgg200
 z164:=Tryz.sizeOf200
 v164:=Tryz.zeroValue200
def Cr:Ren:=⟨fun|283=>111|n=>n,fun|3=>3|9=>9|4=>4|n=>n,λn=>n⟩
def Oj:Go.Proofs.Lays.n283 Tryz.prog Cr where
 mixed:=c8
 f283:=Tryz.func111.trans (gz c8)
 t3:=Tryz.underlying3
 a3:=Tryz.isAgg3
 z3:=Tryz.sizeOf3
 v3:=Tryz.zeroValue3
 t4:=Tryz.underlying4
 a4:=Tryz.isAgg4
 z4:=Tryz.sizeOf4
 v4:=Tryz.zeroValue4
 t9:=Tryz.underlying9
 a9:=Tryz.isAgg9
 z9:=Tryz.sizeOf9
 v9:=Tryz.zeroValue9
def zJ:Ren:=⟨fun|284=>112|129=>178|317=>177|318=>179|n=>n,fun|53=>97|3=>3|212=>272|0=>0|4=>4|46=>163|5=>5|9=>9|n=>n,fun|17=>1|n=>n⟩
def KT:Go.Proofs.LaysM.n284 Tryz.prog zJ where
 mixed:=c8
 f129:=Tryz.func178.trans (gz c8)
 f284:=Tryz.func112.trans (gz c8)
 f317:=Tryz.func177.trans (gz c8)
 f318:=Tryz.func179.trans (gz c8)
 t0:=Tryz.underlying0
 a0:=Tryz.isAgg0
 z0:=Tryz.sizeOf0
 v0:=Tryz.zeroValue0
 t3:=Tryz.underlying3
 a3:=Tryz.isAgg3
 z3:=Tryz.sizeOf3
 v3:=Tryz.zeroValue3
 t4:=Tryz.underlying4
 a4:=Tryz.isAgg4
 z4:=Tryz.sizeOf4
 v4:=Tryz.zeroValue4
 t5:=Tryz.underlying5
 a5:=Tryz.isAgg5
 z5:=Tryz.sizeOf5
 v5:=Tryz.zeroValue5
 t9:=Tryz.underlying9
 a9:=Tryz.isAgg9
 z9:=Tryz.sizeOf9
 v9:=Tryz.zeroValue9
 t46:=Tryz.underlying163
 a46:=Tryz.isAgg163
 z46:=Tryz.sizeOf163
 v46:=Tryz.zeroValue163
 t53:=Tryz.underlying97
 a53:=Tryz.isAgg97
 z53:=Tryz.sizeOf97
 v53:=Tryz.zeroValue97
 t212:=Tryz.underlying272
 a212:=Tryz.isAgg272
 z212:=Tryz.sizeOf272
 v212:=Tryz.zeroValue272
 g17:=c8
 i0:=c8
 i3:=c8
 i4:=c8
 i5:=c8
 i9:=c8
 i46:=c8
 i53:=c8
 i212:=c8
 m17:=c8
def Cs:Ren:=⟨fun|285=>113|n=>n,fun|37=>49|53=>97|3=>3|4=>4|51=>57|9=>9|5=>5|0=>0|n=>n,λn=>n⟩
def Ok:Go.Proofs.Lays.n285 Tryz.prog Cs where
 mixed:=c8
 f285:=Tryz.func113.trans (gz c8)
 t0:=Tryz.underlying0
 a0:=Tryz.isAgg0
 z0:=Tryz.sizeOf0
 v0:=Tryz.zeroValue0
 t3:=Tryz.underlying3
 a3:=Tryz.isAgg3
 z3:=Tryz.sizeOf3
 v3:=Tryz.zeroValue3
 t4:=Tryz.underlying4
 a4:=Tryz.isAgg4
 z4:=Tryz.sizeOf4
 v4:=Tryz.zeroValue4
 t5:=Tryz.underlying5
 a5:=Tryz.isAgg5
 z5:=Tryz.sizeOf5
 v5:=Tryz.zeroValue5
 t9:=Tryz.underlying9
 a9:=Tryz.isAgg9
 z9:=Tryz.sizeOf9
 v9:=Tryz.zeroValue9
 t37:=Tryz.underlying49
 a37:=Tryz.isAgg49
 z37:=Tryz.sizeOf49
 v37:=Tryz.zeroValue49
 t51:=Tryz.underlying57
 a51:=Tryz.isAgg57
 z51:=Tryz.sizeOf57
 v51:=Tryz.zeroValue57
 t53:=Tryz.underlying97
 a53:=Tryz.isAgg97
 z53:=Tryz.sizeOf97
 v53:=Tryz.zeroValue97
end
section
open Go Go.Am Go.Asm Go.RowKit Go.Sort Go.Lib Go.Proofs
attribute[local congr]ite_cc
section
def zL(u:Nat)(a:u<18446744073709551616)(w:World)(g:Lib.TabIs Tryz.prog w "internal/strconv.uint64pow10" .u64 Lib.pow10Tab):
  Calls Tryz.prog 68 #[.int .u64 u,.int .i64 10] w λe w'=>e=.returned (.string ⟨(Lib.decDigits u).toArray⟩)/\∃k os,w'=grow (w.drewN k) os:=by
 have mixed:Tryz.prog.follows .mixedOrders=T:=c8;have t3:Tryz.prog.underlying 3=S (.int .i64):=Tryz.underlying3;have G:∀w,(isAgg 3).run Tryz.prog w=.ok F w:=Tryz.isAgg3;have z3:∀w,(Go.sizeOf 3).run Tryz.prog w=.ok 1 w:=Tryz.sizeOf3;have Q:∀w,(zeroValue 3).run Tryz.prog w=.ok (.int .i64 0) w:=Tryz.zeroValue3;have A:Tryz.prog.underlying 9=S (.string):=Tryz.underlying9;have U:∀w,(isAgg 9).run Tryz.prog w=.ok F w:=Tryz.isAgg9;have V:∀w,(Go.sizeOf 9).run Tryz.prog w=.ok 1 w:=Tryz.sizeOf9;have X:∀w,(zeroValue 9).run Tryz.prog w=.ok (.string ⟨#[]⟩) w:=Tryz.zeroValue9;have p:Tryz.prog.underlying 4=S (.bool):=Tryz.underlying4;have a4:∀w,(isAgg 4).run Tryz.prog w=.ok F w:=Tryz.isAgg4;have z4:∀w,(Go.sizeOf 4).run Tryz.prog w=.ok 1 w:=Tryz.sizeOf4;have Y:∀w,(zeroValue 4).run Tryz.prog w=.ok (.bool F) w:=Tryz.zeroValue4;have c:Tryz.prog.underlying 204=S (.array 24 5):=Tryz.underlying204;have t:∀w,(isAgg 204).run Tryz.prog w=.ok T w:=Tryz.isAgg204;have v:∀w,(Go.sizeOf 204).run Tryz.prog w=.ok 24 w:=Tryz.sizeOf204;have x:∀w,(zeroValue 204).run Tryz.prog w=.ok (.agg Lib.zeros24) w:=Tryz.zeroValue204;have t0:Tryz.prog.underlying 0=S (.tuple #[]):=Tryz.underlying0;have a0:∀w,(isAgg 0).run Tryz.prog w=.ok F w:=Tryz.isAgg0;have z0:∀w,(Go.sizeOf 0).run Tryz.prog w=.ok 1 w:=Tryz.sizeOf0;have v0:∀w,(zeroValue 0).run Tryz.prog w=.ok (.tuple #[]) w:=Tryz.zeroValue0;have B:Tryz.prog.underlying 97=S (.int .u64):=Tryz.underlying97;have E:∀w,(isAgg 97).run Tryz.prog w=.ok F w:=Tryz.isAgg97;have H:∀w,(Go.sizeOf 97).run Tryz.prog w=.ok 1 w:=Tryz.sizeOf97;have I:∀w,(zeroValue 97).run Tryz.prog w=.ok (.int .u64 0) w:=Tryz.zeroValue97;have m:Tryz.prog.underlying 49=S (.slice 5):=Tryz.underlying49;have J:∀w,(isAgg 49).run Tryz.prog w=.ok F w:=Tryz.isAgg49;have K:∀w,(Go.sizeOf 49).run Tryz.prog w=.ok 1 w:=Tryz.sizeOf49;have L:∀w,(zeroValue 49).run Tryz.prog w=.ok (.slice N 0 0) w:=Tryz.zeroValue49;have O:Tryz.prog.underlying 5=S (.int .u8):=Tryz.underlying5;have s:∀w,(isAgg 5).run Tryz.prog w=.ok F w:=Tryz.isAgg5;have z5:∀w,(Go.sizeOf 5).run Tryz.prog w=.ok 1 w:=Tryz.sizeOf5;have Z:∀w,(zeroValue 5).run Tryz.prog w=.ok (.int .u8 0) w:=Tryz.zeroValue5;by_cases hs:u<100
 .have c6:∀w,Calls Tryz.prog 111 #[.int .i64 u] w λe w'=>e=.returned (.string ⟨(Lib.decDigits u).toArray⟩)/\w'=w:=λw=>Any.internal_strconv_small Oj u hs w
  go_enter Tryz.func68,Tryz.ntmps68
  go_wp2_with (refine(c6 _).mono ?_;rintro e w' ⟨rfl,rfl⟩)
  go_ret
  exact⟨rfl,0,#[],by simp[World.drewN_zero]⟩
 .have cc:1<=u:=a6
  have o:Lib.nDigits u<=20:=by have:=Lib.numDigits_eq u cc a;split at this<;>omega
  have l:Lib.nDigits u<=23:=a6;have c2:Tryz.prog.arrayLen 204=24:=by simp[Program.arrayLen,c]
  have y:∀W,(Instr.sliceAt 204 (.pointer (S ⟨w.heap.size,0,N⟩)) N (S (.int .i64 (Lib.nDigits u:Int))) N).run Tryz.prog W=.ok (.slice (S ⟨w.heap.size,0,N⟩) (Lib.nDigits u) 24) W:=λW=>by
   rw[run_sliceAt_array_h W 204 ⟨w.heap.size,0,N⟩ (by simp[Program.arrayLen,Program.elem,c]) .i64 (Lib.nDigits u:Int) a6 (by rw[c2];omega)]
   go_simp
  have f:Holds (λ(b:UInt8)=>Value.int .u8 (b.toNat:Int)) (w.alloc (.cells Lib.zeros24 204)) w.heap.size 0 (Array.replicate (Lib.nDigits u) 0):=λj hj=>by
   have cb:j<Lib.nDigits u:=by simpa using hj
   refine⟨?_,World.frozen?_alloc_new _ _ _ _⟩;rw[World.cell?_alloc_new,Lib.zeros24_at _ a6,getElem!_pos _ j hj];simp
  have i:Calls Tryz.prog 113 #[.slice (S ⟨w.heap.size,0,N⟩) (Lib.nDigits u) 24,.int .u64 u] (w.alloc (.cells Lib.zeros24 204)) λe w'=>
    e=.returned (.tuple #[])/\∃(n v':Nat)(d:Array UInt8),w'=(putRow (λ(b:UInt8)=>Value.int .u8 (b.toNat:Int)) (w.alloc (.cells Lib.zeros24 204)) w.heap.size 0 d).drewN n/\FmtInv (Lib.nDigits u) u 0 v' d:=by
   have h:=Any.internal_strconv_formatBase10 Ok w.heap.size 0 24 u (Array.replicate (Lib.nDigits u) 0) (w.alloc (.cells Lib.zeros24 204)) f (by rw[N3];exact Lib.lt_pow_nDigits u) a (by rw[N3];omega);rw[N3]at h;exact h
  have an:∀w,Lib.TabIs Tryz.prog w "internal/strconv.uint64pow10" .u64 Lib.pow10Tab->Calls Tryz.prog 112 #[.int .u64 u] w λe w'=>e=.returned (.int .i64 (Lib.nDigits u))/\w'=w:=λw h=>Any.internal_strconv_numDigits KT u cc a w h;have q:=Lib.hid f;clear f c2
  go_enter Tryz.func68,Tryz.ntmps68
  go_wp2_with (first
   | (refine(an _ (Lib.tabIs_alloc g _)).mono ?_;rintro e w' ⟨rfl,rfl⟩))
  refine i.mono ?_;rintro e w' ⟨rfl,k,v',d,rfl,hF⟩
  have b1:(convert 49 9 (.slice (S ⟨w.heap.size,0,N⟩) (Lib.nDigits u) 24)).run Tryz.prog ((putRow (λ(b:UInt8)=>Value.int .u8 (b.toNat:Int)) (w.alloc (.cells Lib.zeros24 204)) w.heap.size 0 d).drewN k)=.ok (.string ⟨(Lib.decDigits u).toArray⟩) ((putRow (λ(b:UInt8)=>Value.int .u8 (b.toNat:Int)) (w.alloc (.cells Lib.zeros24 204)) w.heap.size 0 d).drewN k):=by
   have h:=run_convert_bytes_back (P:=Tryz.prog) ((putRow (λ(b:UInt8)=>Value.int .u8 (b.toNat:Int)) (w.alloc (.cells Lib.zeros24 204)) w.heap.size 0 d).drewN k) 49 9 5 ⟨w.heap.size,0,N⟩ 24 (Lib.decDigits u) m O A (λj hj=>by
    rw[Lib.row_is_numeral hF j hj,Lib.add_plain,World.cell?_drewN];exact cell?_putRow (λ(b:UInt8)=>Value.int .u8 (b.toNat:Int)) _ w.heap.size 0 _ d q.out (by rw[hF.size,N3]) j (by rw[hF.size];rw[Lib.decDigits_length]at hj;exact hj))
   rw[Lib.decDigits_length]at h;exact h
  go_wp2
  go_ret
  obtain⟨r,_,e⟩:=putRow_grow_new (λ(b:UInt8)=>Value.int .u8 (b.toNat:Int)) w #[.cells Lib.zeros24 204] w.heap.size 0 d (l0 _);rw[<-alloc_eq_grow]at e;exact⟨rfl,k,r,by rw[e];rfl⟩
variable{o:cg}
def wS(ho:By o)(n:Nat)(a:n<18446744073709551616):bP Tryz.prog 4 o 68 [iv .u64 n,iv .i64 10] (·=sv (Lib.decDigits n)):=by
 refine vS ⟨_,Tryz.func68,rfl,c9⟩ rfl rfl λw m=>?_
 exact(zL n a w (ho w m)).mono λe b⟨U,k,os,Y⟩=>by
  subst Y;exact⟨U,grown w k os⟩
def zM(ho:By o)(n:Nat)(hn:n<18446744073709551616):bP Tryz.prog 4 o 41 [iv .u64 n,iv .i64 10] (·=sv (Lib.decDigits n)):=by
 refine hdG Tryz.func41 rfl [.tmp 4] λO bo s0 w0 g=>?_;simp only[go_sem];refine cK rfl (by simp only[go_sem];exact wS ho n hn) ?_;rintro _ rfl;exact hG
def RY(n:Nat):Lib.decDigits n=gg n:=by
 induction n using Nat.strongRecOn with
 |ind n a=>
   rw[Lib.decDigits];split
   .rename_i h;exact(fJ h).symm
   .rename_i h;rw[kZ h,a _ a6]
def KW(ho:By o){n:Int}(b:0<=n)(hn:n<4294967296):bP Tryz.prog 4 o 17 [iv .u32 n] (·=sv (gg n.toNat)):=by
 obtain⟨m,rfl⟩:∃m:Nat,n=(m:Int):=⟨n.toNat,a6⟩
 refine hdG Tryz.func17 rfl [.tmp 2] λO bo s0 w0 g=>?_;have a:IntKind.u64.wrap (m:Int)=(m:Int):=by rw[IntKind.wrap_u64];omega
 simp only[go_sem,a];refine cK rfl (by simp only[go_sem];exact zM ho m a6) ?_;rintro _ rfl;simp only[go_sem,RY]
def Ol:List Str:=[[43],[45],[42],[47],[37],[38],[124],[94],[60,60],[62,62],[60],[61,61]]
def He(o:cg):Prop:=∀w:World,qC 4 o w->∀(i:Nat)t,Ol[i]?=S t->w.cell? ⟨3,i,N⟩=S (.string ⟨t.toArray⟩)
open Go.Src (Ex jk)
def RZ{kind op:Int}(a:kind=6)(b:4<=op)(l:op<=15):∃i:Nat,op-4=i/\i<12/\Ol[i]?=S (jk kind op):=by
 refine⟨(op-4).toNat,a6,a6,?_⟩;subst a;have:op=4\/op=5\/op=6\/op=7\/op=8\/op=9\/op=10\/op=11\/op=12\/op=13\/op=14\/op=15:=a6;rcases this with rfl|rfl|rfl|rfl|rfl|rfl|rfl|rfl|rfl|rfl|rfl|rfl<;>rfl
def Sa(ho:He o){kind op num:Int}{name:Str}{kids:List Ex}(h:(kind=6/\4<=op/\op<=15)\/kind=8\/kind=9):bP Tryz.prog 4 o 182 [exV (.mk kind op num name kids)] (·=sv (jk kind op)):=by
 refine hdG Tryz.func182 rfl [.tmp 2] λO bo s0 w0 g=>?_;unfold exV;simp only[exD,aA,l9,v8];rcases h with⟨rfl,b,l⟩|rfl|rfl
 .obtain⟨i,d,k,m⟩:=RZ (kind:=6) rfl b l
  have a:IntKind.i64.wrap (op-4)=(i:Int):=by rw[d];exact wrap_i64 _ a6 a6
  simp only[go_sem,a]
  refine pL aG (λs q ds w h=>h.1.2) aR (n:=12) (e:=9) rfl rfl a7 (kd:=.i64) (i:=i) Wh k (cs:=[.str (jk 6 op)]) (λj x I=>by match j,I with|0,I=>cases I;rfl) (λw a j x I=>by
   match j,I with
   | 0,I=>cases I;rw[show i*(Tt 9).size+0=i from by show i*1+0=i;omega];exact ho w a i _ m) ?_
  exact hG
 .simp only[go_sem]
  rfl
 .simp only[go_sem]
  rfl
end
end
section
open Go Go.Am Go.Asm Go.RowKit
open Go.Src (Ex aj pcE pcJ szE aH cR aU bI qm)
attribute[local congr]ite_cc
section
variable{g g':Nat->Nat}{ob Z:Obs}{B k x:Nat}{y:Option (List C)}
def aW{B:Nat}(hB:200<=B)(a:∀i,i≠125->i≠121->g' i=g i/\Z i=ob i)(k:Nat):g' (B+k)=g (B+k)/\Z (B+k)=ob (B+k):=a _ a6 a6
def qj(a:∀i,i≠125->i≠121->g' i=Am.upd g (B+k) x i/\Z i=Am.upd ob (B+k) y i):∀i,i<B->i≠125->i≠121->g' i=g i/\Z i=ob i:=λi b U Y=>by
 have:=a i U Y;simpa only[Am.upd,j8 (show ¬i=B+k by omega)]using this
def frB(hf:∀i,B<=i->ob i=N)(hs:∀i,i≠125->i≠121->g' i=Am.upd g (B+k) x i/\Z i=Am.upd ob (B+k) y i)(hB:200<=B:=by assumption)(hk:k<200:=by decide):∀i,B+200<=i->Z i=N:=λi hi=>by
 rw[(hs i a6 a6).2];simp only[Am.upd,j8 (show ¬i=B+k by omega)];exact hf i a6
section
variable{O:Bs}{rd:Option Nat}{v:St->Am.Loc->List Deferred->World->Prop}{E:Nat}{H:fW}{op:Oper}{s:St}{K:St->Prop}{k:Box K}{args:Array Operand}{tys:Array TypeId}{P:Nat}{W:Str}
def du(b:br O v){f:FuncId}{xs:List AV}{out:Str}(hf:Wts f xs out){a:Nat}(ho:op.op=.call ⟨.value (.tmp a),args,tys⟩)(c:s.f a=.one (.clo (f+1000000) [.ptr 125 P 0]))(I:args.toList.map s.ev=xs)(B:Nat)(hB:200<=B)(L:∀i,B<=i->s.obj i=N)(h:Tp P W s.gen s.obj)(hl:z W+z out<=1000000000)
 (d:∀g' Z,Tp P (W++out) g' Z->(∀i,i≠125->i≠121->g' i=s.gen i/\Z i=s.obj i)->K (St.put ⟨s.f,g',Z⟩ op.dst uv)):bu (spF Tryz.prog rd O v E H) op s k:=
 qE (cd:=λ_ _ _=>False) b ho c XU (λ_ _ _ h=>h.elim) λr g' Z e=>by obtain⟨rfl,U,Y⟩:=e;exact d g' Z U Y
end
def Sb{o:cg}(hS:He o)(hP:By o):∀(av:Nat)(e:Ex)(q:Nat),szE e<=av->av<=1000000->Src.uE e->cR q e=T->WtG o 115 [exV e] (aj (pcE e)):=by
 intro av
 induction av with
 |zero=>intro e _ h;cases e;rw[szE]at h;omega
 |succ av ih=>
 rintro⟨kind,op,num,name,kids⟩ q bc hN i V B P W g ob hB hf h hl;rw[szE]at bc;rw[Src.uE]at i;obtain⟨j,i⟩:=i;simp only[cR,l4,s7]at V;obtain⟨_,d,f⟩:=V;have hE:∀a∈kids,WtG o 115 [exV a] (aj (pcE a)):=λa ha=>ih a (q+1) (by have:=Src.se ha;omega) a6 (Src.ka i ha) (Src.eN f ha);have b1:=Src.Kr kids;have J:=qe a6 hE;unfold dE at J;refine KU o B [125,121] Tryz.func115 rfl [] Wk hf λO bo s0 w0=>?_;obtain⟨a,ha,ho⟩:=h.obj;unfold exV;have v:=tl5 hB;have E:=th5 hB;have H:=tl1 hB;have p:=th1 hB;unfold bI at d;by_cases k1:kind=1
 .rw[l7 k1]at d
  subst k1;rw[Src.fl1]at hl|-;simp only[exD,aA,l9,v8];simp only[go_sem,h.gen,ho,v,E,H,p];refine jS aL (λs β ds w h=>h.1.2) rfl (by simp only[go_sem];exact KW hP j.1 j.2) Wt ?_;rintro _ rfl;simp only[go_sem];refine ij aL rfl (gg num.toNat) Wh Wh (h.upd hB 3 _ _) a6 ?_;intro g1 ad ca bz;simp only[go_sem];exact⟨_,ae.refl _,dZ hB ca (qj bz)⟩
 rw[j8 k1]at d;by_cases k2:kind=2
 .rw[l7 k2]at d
  subst k2;rw[Src.fl2]at hl|-
  try simp only[j4,j6,j7]at hl
  simp only[exD,aA,l9,v8];simp only[go_sem,h.gen,ho,v,E,H,p];refine ij aL rfl name Wh Wh (h.upd hB 3 _ _) Wj ?_;exact Ue
 rw[j8 k2]at d;by_cases k3:kind=3
 .rw[l7 k3]at d
  subst k3;rw[Src.fl3]at hl|-
  try simp only[j4,j6,j7]at hl
  simp only[exD,aA,l9,v8];simp only[go_sem,h.gen,ho,v,E,H,p];refine⟨a6,?_⟩;refine ij aL rfl (name++[91]) Wh Wh (h.upd hB 3 _ _) Wj ?_;intro g1 ad ca bz;have e1:=aW hB bz 3;simp only[go_sem,e1.1,e1.2];refine dt J rfl Wh (B+200) a6 (frB hf bz) ca Wj ?_;intro g2 b3 cb A;have e2:=x6 ((aW hB A 3).1.trans e1.1) ((aW hB A 3).2.trans e1.2);simp only[go_sem,e2.1,e2.2];refine ij aL rfl [93] Wh Wh cb Wj ?_;exact VJ
 rw[j8 k3]at d;by_cases k4:kind=4
 .rw[l7 k4]at d
  subst k4;rw[Src.fl4]at hl|-
  try simp only[j4,j6,j7]at hl
  simp only[exD,aA,l9,v8];simp only[go_sem,h.gen,ho,v,E,H,p];refine⟨a6,?_⟩;refine ij aL rfl (name++[40]) Wh Wh (h.upd hB 3 _ _) Wj ?_;intro g1 ad ca bz;have e1:=aW hB bz 3;simp only[go_sem,e1.1,e1.2];refine dt J rfl Wh (B+200) a6 (frB hf bz) ca Wj ?_;intro g2 b3 cb A;have e2:=x6 ((aW hB A 3).1.trans e1.1) ((aW hB A 3).2.trans e1.2);simp only[go_sem,e2.1,e2.2];refine ij aL rfl [41] Wh Wh cb Wj ?_;exact VJ
 rw[j8 k4]at d;by_cases k5:kind=5
 .rw[l7 k5]at d
  subst k5;rw[Src.fl5]at hl|-
  try simp only[j4,j6,j7]at hl
  simp only[exD,aA,l9,v8];simp only[go_sem,h.gen,ho,v,E,H,p];refine ij aL rfl [103,101,116,40,41] Wh Wh (h.upd hB 3 _ _) Wj ?_;exact Ue
 rw[j8 k5]at d;by_cases I:kind=7
 .rw[j8 a6,l7 I]at d
  subst I;rw[Src.fl7]at hl|-
  try simp only[j4,j6,j7]at hl
  simp only[exD,aA,l9,v8];simp only[go_sem,h.gen,ho,v,E,H,p];refine ij aL rfl [33] Wh Wh (h.upd hB 3 _ _) Wj ?_;intro g1 ad ca bz;have e1:=aW hB bz 3;simp only[go_sem,e1.1,e1.2];refine dt J rfl Wh (B+200) a6 (frB hf bz) ca Wj ?_;intro g2 b3 cb A;have e2:=x6 ((aW hB A 3).1.trans e1.1) ((aW hB A 3).2.trans e1.2);exact U6
 have u:(kind=6/\4<=op/\op<=15)\/kind=8\/kind=9:=by
  by_cases r:kind=6
  .rw[l7 r]at d;simp at d;exact .inl ⟨r,d.1.1.1⟩
  .rw[j8 r,j8 I]at d
   by_cases m:kind=8\/kind=9
   .exact .inr m
   .rw[j8 m]at d;cases d
 have Q:z kids=2:=by
  rw[j8 I]at d;rcases u with⟨h,_⟩|h
  .rw[l7 h]at d;simp at d;exact d.2
  .rw[j8 a6,l7 h]at d;simp at d;exact d.2
 obtain⟨x,y,rfl⟩:∃x y,kids=[x,y]:=by
  match kids,Q with
  |[x,y],_=>exact⟨x,y,rfl⟩
 have U:=qe (l:=[x]) a8 (λa ha=>hE a Yo);have k:=qe (l:=[y]) a8 (λa ha=>hE a Yo);rw[Src.VE]at U k;unfold dE at U k;have c:=Sa hS (num:=num) (name:=name) (kids:=[x,y]) u;unfold exV at c;simp only[exD,aA,l9,v8]at c U k;have cd:=Src.KP kind op;have b:kind=6\/kind=8\/kind=9:=a6;rw[Src.flO b]at hl|-;simp only[j4,j6,j7]at hl;simp only[exD,aA,l9,v8];clear d;obtain⟨t,n⟩:∃t,t=Src.jk kind op:=⟨_,rfl⟩
 rw[<-n]at c hl cd|-;have h5:∀X∈[exD x,exD y],z X=5:=λX hz=>by simp at hz;rcases hz with rfl|rfl<;>exact dD _
 rcases b with rfl|rfl|rfl
 all_goals
  simp only[go_sem,h.gen,ho,v,E,H,p];refine ij aL rfl [40] Wh Wh (h.upd hB 3 _ _) Wj ?_;intro g1 ad ca bz;have e1:=aW hB bz 3;simp only[go_sem,e1.1,e1.2];refine⟨h5,?_⟩;refine dt U rfl Wh (B+200) a6 (frB hf bz) ca Wj ?_;intro g2 b3 cb A;have e2:=x6 ((aW hB A 3).1.trans e1.1) ((aW hB A 3).2.trans e1.2);simp only[go_sem,e2.1,e2.2];refine jS aL (λs β ds w h=>h.1.2) rfl (by simp only[go_sem];exact c) Wt ?_;rintro _ rfl;simp only[go_sem];refine⟨a6,a6,?_⟩;refine ij aL rfl ([32]++t++[32]) Wh Wh cb Wj ?_;intro g3 cf bf bd;have e3:=x6 ((aW hB bd 3).1.trans e2.1) ((aW hB bd 3).2.trans e2.2);simp only[go_sem,e3.1,e3.2];refine⟨h5,?_⟩;refine dt k rfl Wh (B+200) a6 (frB hf (al (al bz A) bd)) bf Wj ?_;intro g4 c0 an cu;have Y:=x6 ((aW hB cu 3).1.trans e3.1) ((aW hB cu 3).2.trans e3.2);simp only[go_sem,Y.1,Y.2];refine ij aL rfl [41] Wh Wh an Wj ?_;intro g5 c' b6 G;have e5:=x6 ((aW hB G 3).1.trans Y.1) ((aW hB G 3).2.trans Y.2);simp only[go_sem];exact⟨_,ae.refl _,dZ hB Yq (qj (al (al (al (al bz A) bd) cu) G))⟩
end
end
section
open Go Go.Am Go.Asm Go.RowKit
open Go.Src (Ex Stm ind aj pcE pcJ szE aH szS aE di bg aU cp prS ss)
attribute[local congr]ite_cc
def zN{a:Type}{l:List a}{k:Nat}{e:a}(b:l[k]?=S e)(f:a->Str):(l.take (k+1)).flatMap f=(l.take k).flatMap f++f e:=by
 rw[B4,b];simp
def KX{a:Type}(l:List a)(k:Nat)(f:a->Str):z ((l.take k).flatMap f)<=z (l.flatMap f):=by
 conv=>rhs;rw[<-F9 k l,J9,j4]
 omega
def zO{l:List Stm}{q:Nat}(cx:z l<=1000000){o:cg}(hE:∀a∈l,WtG o 42 [smV a,iv .i64 q] (prS q a)):WtG o 18 [ed l,iv .i64 q] (ss q l):=by
 intro B P W g ob hB hf h hl;refine KU o B [125,121] Tryz.func18 rfl [] Wk hf λO bo s0 w0=>?_;unfold ed;unfold ss at hl|-;simp only[go_sem,j5];refine dF (λk K=>K.f 0=.one (.ptr 125 P 0)/\K.f 2=iv .i64 q/\K.f 8=.one (.d (.sl (l.map smD)))/\K.f 9=iv .i64 (z l)/\K.f 10=iv .i64 k/\Tp P (W++(l.take k).flatMap (prS q)) K.gen K.obj/\(∀i,i<B->i≠125->i≠121->K.gen i=g i/\K.obj i=ob i)/\∀i,B+100<=i->K.obj i=N) (z l) ?_ ?_
 .simp only[go_sem]
  rw[show W++([]:List Stm).flatMap (prS q)=W by simp];exact⟨h,λi hi=>hf i a6⟩
 rintro k f g1 ad hk ⟨u,r,c,t,G,m,v,L⟩;simp only at u r c t G m v L;have hw:=ab (k:=k) a6;by_cases A:k<z l
 .have H:(k:Int)<(z l:Int):=a6
  obtain⟨e,w⟩:=getq A;have I:=getD_at (f:=smD) w;have Q:=zN w (prS q);have a1:=KX l (k+1) (prS q);rw[Q,j4]at a1;obtain⟨kind,name,e,x,el⟩:=e;have Z:smD (.mk kind name e x el)=[.int .i64 kind,.str name,.sl (e.map exD),.sl (x.map smD),.sl (el.map smD)]:=by simp only[smD,aA,cT]
  rw[Z]at I;obtain⟨a,ha,ho⟩:=m.obj;have t1:=tl5 hB;have t2:=th5 hB;have t3:=tl1 hB;have p:=th1 hB;simp only[go_sem,u,r,c,t,G,H,j5,I,m.gen,ho,t1,t2,t3,p];refine dt (xs:=[smV (.mk kind name e x el),iv .i64 q]) (P:=P) (hE _ (l5 w)) rfl (by unfold smV;rw[Z];simp only[go_sem,r]) (B+200) a6 (λi hi=>?_) (m.upd2 hB 7 _ _ _) (by rw[j4];omega) ?_
  .exact Cu L a6
  intro g3 cf bf bd;simp only[go_sem,u,r,c,t,G,hw];refine bM A ?_;simp only[go_sem,u,r,c,t];refine⟨by rw[Q];simpa only[l6]using bf,λi hi U Y=>?_,λi hi=>?_⟩
  .have:=bd i U Y
   simp only[Am.upd,j8 (show ¬i=B+7 by omega)]at this;exact⟨this.1.trans (v i hi U Y).1,this.2.trans (v i hi U Y).2⟩
  .exact(bd i a6 a6).2.trans (Cu L hi)
 .have H:¬(k:Int)<(z l:Int):=a6
  obtain rfl:k=z l:=a6;simp only[go_sem,t,G,H];rw[F0]at m;exact⟨_,ae.refl _,dZ hB m v⟩
def Sc{o:cg}{kind:Int}{name:Str}{e:List Ex}{J el:List Stm}{q:Nat}(hk:kind=4\/kind=5)(j:q<=24)(K:WtG o 70 [dE e] (aj (pcJ e)))(hT:WtG o 18 [ed J,iv .i64 (q+1:Nat)] (ss (q+1) J))(X:WtG o 18 [ed el,iv .i64 (q+1:Nat)] (ss (q+1) el))(a':z el<=1000000):
  WtG o 71 [smV (.mk kind name e J el),iv .i64 q] (prS q (.mk kind name e J el)):=by
 intro B P W g ob hB hf h hl;refine KU o B [125,121] Tryz.func71 rfl [] Wk hf λO bo s0 w0=>?_;obtain⟨a,ha,ho⟩:=h.obj;have Y:=tl5 hB;have t2:=th5 hB;have t3:=tl1 hB;have p:=th1 hB;have H:=ab (k:=q) a6;have ch:z (if kind=5 then [119,104,105,108,101,32,40]else [105,102,32,40]:Str)<=7:=by split<;>decide
 obtain⟨hd,b⟩:∃hd:Str,hd=if kind=5 then [119,104,105,108,101,32,40]else [105,102,32,40]:=⟨_,rfl⟩
 rw[Src.st45 hk]at hl|-;rw[<-b]at hl ch|-;simp only[j4,j6,j7]at hl;have b4:z (ind q)=2*q:=by simp[ind]
 unfold dE at K;unfold ed at hT X;unfold smV;simp only[smD,aA,cT,l9,v8];by_cases c:el=[]
 case pos=>
  subst c;rw[l7 rfl]at hl|-;simp only[j7]at hl;rcases hk with rfl|rfl
  all_goals
   simp only[reduceCtorEq,↓reduceIte,Int.reduceEq]at b;simp only[go_sem,h.gen,ho,Y,t2,t3,p];refine kz aL (kR q hd a6) rfl Ym (B+200) a6 (frB (g:=g) (g':=Am.upd g (B+4) 0) hf λ_ _ _=>⟨rfl,rfl⟩) (h.upd hB 4 _ _) Wj ?_;intro g1 ad Q bz;have s:=aW hB bz 4;simp only[go_sem,s.1,s.2];refine dt K rfl Wh (B+200) a6 (frB hf bz) Q Wj ?_;intro g2 b3 U A;have t:=x6 ((aW hB A 4).1.trans s.1) ((aW hB A 4).2.trans s.2);simp only[go_sem,t.1,t.2];refine kz aL (uy [41,32,123]) rfl Wh (B+200) a6 (frB hf (al bz A)) U Wj ?_;intro g3 cf V bd;have w:=x6 ((aW hB bd 4).1.trans t.1) ((aW hB bd 4).2.trans t.2);simp only[go_sem,w.1,w.2,H];refine dt hT rfl (by simp only[go_sem,H]) (B+200) a6 (frB hf (al (al bz A) bd)) V Wj ?_;intro g4 c0 an r;have E:=x6 ((aW hB r 4).1.trans w.1) ((aW hB r 4).2.trans w.2);simp only[go_sem,E.1,E.2,H,j5,j7,v8];refine kz aL (pF q [125] a6) rfl Wh (B+200) a6 (frB hf (al (al (al bz A) bd) r)) an Wj ?_;intro g5 c' b6 G;have I:=x6 ((aW hB G 4).1.trans E.1) ((aW hB G 4).2.trans E.2);simp only[go_sem,I.1,I.2];exact⟨_,ae.refl _,dZ hB Yq (qj (al (al (al (al bz A) bd) r) G))⟩
 case neg=>
  have i:(0:Int)<(z el:Int):=by have:=H7.2 c;omega
  rw[j8 c]at hl|-;simp only[j4,j6,j7]at hl;rcases hk with rfl|rfl
  all_goals
   simp only[reduceCtorEq,↓reduceIte,Int.reduceEq]at b;simp only[go_sem,h.gen,ho,Y,t2,t3,p];refine kz aL (kR q hd a6) rfl Ym (B+200) a6 (frB (g:=g) (g':=Am.upd g (B+4) 0) hf λ_ _ _=>⟨rfl,rfl⟩) (h.upd hB 4 _ _) Wj ?_;intro g1 ad Q bz;have s:=aW hB bz 4;simp only[go_sem,s.1,s.2];refine dt K rfl Wh (B+200) a6 (frB hf bz) Q Wj ?_;intro g2 b3 U A;have t:=x6 ((aW hB A 4).1.trans s.1) ((aW hB A 4).2.trans s.2);simp only[go_sem,t.1,t.2];refine kz aL (uy [41,32,123]) rfl Wh (B+200) a6 (frB hf (al bz A)) U Wj ?_;intro g3 cf V bd;have w:=x6 ((aW hB bd 4).1.trans t.1) ((aW hB bd 4).2.trans t.2);simp only[go_sem,w.1,w.2,H];refine dt hT rfl (by simp only[go_sem,H]) (B+200) a6 (frB hf (al (al bz A) bd)) V Wj ?_;intro g4 c0 an r;have E:=x6 ((aW hB r 4).1.trans w.1) ((aW hB r 4).2.trans w.2);simp only[go_sem,E.1,E.2,H,j5,j7,v8,i];refine kz aL (pF q [125,32,101,108,115,101,32,123] a6) rfl Wh (B+200) a6 (frB hf (al (al (al bz A) bd) r)) an Wj ?_;intro g5 c' b6 G;have I:=x6 ((aW hB G 4).1.trans E.1) ((aW hB G 4).2.trans E.2);simp only[go_sem,I.1,I.2,H];refine dt X rfl (by simp only[go_sem,H]) (B+200) a6 (frB hf (al (al (al (al bz A) bd) r) G)) b6 Wj ?_;intro g6 bk v d;have l:=x6 ((aW hB d 4).1.trans I.1) ((aW hB d 4).2.trans I.2);simp only[go_sem,l.1,l.2];refine kz aL (pF q [125] a6) rfl Wh (B+200) a6 (frB hf (al (al (al (al (al bz A) bd) r) G) d)) v Wj ?_;intro m b2 n f;have u:=x6 ((aW hB f 4).1.trans l.1) ((aW hB f 4).2.trans l.2);simp only[go_sem,u.1,u.2];exact⟨_,ae.refl _,dZ hB (by simpa only[l6,u7,x9]using n) (qj (al (al (al (al (al (al bz A) bd) r) G) d) f))⟩
def kS{q:Nat}{s:Stm}:∀{l:List Stm},bg q l=T->s∈l->di q s=T
 |a::l,h,b=>by
   rw[bg,l4]at h;rcases y9.1 b with rfl|b
   .exact h.1
   .exact kS h.2 b
def Sd{o:cg}(hS:He o)(hP:By o):∀(av:Nat)(s:Stm)(q:Nat),szS s<=av->av<=1000000->Src.AA s->di q s=T->WtG o 42 [smV s,iv .i64 q] (prS q s):=by
 intro av
 induction av with
 |zero=>intro s _ h;cases s;rw[szS]at h;omega
 |succ av Q=>
 rintro⟨kind,name,e,th,el⟩ q bc hN i V;rw[szS]at bc;rw[Src.AA]at i;obtain⟨bl,n,c4⟩:=i;simp only[di,l4,s7]at V;obtain⟨⟨j,d,b7⟩,b',Y⟩:=V;have a':=Src.Kr e;have Z:=Src.Ks th;have cv:=Src.Ks el;have c:∀a∈e,WtG o 115 [exV a] (aj (pcE a)):=λa ha=>Sb hS hP (szE a) a (q+1) (l0 _) (by have:=Src.se ha;omega) (Src.ka bl ha) (Src.eN b7 ha);have hE:=qe (l:=e) a6 c;have hT:=zO (l:=th) (q:=q+1) a6 λa ha=>Q a (q+1) (by have:=Src.kO ha;omega) a6 (Src.fZ n ha) (kS b' ha);have hL:=zO (l:=el) (q:=q+1) a6 λa ha=>Q a (q+1) (by have:=Src.kO ha;omega) a6 (Src.fZ c4 ha) (kS Y ha);intro B P W g ob hB hf h hl;refine KU o B [125,121] Tryz.func42 rfl [] Wk hf λO bo s0 w0=>?_;obtain⟨a,ha,ho⟩:=h.obj;have w:=tl5 hB;have H:=th5 hB;have J:=tl1 hB;have p:=th1 hB;have b4:z (ind q)=2*q:=by simp[ind]
 unfold cp at d;unfold smV;simp only[smD,aA,cT,l9,v8];by_cases m:kind=4\/kind=5
 .have f:=Sc (name:=name) m j hE hT hL a6
  unfold smV at f;simp only[smD,aA,cT,l9,v8]at f;obtain⟨out,I⟩:∃out,prS q (.mk kind name e th el)=out:=⟨_,rfl⟩
  rw[I]at f hl|-;clear d hE hT hL c Q;rcases m with rfl|rfl
  all_goals
   simp only[go_sem,h.gen,ho,w,H,J,p];refine dt f rfl Wh (B+200) a6 (frB (g:=g) (g':=Am.upd g (B+4) 0) hf λ_ _ _=>⟨rfl,rfl⟩) (h.upd hB 4 _ _) Wj ?_;intro g1 ad ca bz;have e1:=aW hB bz 4;simp only[go_sem,e1.1,e1.2];exact⟨_,ae.refl _,dZ hB (by simpa only[l6,u7,x9]using ca) (qj bz)⟩
 have u:=hE;unfold dE at hE;clear hT hL Q;by_cases k1:kind=1
 .subst k1
  have b:e≠[]:=λh0=>by subst h0;simp at d
  rw[Src.st1 b]at hl|-;simp only[j4,j6,j7]at hl;simp only[go_sem,h.gen,ho,w,H,J,p];refine⟨a6,?_⟩;refine du aL (kR q (name++[32,61,32]) a6) rfl Wh Wh (B+200) a6 (frB (g:=g) (g':=Am.upd g (B+4) 0) hf λ_ _ _=>⟨rfl,rfl⟩) (h.upd hB 4 _ _) Wj ?_;intro g1 ad ca bz;have e1:=aW hB bz 4;simp only[go_sem,e1.1,e1.2];refine dt hE rfl Wh (B+200) a6 (frB hf bz) ca Wj ?_;intro g2 b3 cb A;have e2:=x6 ((aW hB A 4).1.trans e1.1) ((aW hB A 4).2.trans e1.2);simp only[go_sem,e2.1,e2.2];refine du aL (uy [59]) rfl Wh Wh (B+200) a6 (frB hf (al bz A)) cb Wj ?_;intro g3 cf bf bd;have e3:=x6 ((aW hB bd 4).1.trans e2.1) ((aW hB bd 4).2.trans e2.2);exact ys
 by_cases k2:kind=2
 .subst k2
  obtain⟨x,y,rfl⟩:∃x y,e=[x,y]:=by
   match e,d with
   |[x,y],_=>exact⟨x,y,rfl⟩
   |[],hf=>simp at hf
   |[_],hf=>simp at hf
   |_::_::_::_,hf=>simp at hf
  have hX:=qe (l:=[x]) a8 (λa ha=>c a Yo);have k:=qe (l:=[y]) a8 (λa ha=>c a Yo);unfold dE at hX k;have h5:∀X∈[exD x,exD y],z X=5:=λX hz=>by simp at hz;rcases hz with rfl|rfl<;>exact dD _
  simp only[l9,v8]at hX k|-;rw[Src.st2]at hl|-;simp only[j4,j6,j7]at hl;simp only[go_sem,h.gen,ho,w,H,J,p];refine⟨a6,?_⟩;refine du aL (kR q (name++[91]) a6) rfl Wh Wh (B+200) a6 (frB (g:=g) (g':=Am.upd g (B+4) 0) hf λ_ _ _=>⟨rfl,rfl⟩) (h.upd hB 4 _ _) Wj ?_;intro g1 ad ca bz;have e1:=aW hB bz 4;simp only[go_sem,e1.1,e1.2];refine⟨h5,?_⟩;refine dt hX rfl Wh (B+200) a6 (frB hf bz) ca Wj ?_;intro g2 b3 cb A;have e2:=x6 ((aW hB A 4).1.trans e1.1) ((aW hB A 4).2.trans e1.2);obtain⟨c2,b5,cz⟩:=cb.obj;simp only[go_sem,e2.1,e2.2,cb.gen,cz];refine mb (P:=P) aL rfl [93,32,61,32] Wh cb Wj ?_;intro g3 cf bf bd;have e3:=x6 ((aW hB bd 4).1.trans e2.1) ((aW hB bd 4).2.trans e2.2);simp only[go_sem,e3.1,e3.2];refine⟨h5,?_⟩;refine dt k rfl Wh (B+200) a6 (frB hf (al (al bz A) bd)) bf Wj ?_;intro g4 c0 an v;have K:=x6 ((aW hB v 4).1.trans e3.1) ((aW hB v 4).2.trans e3.2);simp only[go_sem,K.1,K.2];refine du aL (uy [59]) rfl Wh Wh (B+200) a6 (frB hf (al (al (al bz A) bd) v)) an Wj ?_;intro g5 c' b6 G;have e5:=x6 ((aW hB G 4).1.trans K.1) ((aW hB G 4).2.trans K.2);simp only[go_sem,e5.1,e5.2];exact⟨_,ae.refl _,dZ hB Yq (qj (al (al (al (al bz A) bd) v) G))⟩
 by_cases k3:kind=3
 .subst k3
  rw[Src.st3]at hl|-;simp only[j4,j6,j7]at hl;simp only[go_sem,h.gen,ho,w,H,J,p];refine du aL (kR q [112,117,116,40] a6) rfl Wh Wh (B+200) a6 (frB (g:=g) (g':=Am.upd g (B+4) 0) hf λ_ _ _=>⟨rfl,rfl⟩) (h.upd hB 4 _ _) Wj ?_;exact Wc
 by_cases r:kind=6
 .subst r
  rw[Src.st6]at hl|-;simp only[j4,j6,j7]at hl;simp only[go_sem,h.gen,ho,w,H,J,p];refine⟨a6,?_⟩;refine du aL (kR q (name++[40]) a6) rfl Wh Wh (B+200) a6 (frB (g:=g) (g':=Am.upd g (B+4) 0) hf λ_ _ _=>⟨rfl,rfl⟩) (h.upd hB 4 _ _) Wj ?_;exact Wc
 have U:kind=7:=by
  by_cases U:kind=7
  .exact U
  .rw[j8 k1,j8 k2,j8 k3,j8 a6,j8 a6,j8 r,j8 U]at d;cases d
 subst U;rw[Src.st7]at hl|-;by_cases E:e=[]
 .subst E
  rw[l7 rfl]at hl|-;simp only[j4,j6,j7]at hl;simp only[go_sem,h.gen,ho,w,H,J,p];refine du aL (kR q [114,101,116,117,114,110] a6) rfl Wh Wh (B+200) a6 (frB (g:=g) (g':=Am.upd g (B+4) 0) hf λ_ _ _=>⟨rfl,rfl⟩) (h.upd hB 4 _ _) Wj ?_;intro g1 ad ca bz;have e1:=aW hB bz 4;simp only[go_sem,e1.1,e1.2,j7,v8];refine du aL (uy [59]) rfl Wh Wh (B+200) a6 (frB hf bz) ca Wj ?_;intro g2 b3 cb A;have e2:=x6 ((aW hB A 4).1.trans e1.1) ((aW hB A 4).2.trans e1.2);exact U6
 .have c6:(0:Int)<(z e:Int):=by have:=H7.2 E;omega
  rw[j8 E]at hl|-;simp only[j4,j6,j7]at hl;simp only[go_sem,h.gen,ho,w,H,J,p];refine du aL (kR q [114,101,116,117,114,110] a6) rfl Wh Wh (B+200) a6 (frB (g:=g) (g':=Am.upd g (B+4) 0) hf λ_ _ _=>⟨rfl,rfl⟩) (h.upd hB 4 _ _) Wj ?_;intro g1 ad ca bz;have e1:=aW hB bz 4;obtain⟨c1,L,t⟩:=ca.obj;simp only[go_sem,e1.1,e1.2,ca.gen,t,j5,c6];refine mb (P:=P) aL rfl [32] Wh ca Wj ?_;intro g2 b3 cb A;have e2:=x6 ((aW hB A 4).1.trans e1.1) ((aW hB A 4).2.trans e1.2);simp only[go_sem,e2.1,e2.2];refine dt hE rfl Wh (B+200) a6 (frB hf (al bz A)) cb Wj ?_;intro g3 cf bf bd;have e3:=x6 ((aW hB bd 4).1.trans e2.1) ((aW hB bd 4).2.trans e2.2);simp only[go_sem,e3.1,e3.2];refine du aL (uy [59]) rfl Wh Wh (B+200) a6 (frB hf (al (al bz A) bd)) bf Wj ?_;intro g4 c0 an v;have K:=x6 ((aW hB v 4).1.trans e3.1) ((aW hB v 4).2.trans e3.2);simp only[go_sem,K.1,K.2];exact⟨_,ae.refl _,dZ hB (by simpa only[l6,u7,x9]using an) (qj (al (al (al bz A) bd) v))⟩
end
end Go.Proofs.YtednjibjomfhfaaGreatDoor
namespace Go.Src
section
open Go.Asm (Str)
def join_eq:∀l:List Str,Lib.join l [44,32]=ig l
 |[]=>rfl
 |[a]=>by simp[Lib.join,ig,List.intercalate]
 |a::b::l=>by
   have c:=join_eq (b::l)
   have e:Lib.join (a::b::l) [44,32]=a++[44,32]++Lib.join (b::l) [44,32]:=by
    unfold Lib.join;simp[List.intercalate,List.intersperse]
   rw[e,c];simp[ig]
end
end Go.Src
namespace Go.Proofs.YtednjibjomfhfaaGreatDoor
section
open Go Go.Am Go.Asm Go.RowKit Go.Shelf
open Go.Src (ig)
attribute[local congr]ite_cc
def Hf{W:Str}{G f P:Nat}{g:Nat->Nat}{ob:Obs}(h:Tap G f P W g ob)(b:W≠[])(hl:z W<=1000000000):jl Tryz.prog 19 [.one (.ptr G P 0)] g ob (λr g' Z=>r=sv W/\g'=g/\∀i,i≠f->Z i=ob i):=by
 refine hdF 0 Tryz.func19 rfl [2] ?_;obtain⟨q,u,⟨a,w,ho⟩,t,e,bl⟩:=h;simp only[go_sem];refine fV aR mixed [f] [([0],[],[],F),([3],[],[],F),([4],[],[],F),([5],[],[],F),([6],[],[],F),([0],[],[],F),([8],[],[],F),([9],[],[],F),([10],[],[],F),([11],[],[],F),([7,12],[],[0],F),([13],[],[],T)] 1 b9 rfl a8 ?_;simp only[go_sem]
 iterate 4 (apply aM;· (intro m n o d J;simp only[go_sem,q,ho]at J|-;exact J))
 refine aM (v:=.one (.ptr f (g f) 0)) (λm n o d J=>?_) ?_
 .simp only[go_sem]at J|-
  refine HF (k:=bx d) rfl Wt rfl (by simp only[go_sem,e]) (by cases W;exact absurd rfl b;simp) ?_;exact Uh
 iterate 5 (apply aM;· (intro m n o d J;simp only[go_sem,q,ho,e]at J|-;exact J))
 have c:upd g f (g f)=g:=by funext j;simp only[upd];split<;>simp_all
 refine cX (v:=sv W) (x:=g f) (y:=N) (λm n o d J=>?_) ?_
 .simp only[go_sem,c,N5]at J|-
  refine FR (k:=bx d) rfl Vl Rl (l:=W) Wh Wh rfl t e (by rw[s6 a8];rfl) b a6 ?_;exact Uh
 simp only[go_sem,c,N5];apply db;intro d s;simp only[go_sem];refine s _ ?_;clear s d;simp only[go_sem];refine⟨_,ae.refl _,by simp only[lM,upd];rfl,rfl,λi p=>?_⟩;simp[upd,p]
def Se:Builder.Extra Tryz.prog ux where
 sizeBuilder:=c8
 liesBuilder:=c8
 t5:=Tryz.underlying5
 a5:=Tryz.isAgg5
 z5:=Tryz.sizeOf5
 v5:=Tryz.zeroValue5
 infoByte:=c8
 cellsByte:=c8
 sizeByte:=c8
 neB5:=a7
def zP(l:List Str)(a:z l<=1000000)(hl:z (ig l)<=1000000000):aF Tryz.prog 16 [.one (.d (.sl (l.map λw=>[.str w]))),sv [44,32]] (·=sv (ig l)):=by
 have h:=CX Oi Se (f:=16) rfl ⟨_,Tryz.func16,rfl,c9⟩ l [44,32] a6 (by rw[Src.join_eq];omega);rw[Src.join_eq]at h;exact h
end
section
open Go Go.Am Go.Asm Go.RowKit
open Go.Src (fb aN ig rf oe prF ss kD ind cD cI)
attribute[local congr]ite_cc
section
section
variable{o:cg}{O:Bs}{rd:Option Nat}{bo:Am.Loc}{s0:St}{w0:World}{B0:Nat}{Ψ:fW}{op:Oper}{s:St}{K:St->Prop}{k:Box K}{args:Array Operand}{tys:Array TypeId}{P:Nat}{W:Str}
def KY{f:FuncId}{xs:List AV}{out:Str}(hf:WtG o f xs out)(ho:op.op=.call ⟨.value (.func f),args,tys⟩)(I:args.toList.map s.ev=.one (.ptr 125 P 0)::xs)(B:Nat)(hB:200<=B)(L:∀i,B<=i->s.obj i=N)(h:Tp P W s.gen s.obj)(hl:z W+z out<=1000000000)
 (b:∀a Z,Tp P (W++out) a Z->(∀i,i≠125->i≠121->a i=s.gen i/\Z i=s.obj i)->K (St.put ⟨s.f,a,Z⟩ op.dst uv)):bu (spF Tryz.prog rd O (FT 4 o O bo s0 w0) B0 Ψ) op s k:=
 sE (X:=4) (o:=o) aG (λ_ _ _ _ h=>h.1) ho XU λr a Z c=>by obtain⟨rfl,U,Y⟩:=c;exact b a Z U Y
end
def KZ{P:Program}{rd:Option Nat}{O:Bs}{b:St->Am.Loc->List Deferred->World->Prop}{B0:Nat}{Ψ:fW}(a1:br O b){o:Oper}{s:St}(d:St){K:St->Prop}{k:Box K}(hv:ae s d)(h:bu (spF P rd O b B0 Ψ) o d k):bu (spF P rd O b B0 Ψ) o s k:=by
 exact S1
structure PrI (p:Src.Prog) (P g3:Nat) (W:Str) (s:St):Prop where
 f1:s.f 1=.one (.ptr 123 g3 0)
 f3:s.f 3=.one (.ptr 125 P 0)
 f4:s.f 4=.one (.clo 1000015 [.ptr 125 P 0])
 g3:s.gen 123=g3
 o3:s.obj 123=some (iu p)
 tp:Tp P W s.gen s.obj
 fr:∀i,222<=i->s.obj i=none
def PrI.keep{p:Src.Prog}{P g3:Nat}{W o:Str}{s a:St}(h:PrI p P g3 W s)(hf:a.f 1=s.f 1/\a.f 3=s.f 3/\a.f 4=s.f 4)(c:Tp P o a.gen a.obj)(b:∀i,i≠125->i≠121->i≠128->i≠130->a.gen i=s.gen i/\a.obj i=s.obj i):PrI p P g3 o a:=
 ⟨hf.1.trans h.f1,hf.2.1.trans h.f3,hf.2.2.trans h.f4,(b 123 a7 a7 a7 a7).1.trans h.g3,(b 123 a7 a7 a7 a7).2.trans h.o3,c,λi d=>(b i a6 a6 a6 a6).2.trans (h.fr i d)⟩
variable{g:Nat->Nat}
def Tp.updi{P:Nat}{W:Str}{ob:Obs}(h:Tp P W g ob)(i:Nat)(Q:125≠i)(n2:121≠i)(x:Nat)(y:Option (List C)):Tp P W (Am.upd g i x) (Am.upd ob i y):=by
 obtain⟨hg,cm,⟨a,ha,ho⟩,b5,hi,bl⟩:=h;exact UK
def Tp.upi2{P:Nat}{W:Str}{ob:Obs}(h:Tp P W g ob)(i:Nat)(Q:125≠i)(a:121≠i)(x:Nat)(y X:Option (List C)):Tp P W (Am.upd g i x) (Am.upd (Am.upd ob i y) i X):=by
 have e:Am.upd (Am.upd ob i y) i X=Am.upd ob i X:=by funext j;simp only[Am.upd];split<;>rfl
 rw[e];exact h.updi i Q a x X
def Cv:ind 0=[]:=rfl
def Om{o:cg}(hS:He o)(hP:By o)(p:Src.Prog)(V:cD p=T)(hn:Src.xe p)(bc:z p.vars+z p.arrays+z p.funcs+(p.funcs.map λf=>z f.params+z f.locals+Src.aE f.body).sum<=90)(hl:z (kD p)<=1000000):bP Tryz.prog 4 o 6 [cn p] (·=sv (kD p)):=by
 refine ry 122 4 o aR mixed Tryz.func6 rfl c9 [.tmp 2] rfl c8 c8 (by simp[Tryz.ntmps6]) λO bo s0 w0 g=>?_;obtain⟨P,E⟩:∃x,x=nxC 54 (g 125):=⟨_,rfl⟩
 obtain⟨g3,y⟩:∃x,x=nxC 27 (g 123):=⟨_,rfl⟩
 have cm:code P=54:=by rw[E];exact xn _ a7
 obtain⟨W1,bk⟩:∃x,x=rf [] p.vars:=⟨_,rfl⟩
 unfold Src.kD at hl;rw[<-bk,j4,j4]at hl;have X:kD p=W1++p.arrays.flatMap oe++p.funcs.flatMap prF:=by rw[bk];rfl
 rw[X]
 have W:∀x,Tp P [] (Am.upd (Am.upd (Am.upd g 123 x) 125 P) 121 (nxC 6 (g 121))) (Am.upd (Am.upd (Am.upd (Am.upd (λ_=>N) 123 (S (iu p))) 125 (S [.d .nilp,.d .nsl])) 125 (S [.d .nilp,.osl 121 (nxC 6 (g 121)) 1 0 0])) 121 (S [])):=λx=>
  ⟨by simp[Am.upd],cm,⟨.d .nilp,.inl rfl,by simp[Am.upd]⟩,by simp[Am.upd,xn],by simp[Am.upd],a7⟩
 have b':iu p=[C.d (D.sl (List.map (λs=>[D.str s]) p.vars)),C.d (D.sl (List.map arD p.arrays)),C.d (D.sl (List.map fnD p.funcs))]:=rfl;unfold cn je;by_cases hv:p.vars=[]
 case' pos=>
  have ds:W1=[]:=by rw[bk,hv];rfl
  rw[hv];simp only[go_sem,v8,j7];rw[<-E,<-y];refine Fb _ (xC (t:=3) (c:=6) (o:=125) (b:=121) (j:=1) (sz:=1) (cells:=[.d .nilp,.d .nsl]) (.inl ⟨0,by simp only[go_sem]⟩) Wh rfl a7) (λk K=>PrI p P g3 (W1++(p.arrays.take k).flatMap oe) K/\K.f 23=.one (.d (.sl (p.arrays.map arD)))/\K.f 24=iv .i64 (z p.arrays)/\K.f 25=iv .i64 k) (z p.arrays) ?_ ?_
  .simp only[St.claimC]
   refine⟨⟨by simp only[go_sem],by simp only[go_sem],by simp only[go_sem],by simp only[go_sem],by simp only[go_sem,b',hv],by have dk:=W g3;rw[b',hv]at dk;rw[ds];exact dk,λi hi=>by (try simp only[Am.upd]);repeat (rw[j8 (by omega)])⟩,by simp only[go_sem],by simp only[go_sem],by simp only[go_sem]⟩
 case' neg=>
  have c1:(0:Int)<(z p.vars:Int):=by have:=H7.2 hv;omega
  simp only[go_sem,j5,c1];rw[<-E,<-y];refine KZ aG _ (xC (t:=3) (c:=6) (o:=125) (b:=121) (j:=1) (sz:=1) (cells:=[.d .nilp,.d .nsl]) (.inl ⟨0,by simp only[go_sem]⟩) Wh rfl a7) ?_;simp only[St.claimC];have dz:z (rf [] p.vars)=z (ig p.vars)+6:=by unfold rf;rw[j8 hv];simp
  rw[<-bk]at dz;refine cK rfl (by simp only[go_sem];exact(zP p.vars a6 a6).toG) ?_;rintro _ rfl;simp only[go_sem];refine⟨a6,a6,?_⟩;refine du aG (pF 0 ([118,97,114,32]++ig p.vars++[59]) a6) rfl Wh Wh 222 a7 (λi hi=>by (try simp only[Am.upd]);repeat (rw[j8 (by omega)])) (W g3) (by simp[Cv];omega) ?_;intro g1 ad ca bz;have d':([]:Str)++(ind 0++([118,97,114,32]++ig p.vars++[59])++[10])=W1:=by rw[bk];unfold rf;rw[j8 hv];simp[Cv]
  rw[d']at ca;have h:=bz 123 a7 a7;simp only[Am.upd]at h;simp only[go_sem,h.1,h.2];refine dF (λk K=>PrI p P g3 (W1++(p.arrays.take k).flatMap oe) K/\K.f 23=.one (.d (.sl (p.arrays.map arD)))/\K.f 24=iv .i64 (z p.arrays)/\K.f 25=iv .i64 k) (z p.arrays) ?_ ?_
  .refine⟨⟨by simp only[go_sem],by simp only[go_sem],by simp only[go_sem],by simp only[go_sem,h.1],by simp only[go_sem,h.2,b'],by rw[F6,H5,s5];exact ca,λi hi=>(bz i a6 a6).2.trans (by (try simp only[Am.upd]);repeat (rw[j8 (by omega)]))⟩,by simp only[go_sem],by simp only[go_sem,j5],by simp only[go_sem]⟩
 all_goals
  rintro k f g1 ad hk ⟨hI,dx,cv,e⟩;obtain⟨f1,f3,f4,z3,o3,tp,fr⟩:=id hI;simp only at dx cv e f1 f3 f4 z3 o3 tp fr;have hw:=ab (k:=k) a6;by_cases af:k<z p.arrays
  case' pos=>
   have H:(k:Int)<(z p.arrays:Int):=a6;obtain⟨a,a'⟩:=getq af;have hg:=getD_at (f:=arD) a';simp only[arD]at hg;have B:fb a=T:=by unfold cD at V;simp only[l4,x7]at V;exact V.2.1 a (l5 a')
   simp only[fb,aN,l4,s7]at B;have c2:z a.1<=20:=B.1.1.2.1;have dp:z (gg a.2.toNat)<=10:=lf a6;have Q:=zN a' oe;have a1:=KX p.arrays (k+1) oe;rw[Q,j4]at a1;have cc:z (oe a)=_:=congrArg z (show oe a=([97,114,114,97,121,32]++a.1++[91]++gg a.2.toNat++[93,59])++[10]from rfl);have ec:IntKind.u32.wrap a.2=a.2:=by rw[IntKind.wrap_u32];omega
   simp only[go_sem,dx,cv,e,H,hg,j5];refine dS aR mixed aG [] [([4],[],[],F),([6],[],[],F),([30],[],[],F),([31],[],[],F),([32],[],[],F),([6],[],[],F),([34],[],[],F),([35],[],[],F),([36],[],[],F),([33,37],[],[],F),([38],[],[],F),([29,39],[],[],T)] 0 rfl b9 rfl a7 ?_;simp only[go_sem]
   iterate 3 (apply ay;(case hg=>first|exact w8|exact⟨_,rfl,by decide,rfl⟩);(case U=>intro fa ga oa K' J;simp only[go_sem,f4]at J|-;exact J))
   refine ay (v:=sv ([97,114,114,97,121,32]++a.1)) w8 (λfa ga oa K' J=>?_) ?_
   .exact UA
   refine ay (v:=sv ([97,114,114,97,121,32]++a.1++[91])) w8 (λfa ga oa K' J=>?_) ?_
   .exact UA
   iterate 3 (apply ay;(case hg=>first|exact w8|exact⟨_,rfl,by decide,rfl⟩);(case U=>intro fa ga oa K' J;simp only[go_sem,ec]at J|-;exact J))
   refine ay (v:=sv (gg a.2.toNat)) w8 (λfa ga oa K' J=>?_) ?_
   .simp only[go_sem]at J|-
    refine cK rfl (by simp only[go_sem];exact KW hP a6 a6) ?_;exact oC
   refine ay (v:=sv ([97,114,114,97,121,32]++a.1++[91]++gg a.2.toNat)) w8 (λfa ga oa K' J=>?_) ?_
   .exact K5
   refine ay (v:=sv ([97,114,114,97,121,32]++a.1++[91]++gg a.2.toNat++[93,59])) w8 (λfa ga oa K' J=>?_) ?_
   .exact K5
   refine dU w8 ?_;intro K' b0;simp only[go_sem];have ef:W1++(p.arrays.take k).flatMap oe++(ind 0++([97,114,114,97,121,32]++a.1++[91]++gg a.2.toNat++[93,59])++[10])=W1++(p.arrays.take (k+1)).flatMap oe:=by rw[Q,Cv,x9,l6];rfl
   refine du aG (pF 0 ([97,114,114,97,121,32]++a.1++[91]++gg a.2.toNat++[93,59]) a6) rfl Wh Wh 222 a7 (λi hi=>by (try simp only[Am.upd]);(repeat (rw[j8 (by omega)]));exact fr i hi) (tp.upi2 128 (by decide) (by decide) _ _ _) (by rw[Cv];simp only[j4,j6,j7]at cc|-;omega) ?_;intro g2 b3 cb A;rw[ef]at cb;refine b0 _ ?_;clear b0 K';simp only[go_sem,e,hw];refine bM af ?_;simp only[go_sem,dx,cv];refine hI.keep ⟨by simp only[go_sem],by simp only[go_sem],by simp only[go_sem]⟩ cb λi U Y h3 h4=>?_;have:=A i U Y;simp only[Am.upd,j8 h3]at this;exact this
  case' neg=>
   have H:¬(k:Int)<(z p.arrays:Int):=a6;obtain rfl:k=z p.arrays:=a6;rw[F0]at hI tp;simp only[go_sem,cv,e,H,f1,z3,o3,b',j5];refine dF (λk K=>PrI p P g3 ((W1++p.arrays.flatMap oe)++(p.funcs.take k).flatMap prF) K/\K.f 43=.one (.d (.sl (p.funcs.map fnD)))/\K.f 44=iv .i64 (z p.funcs)/\K.f 45=iv .i64 k) (z p.funcs) ?_ ?_
   .refine⟨⟨by simp only[go_sem,f1],by simp only[go_sem,f3],by simp only[go_sem,f4],z3,o3,by rw[F6,H5,s5];exact tp,fr⟩,by simp only[go_sem],by simp only[go_sem,j5],by simp only[go_sem]⟩
   clear hI tp fr f1 f3 f4 z3 o3 dx cv e hw hk af H
 all_goals
  rintro k f g1 ad hk ⟨hI,c7,cz,b5⟩;obtain⟨f1,f3,f4,z3,o3,tp,fr⟩:=id hI;simp only at c7 cz b5 f1 f3 f4 z3 o3 tp fr;have hw:=ab (k:=k) a6;by_cases af:k<z p.funcs
  case' pos=>
   have H:(k:Int)<(z p.funcs:Int):=a6;obtain⟨fn,dc⟩:=getq af;have hg:=getD_at (f:=fnD) dc;have cy:=l5 dc;have b7:cI fn=T:=by unfold cD at V;simp only[l4,x7]at V;exact V.2.2 fn cy
   have cd:=hn fn cy;have Q:=zN dc prF;have a1:=KX p.funcs (k+1) prF;rw[Q,j4]at a1
   have c6:z fn.params+z fn.locals+Src.aE fn.body<=90:=by
    have U:=kK cy;have Y:szP p=z p.vars+z p.arrays+z p.funcs+(p.funcs.map λf=>z f.params+z f.locals+Src.aE f.body).sum:=rfl;omega
   obtain⟨name,params,locals,word,body⟩:=fn;simp only[cI,aN,l4,s7]at b7;simp only at c6 cd;have c4:z name<=20:=b7.1.1.2.1;have cc:z (prF ⟨name,params,locals,word,body⟩)=_:=congrArg z (show prF ⟨name,params,locals,word,body⟩=(([102,117,110,99,32]++name++[40]++ig params++[41])++(if word then [32,119,111,114,100]else [])++[32,123])++[10]++rf (ind 1) locals++Src.ss 1 body++([125]++[10])from rfl);simp only[j4,j6,j7]at cc;simp only[fnD]at hg;have eh:=Src.Ks body;have hT:=zO (l:=body) (q:=1) a6 λa ha=>Sd hS hP (Src.szS a) a 1 (l0 _) (by have:=Src.kO ha;omega) (Src.fZ cd ha) (kS b7.2.2 ha);unfold ed at hT;obtain⟨SB,dd⟩:∃x,x=Src.ss 1 body:=⟨_,rfl⟩
   rw[<-dd]at hT cc;obtain⟨WA,dh⟩:∃x,x=(W1++p.arrays.flatMap oe)++(p.funcs.take k).flatMap prF:=⟨_,rfl⟩
   have ch:z WA<=1000000:=by rw[dh];simp only[j4];omega
   rw[<-dh]at tp;simp only[go_sem,c7,cz,b5,H,hg,j5];refine dS aR mixed aG [] [([8],[],[],F),([49],[],[],F),([50],[],[],F),([51],[],[],F),([8],[],[],F),([53],[],[],F),([54],[],[],F),([52,55],[],[],F),([56],[],[],F),([57],[],[],T)] 0 rfl b9 rfl a7 ?_;simp only[go_sem]
   iterate 2 (apply ay;(case hg=>first|exact w8|exact⟨_,rfl,by decide,rfl⟩);(case U=>intro fa ga oa K' J;simp only[go_sem]at J|-;exact J))
   refine ay (v:=sv ([102,117,110,99,32]++name)) w8 (λfa ga oa K' J=>?_) ?_
   .exact UA
   refine ay (v:=sv ([102,117,110,99,32]++name++[40])) w8 (λfa ga oa K' J=>?_) ?_
   .exact UA
   iterate 2 (apply ay;(case hg=>first|exact w8|exact⟨_,rfl,by decide,rfl⟩);(case U=>intro fa ga oa K' J;simp only[go_sem]at J|-;exact J))
   refine ay (v:=sv (ig params)) w8 (λfa ga oa K' J=>?_) ?_
   .simp only[go_sem]at J|-
    refine cK rfl (by simp only[go_sem];exact(zP params a6 a6).toG) ?_;exact oC
   refine ay (v:=sv ([102,117,110,99,32]++name++[40]++ig params)) w8 (λfa ga oa K' J=>?_) ?_
   .exact K5
   refine ay (v:=sv ([102,117,110,99,32]++name++[40]++ig params++[41])) w8 (λfa ga oa K' J=>?_) ?_
   .exact K5
   refine dU w8 ?_;intro K' b0;simp only[go_sem];refine b0 _ ?_;clear b0 K';have b2:word=F\/word=T:=by cases word<;>simp
   rcases b2 with rfl|rfl
   case' inl=>
    obtain⟨L,hL⟩:∃x:Str,x=[102,117,110,99,32]++name++[40]++ig params++[41]++[32,123]:=⟨_,rfl⟩
    have b1:prF ⟨name,params,locals,F,body⟩=L++[10]++rf (ind 1) locals++SB++([125]++[10]):=by rw[hL,dd];unfold prF;simp
    simp only[go_sem]
   case' inr=>
    obtain⟨L,hL⟩:∃x:Str,x=[102,117,110,99,32]++name++[40]++ig params++[41]++[32,119,111,114,100]++[32,123]:=⟨_,rfl⟩
    have b1:prF ⟨name,params,locals,T,body⟩=L++[10]++rf (ind 1) locals++SB++([125]++[10]):=by rw[hL,dd];unfold prF;simp
    simp only[go_sem];refine⟨by simp only[j4,B7];omega,?_⟩
   all_goals
    have e6:=congrArg z hL;simp only[j4,j6,j7]at e6;rw[b1]at Q cc a1;simp only[j4,j6,j7]at a1;clear b1 cc;refine⟨by simp only[j4,j6,j7];omega,?_⟩;refine du aG (pF 0 L a6) rfl (by simp only[go_sem,f4]) (by simp only[go_sem,hL]) 222 a7 (λi hi=>by (try simp only[Am.upd]);(repeat (rw[j8 (by omega)]));exact fr i hi) (tp.upi2 130 (by decide) (by decide) _ _ _) (by rw[Cv];simp only[j4,j6,j7];omega) ?_;intro g2 b3 cb A;rw[Cv,x9]at cb;have e2:=A 130 a7 a7;simp only[Am.upd,B5]at e2
    have w:∀i,i≠125->i≠121->i≠130->g2 i=g1 i/\b3 i=ad i:=λi U Y h3=>by
     have:=A i U Y;simp only[Am.upd,j8 h3]at this;exact this
    clear A;have b8:∀i,222<=i->b3 i=N:=λi hi=>(w i a6 a6 a6).2.trans (fr i hi);by_cases m:locals=[]
    case' pos=>
     have u:rf (ind 1) locals=[]:=by rw[m];rfl
     have cx:¬(0:Int)<(z locals:Int):=by rw[m];decide
     rw[u]at Q;simp only[go_sem,e2.1,e2.2,j5,cx];have hp:Tp P (WA++(L++[10])++[]) g2 b3:=by rw[s5];exact cb
     have hs:=w;have b4:z (ind 1)=2:=rfl;rw[u]at a1;simp only[j7]at a1
    case' neg=>
     have cx:(0:Int)<(z locals:Int):=by have:=H7.2 m;omega
     have u:rf (ind 1) locals=ind 1++([118,97,114,32]++ig locals++[59])++[10]:=by unfold rf;rw[j8 m]
     have b4:z (ind 1)=2:=rfl;rw[u]at Q a1;simp only[j4,j6,j7,b4]at a1;simp only[go_sem,e2.1,e2.2,j5,cx];refine cK rfl (by simp only[go_sem];exact(zP locals a6 a6).toG) ?_;rintro _ rfl;simp only[go_sem];refine⟨a6,a6,?_⟩;refine du aG (pF 1 ([118,97,114,32]++ig locals++[59]) a6) rfl (by simp only[go_sem,f4]) Wh 222 a7 b8 cb (by simp only[j4,j6,j7,b4];omega) ?_;intro ek cf hp bd;have e3:=bd 130 a7 a7;have e3:=x6 (e3.1.trans e2.1) (e3.2.trans e2.2);have hs:∀i,i≠125->i≠121->i≠130->ek i=g1 i/\cf i=ad i:=λi U Y h3=>⟨(bd i U Y).1.trans (w i U Y h3).1,(bd i U Y).2.trans (w i U Y h3).2⟩
     clear bd;simp only[go_sem,e3.1,e3.2]
    all_goals
     refine KY (P:=P) hT rfl (by simp only[go_sem,f3]) 222 a7 (λi hi=>(hs i a6 a6 a6).2.trans (fr i hi)) hp (by simp only[j4,j6,j7,u,b4];omega) ?_;intro g4 c0 an cu;simp only[go_sem];refine du aG (pF 0 [125] a6) rfl (by simp only[go_sem,f4]) Wh 222 a7 (λi hi=>(cu i a6 a6).2.trans ((hs i a6 a6 a6).2.trans (fr i hi))) an (by simp only[j4,j6,j7,u,b4,Cv];omega) ?_;intro g5 c' b6 G;simp only[go_sem,b5,hw];refine bM af ?_;simp only[go_sem,c7,cz];refine hI.keep ⟨by simp only[go_sem],by simp only[go_sem],by simp only[go_sem]⟩ ?_ λi U Y h3 h4=>⟨(G i U Y).1.trans ((cu i U Y).1.trans (hs i U Y h4).1),(G i U Y).2.trans ((cu i U Y).2.trans (hs i U Y h4).2)⟩
     rw[Q];simpa only[dh,u,Cv,x9,s5,l6]using b6
  case' neg=>
   have H:¬(k:Int)<(z p.funcs:Int):=a6;obtain rfl:k=z p.funcs:=a6;rw[F0]at tp
   have bl:W1++p.arrays.flatMap oe++p.funcs.flatMap prF≠[]:=λh0=>by
    have U:=(K8.1 h0).2;unfold cD at V;simp only[l4,s7]at V;cases hp:p.funcs with
    |nil=>rw[hp]at V;simp at V
    |cons a l=>rw[hp,A1]at U;exact absurd (K8.1 U).1 (by unfold prF;simp)
   have bf:z (W1++p.arrays.flatMap oe++p.funcs.flatMap prF)<=1000000000:=by simp only[j4];omega
   have I:=Hf tp bl bf;obtain⟨a0,av,n⟩:=tp.obj;simp only[go_sem,cz,b5,H,f3,tp.gen,n];refine jc aG rfl (by simp only[go_sem];exact I) ?_;rintro r g' Z ⟨rfl,rfl,bs⟩;simp only[go_sem]
end
end
end Go.Proofs.YtednjibjomfhfaaGreatDoor
namespace Go.Proofs.YtednjibjomfhfaaGreatDoor.Low
section
open Go Go.Am Go.Asm Go.Mach
open Go.Src (cW aE xe qZ kD)
attribute[local congr]ite_cc
def Hh{o:cg}(m:kC o)(q:By o)(t:He o)(p:Src.Prog)(hp:Src.InP p)(hn:xe p)(n:Nat)(A:n<256):bP Tryz.prog 4 o 3 [cn p,iv .u8 n] (·=bv T):=by
 refine hdG Tryz.func3 rfl [.tmp 4] λO bo s0 w0 g=>?_;have hL:=NV (o:=o) p hp 40 a7;have c:=λU Y u=>Om (o:=o) t q p U hn Y u;rw[dn]at hL c|-;simp only[go_sem];refine cK rfl (by simp only[go_sem];exact Nv m) ?_;rintro _ rfl;simp only[go_sem];refine cK rfl WQ ?_;rintro _ ⟨b,rfl,hb⟩;cases b
 .exact hG
 obtain⟨v,bc,_⟩:=hb rfl;have V:=(Src.BK v).1;rw[po]at bc;obtain⟨i,w⟩:∃i,i=n%10:=⟨_,rfl⟩
 have e:i<10:=a6;obtain⟨k,hk⟩:∃k,qZ[i]?=S k:=⟨_,y8 (l:=qZ) e⟩
 obtain⟨a,B⟩:=Src.refuse V hn a6 (l5 hk);have c:=c V a6 a6;have y:=sY m (src:=kD p++([32]++k.2.1)) (GR a);rw[BJ a]at y;unfold Bk at y;rw[<-l6]at y
 have f:(IntKind.i64.wrap (n:Int)).tmod 10=(i:Int):=by
  rw[wrap_i64 _ a6 a6,Int.tmod_eq_emod_of_nonneg a6,w];omega
 have bd:[C.d (D.str [125]),C.d (D.str [59]),C.d (D.str [55]),C.d (D.str [120]),C.d (D.str [112,117,116]),C.d (D.str [40]),C.d (D.str [118,97,114]),C.d (D.str [101,108,115,101]),C.d (D.str [61]),C.d (D.str [38,38])][i]?=S (C.d (D.str k.2.1)):=by
  have:=congrArg (Option.map λk:Src.TK=>C.d (D.str k.2.1)) hk;rw[<-y7]at this;exact this
 have b1:z k.2.1<=4:=(Src.Eb (l5 hk)).2.2;have dh:(0:Int)<=i:=a6;have x:(i:Int)<10:=a6;simp only[go_sem];refine cK rfl (by simp only[go_sem];exact c) ?_;rintro _ rfl;simp only[go_sem,f,bd,dh,x,B6];refine⟨a6,by simp only[j4,B7];omega,?_⟩;refine cK rfl X7 ?_;rintro _ rfl;simp only[go_sem];rw[wrap_i64 _ a6 a6];omega
end
end Go.Proofs.YtednjibjomfhfaaGreatDoor.Low
namespace Go.Am
section
section
section
variable{P:Program}{t:TypeId}{ds:List D}
def fU.inv_bool(h:fU P t ds)(a:P.underlying t=S .bool):∃b,ds=[.bool b]:=by
 cases h with
 |bool _ b=>exact⟨b,rfl⟩
 |int p=>rw[a]at p;cases p
 |str p=>rw[a]at p;cases p
 |sl p=>rw[a]at p;cases p
 |struct p=>rw[a]at p;cases p
 |array p=>rw[a]at p;cases p
def fU.inv_int{k:IntKind}(h:fU P t ds)(a:P.underlying t=S (.int k)):∃m,ds=[.int k m]/\(Lit.int k m).wf=T:=by
 cases h with
 |int p m hw=>rw[a]at p;cases p;exact⟨m,rfl,hw⟩
 |bool p=>rw[a]at p;cases p
 |str p=>rw[a]at p;cases p
 |sl p=>rw[a]at p;cases p
 |struct p=>rw[a]at p;cases p
 |array p=>rw[a]at p;cases p
def fU.inv_str(h:fU P t ds)(a:P.underlying t=S .string):∃s,ds=[.str s]/\z s<=reachBytes:=by
 cases h with
 |str _ s hl=>exact⟨s,rfl,hl⟩
 |bool p=>rw[a]at p;cases p
 |int p=>rw[a]at p;cases p
 |sl p=>rw[a]at p;cases p
 |struct p=>rw[a]at p;cases p
 |array p=>rw[a]at p;cases p
def fU.inv_sl{e:TypeId}(h:fU P t ds)(a:P.underlying t=S (.slice e)):∃es,ds=[.sl es]/\z es*P.bytesOf e<=reachBytes/\∀x∈es,fU P e x:=by
 cases h with
 |sl p es hl b=>rw[a]at p;cases p;exact⟨es,rfl,hl,b⟩
 |bool p=>rw[a]at p;cases p
 |int p=>rw[a]at p;cases p
 |str p=>rw[a]at p;cases p
 |struct p=>rw[a]at p;cases p
 |array p=>rw[a]at p;cases p
def fU.inv_struct{fs:Array Field}(h:fU P t ds)(a:P.underlying t=S (.struct fs)):∃o:List (List D),ds=o.flatten/\z o=z fs.toList/\∀(i:Nat)(f:Field)(x:List D),fs.toList[i]?=S f->o[i]?=S x->fU P f.type x:=by
 cases h with
 |struct p o hl b=>rw[a]at p;cases p;exact⟨o,rfl,hl,b⟩
 |bool p=>rw[a]at p;cases p
 |int p=>rw[a]at p;cases p
 |str p=>rw[a]at p;cases p
 |sl p=>rw[a]at p;cases p
 |array p=>rw[a]at p;cases p
def pM{b β:Type}{f:β->b}{Q:β->Prop}:∀{l:List b},(∀x∈l,∃y,x=f y/\Q y)->∃m:List β,l=m.map f/\∀y∈m,Q y
 |[],_=>⟨[],rfl,λ_ h=>by cases h⟩
 |x::l,h=>by
   obtain⟨y,rfl,c⟩:=h x a8;obtain⟨m,rfl,d⟩:=pM (l:=l) λx I=>h x Xs
   exact⟨y::m,rfl,λX a=>by
    rcases y9.1 a with rfl|a
    .exact c
    .exact d X a⟩
end
end
end
end Go.Am
namespace Go.Proofs.YtednjibjomfhfaaGreatDoor
section
open Go Go.Am Go.ChangeShapes Go.WideShapes Go.ChangeAt Go.RowKit Go.Lib
section
def own:ownKnob Tryz.prog.godebug=N:=c8
def laidOut:laidOutB Tryz.prog=T:=c8
def um:List (String×DataW Unit):=[("math/bits.deBruijn32tab",Rows.laid_math_bits_deBruijn32tab),("math/bits.deBruijn64tab",Rows.laid_math_bits_deBruijn64tab),("internal/strconv.uint64pow10",Rows.laid_internal_strconv_uint64pow10),("seedcorn/token.words",Rows.laid_seedcorn_token_words),("seedcorn/token.signs",Rows.laid_seedcorn_token_signs),("seedcorn/syntax.signs",Rows.laid_seedcorn_syntax_signs)]
def JY:reachBytes=140737488351232:=c8
def u9:Tryz.prog.underlying 9=S .string:=c8
def u4:Tryz.prog.underlying 4=S .bool:=c8
def u3:Tryz.prog.underlying 3=S (.int .i64):=c8
def u57:Tryz.prog.underlying 57=S (.int .u32):=c8
def u97:Tryz.prog.underlying 97=S (.int .u64):=c8
def u5:Tryz.prog.underlying 5=S (.int .u8):=c8
def tys:List TypeId:=[3,4,5,9,22,23,24,26,45,57,58,60,98,100,187]
def qQ:uM Tryz.prog tys=T:=c8
variable{P:Program}
def mm{H:Type}{enc:TypeId×Value->H}{w:World}{base:Nat}{sp:Nat->Bool}{B:Bool}{q:Nat}{t e:TypeId}{n:Nat}{cs:List Value}{m:List (List UInt8)}{p:List MemPlace}
 (g:P.underlying t=S (.array n e))(j:P.underlying e=S .string)(r:P.cellsOf e=1)(a:P.cellsOf t=n)
 (h:DataW.trod enc P w base sp B q t cs=S (DataW.agg (m.map λX=>.lit (.string X)),p)):∀(i:Nat)X,m[i]?=S X->cs[i]?=S (.string ⟨X.toArray⟩):=by
 cases q with
 |zero=>simp[DataW.trod]at h
 |succ q=>
   simp only[DataW.trod,g,r,a,K9]at h;split at h
   .obtain⟨c,d,I⟩:=H4.1 h
    have u:c.map (·.1)=m.map λX=>(DataW.lit (.string X):DataW H):=by
     have:=congrArg Prod.fst I;exact Um
    have x:z c=n:=by simpa using mapM_length d
    have A:z m=n:=by
     have:=congrArg z u;simp at this;omega
    intro i X f
    have k:i<n:=by
     have:=(l8.1 f).1;omega
    obtain⟨b,l,o⟩:=mapM_at d i i (by simp[k]);obtain⟨s,v,rfl,_⟩:=DataW.trod_string j o
    have U:cs[i]?=S (.string s):=by
     have:=congrArg (·[0]?) v;simpa[Hl,G6]using this
    have Y:(c.map (·.1))[i]?=S (DataW.lit (.string s.data.toList):DataW H):=by simp[l]
    rw[u,y7,f]at Y;have y:X=s.data.toList:=by simpa using Y
    rw[U,y]
   .cases h
def JZ{W w:World}{n:String}{g:Nat}(a:P.globalNamed n=S g)(b:w.heap[g]?=W.heap[g]?):w.var? P n=W.var? P n:=by
 unfold World.var?;rw[a];show (match w.heap[g]? with|some (.cells cs _ _)=>S cs|_=>N)=(match W.heap[g]? with|some (.cells cs _ _)=>S cs|_=>N)
 rw[b]
def GS{W:World}(h:laidMetH Tryz.prog um W):∃o,qC 4 o W/\By o/\kC o/\He o:=by
 rw[MakeChecks.laidMetH_plain _ _ _ c8]at h
 have j:TabIs Tryz.prog W "internal/strconv.uint64pow10" .u64 pow10Tab:=by
  obtain⟨g,t,x,q,p,l,bk,f,hd⟩:=laidMet.reads h (n:= "internal/strconv.uint64pow10") (d:=Rows.laid_internal_strconv_uint64pow10) (by simp[um]);obtain rfl:=E8 ((show Tryz.prog.globalNamed "internal/strconv.uint64pow10" = S 1 by kernel_rfl).symm.trans l);obtain rfl:=E8 ((show (Tryz.prog.globals[1]?).map (·.type)=S 272 by kernel_rfl).symm.trans bk);have y:=cells_of_tab (show Tryz.prog.underlying 272=S (.array 20 97) by kernel_rfl) u97 c8 c8 (show DataW.trod _ _ _ _ _ _ _ _ _=S (tabData .u64 pow10Tab,_) from hd);unfold TabIs;rw[f,<-y]
 have e:∀(i:Nat)X,Ol[i]?=S X->W.cell? ⟨3,i,N⟩=S (.string ⟨X.toArray⟩):=by
  obtain⟨g,t,x,q,p,l,bk,f,hd⟩:=laidMet.reads h (n:= "seedcorn/syntax.signs") (d:=Rows.laid_seedcorn_syntax_signs) (by simp[um]);obtain rfl:=E8 ((show Tryz.prog.globalNamed "seedcorn/syntax.signs" = S 3 by kernel_rfl).symm.trans l);obtain rfl:=E8 ((show (Tryz.prog.globals[3]?).map (·.type)=S 298 by kernel_rfl).symm.trans bk);intro i X s;have u:=mm (H:=Unit) (m:=Ol) (show Tryz.prog.underlying 298=S (.array 12 9) by kernel_rfl) u9 c8 c8 hd i X s;rw[World.var?_cell l f i,<-G8];exact u
 have a:∀(i:Nat)X,Src.gW[i]?=S X->W.cell? ⟨4,i,N⟩=S (.string ⟨X.toArray⟩):=by
  obtain⟨g,t,x,q,p,l,bk,f,hd⟩:=laidMet.reads h (n:= "seedcorn/token.words") (d:=Rows.laid_seedcorn_token_words) (by simp[um]);obtain rfl:=E8 ((show Tryz.prog.globalNamed "seedcorn/token.words" = S 4 by kernel_rfl).symm.trans l);obtain rfl:=E8 ((show (Tryz.prog.globals[4]?).map (·.type)=S 301 by kernel_rfl).symm.trans bk);intro i X s;have u:=mm (H:=Unit) (m:=Src.gW) (show Tryz.prog.underlying 301=S (.array 10 9) by kernel_rfl) u9 c8 c8 hd i X s;rw[World.var?_cell l f i,<-G8];exact u
 have c:∀(i:Nat)X,Src.nD[i]?=S X->W.cell? ⟨2,i,N⟩=S (.string ⟨X.toArray⟩):=by
  obtain⟨g,t,x,q,p,l,bk,f,hd⟩:=laidMet.reads h (n:= "seedcorn/token.signs") (d:=Rows.laid_seedcorn_token_signs) (by simp[um]);obtain rfl:=E8 ((show Tryz.prog.globalNamed "seedcorn/token.signs" = S 2 by kernel_rfl).symm.trans l);obtain rfl:=E8 ((show (Tryz.prog.globals[2]?).map (·.type)=S 276 by kernel_rfl).symm.trans bk);intro i X s;have u:=mm (H:=Unit) (m:=Src.nD) (show Tryz.prog.underlying 276=S (.array 24 9) by kernel_rfl) u9 c8 c8 hd i X s;rw[World.var?_cell l f i,<-G8];exact u
 have A:=a 0 _ rfl
 have B:4<W.heap.size:=by
  refine Nat.lt_of_not_le λE=>?_;simp[World.cell?,J0 E]at A
 refine⟨λb=>W.heap[b]?,⟨B,λ_ _=>rfl⟩,λw r=>?_,λw r=>⟨λi t v=>?_,λi t v=>?_⟩,λw r i t v=>?_⟩
 .unfold TabIs
  rw[JZ (show Tryz.prog.globalNamed "internal/strconv.uint64pow10" = S 1 by kernel_rfl) (r.2 1 a7)];exact j
 .rw[<-a i t v]
  unfold World.cell?;rw[show w.heap[4]?=W.heap[4]? from r.2 4 a7]
 .rw[<-c i t v]
  unfold World.cell?;rw[show w.heap[2]?=W.heap[2]? from r.2 2 a7]
 .rw[<-e i t v]
  unfold World.cell?;rw[show w.heap[3]?=W.heap[3]? from r.2 3 a7]
end
end
section
open Go Go.Am Go.Asm
open Go.Src (Ex Stm inE rN inS qM)
section
def Rw{v:Value}{cs:List Value}{n:Nat}(h:v.cells.toList=cs)(hl:z cs=n+2):v=.agg cs.toArray:=by
 subst h;cases v with
 |agg vs=>simp[Value.cells]
 |_=>simp[Value.cells]at hl
def u49:Tryz.prog.underlying 98=S (.slice 187):=c8
def u51:Tryz.prog.underlying 187=S (Tt 187).desc:=c8
def u52:Tryz.prog.underlying 58=S (.slice 100):=c8
def u54:Tryz.prog.underlying 100=S (Tt 100).desc:=c8
def u22:Tryz.prog.underlying 22=S (.slice 9):=c8
def u23:Tryz.prog.underlying 23=S (.slice 45):=c8
def u65:Tryz.prog.underlying 45=S (Tt 45).desc:=c8
def u24:Tryz.prog.underlying 24=S (.slice 60):=c8
def u56:Tryz.prog.underlying 60=S (Tt 60).desc:=c8
def u26:Tryz.prog.underlying 26=S (Tt 26).desc:=c8
def wA{n b:Nat}(h:n*b<=reachBytes)(a:Nat.ble 1 b=T):n<=1000000000000000000:=by
 have U:=H2 a;have Y:n<=n*b:=Sn _ U;rw[JY]at h;omega
def Fo:∀{l:List Ex},(∀e∈l,inE e/\Src.uE e)->rN l/\Src.qm l
 |[],_=>⟨trivial,trivial⟩
 |e::l,h=>by
   have U:=h e a8;have Y:=Fo (l:=l) λx I=>h x Xs;exact⟨⟨U.1,Y.1⟩,U.2,Y.2⟩
def Fp:∀{l:List Stm},(∀e∈l,inS e/\Src.AA e)->qM l/\Src.oX l
 |[],_=>⟨trivial,trivial⟩
 |e::l,h=>by
   have U:=h e a8;have Y:=Fp (l:=l) λx I=>h x Xs;exact⟨⟨U.1,Y.1⟩,U.2,Y.2⟩
def Rx{m:Int}(h:(Lit.int .u32 m).wf=T):0<=m/\m<4294967296:=by
 simp only[Lit.wf,l4,s7]at h;have a:IntKind.u32.min=0:=rfl;have b:IntKind.u32.max=4294967295:=rfl;omega
def five{f:Type}{l:List f}(h:z l=5):∃a b c d e,l=[a,b,c,d,e]:=by
 match l,h with
 |[a,b,c,d,e],_=>exact⟨a,b,c,d,e,rfl⟩
variable{ds:List D}
def Ry{t:TypeId}(h:fU Tryz.prog t ds):(t=187->∃e,ds=exD e/\inE e/\Src.uE e)/\(t=98->∃l:List Ex,ds=[.sl (l.map exD)]/\z l<=1000000000000000000/\rN l/\Src.qm l):=by
 induction h with
 |bool hu=>exact⟨λe=>Xh,λe=>Xi⟩
 |int hu=>exact⟨λe=>Xh,λe=>Xi⟩
 |str hu=>exact⟨λe=>Xh,λe=>Xi⟩
 |array hu=>exact⟨λe=>Xh,λe=>Xi⟩
 |sl hu es hl h g=>
   refine⟨λe=>Xh,λe=>?_⟩;subst e;rw[u49]at hu;cases hu;obtain⟨l,rfl,i⟩:=pM (f:=exD) (Q:=λe=>inE e/\Src.uE e) λx I=>(g x I).1 rfl;rw[j5]at hl;obtain⟨a,b⟩:=Fo i;exact⟨l,rfl,wA hl c8,a,b⟩
 |struct hu parts hl h g=>
   refine⟨λe=>?_,λe=>Xi⟩;subst e;rw[u51]at hu;cases hu;obtain⟨a,b,c,d,e,rfl⟩:=five hl;obtain⟨j,rfl,_⟩:=(h 0 _ a rfl rfl).inv_int u3;obtain⟨k,rfl,_⟩:=(h 1 _ b rfl rfl).inv_int u3;obtain⟨m,rfl,n⟩:=(h 2 _ c rfl rfl).inv_int u57;obtain⟨V,rfl,_⟩:=(h 3 _ d rfl rfl).inv_str u9;obtain⟨l,rfl,U,Y,o⟩:=(g 4 _ e rfl rfl).2 rfl;exact⟨.mk j k m V l,by simp[exD,aA],⟨U,Y⟩,Rx n,o⟩
def Rz{t:TypeId}(h:fU Tryz.prog t ds):(t=100->∃e,ds=smD e/\inS e/\Src.AA e)/\(t=58->∃l:List Stm,ds=[.sl (l.map smD)]/\z l<=1000000000000000000/\qM l/\Src.oX l):=by
 induction h with
 |bool hu=>exact⟨λe=>Xj,λe=>Xk⟩
 |int hu=>exact⟨λe=>Xj,λe=>Xk⟩
 |str hu=>exact⟨λe=>Xj,λe=>Xk⟩
 |array hu=>exact⟨λe=>Xj,λe=>Xk⟩
 |sl hu es hl h g=>
   refine⟨λe=>Xj,λe=>?_⟩;subst e;rw[u52]at hu;cases hu;obtain⟨l,rfl,i⟩:=pM (f:=smD) (Q:=λe=>inS e/\Src.AA e) λx I=>(g x I).1 rfl;rw[j5]at hl;obtain⟨a,b⟩:=Fp i;exact⟨l,rfl,wA hl c8,a,b⟩
 |struct hu parts hl h g=>
   refine⟨λe=>?_,λe=>Xk⟩;subst e;rw[u54]at hu;cases hu;obtain⟨a,b,c,d,e,rfl⟩:=five hl;obtain⟨j,rfl,_⟩:=(h 0 _ a rfl rfl).inv_int u3;obtain⟨k,rfl,_⟩:=(h 1 _ b rfl rfl).inv_str u9;obtain⟨l,rfl,U,Y,m⟩:=(Ry (h 2 _ c rfl rfl)).2 rfl;obtain⟨q,rfl,n,o,g3⟩:=(g 3 _ d rfl rfl).2 rfl;obtain⟨J,rfl,p,r,s⟩:=(g 4 _ e rfl rfl).2 rfl;exact⟨.mk j k l q J,by simp[smD,aA,cT],⟨⟨U,Y⟩,⟨n,o⟩,p,r⟩,m,g3,s⟩
def wB(h:fU Tryz.prog 22 ds):∃l:List Str,ds=[.sl (l.map λs=>[.str s])]/\z l<=1000000000000000000:=by
 obtain⟨b,rfl,hl,a⟩:=h.inv_sl u22
 obtain⟨l,rfl,_⟩:=pM (f:=λs:Str=>[D.str s]) (Q:=λ_=>True) λx I=>by
  obtain⟨s,rfl,_⟩:=(a x I).inv_str u9;exact⟨s,rfl,trivial⟩
 rw[j5]at hl;exact⟨l,rfl,wA hl c8⟩
def XJ(f:Src.Fn):Prop:=((z f.params<=1000000000000000000/\z f.locals<=1000000000000000000)/\z f.body<=1000000000000000000/\qM f.body)/\Src.oX f.body
def RA(h:fU Tryz.prog 60 ds):∃f,ds=fnD f/\XJ f:=by
 obtain⟨o,rfl,hl,g⟩:=h.inv_struct u56;obtain⟨a,b,c,d,e,rfl⟩:=five hl;obtain⟨i,rfl,_⟩:=(g 0 _ a rfl rfl).inv_str u9;obtain⟨q,rfl,U⟩:=wB (g 1 _ b rfl rfl);obtain⟨J,rfl,Y⟩:=wB (g 2 _ c rfl rfl);obtain⟨w,rfl⟩:=(g 3 _ d rfl rfl).inv_bool u4;obtain⟨m,rfl,j,k,l⟩:=(Rz (g 4 _ e rfl rfl)).2 rfl;exact⟨⟨i,q,J,w,m⟩,rfl,⟨⟨U,Y⟩,j,k⟩,l⟩
def RB(h:fU Tryz.prog 45 ds):∃a,ds=arD a/\True:=by
 obtain⟨o,rfl,hl,c⟩:=h.inv_struct u65
 obtain⟨a,b,rfl⟩:∃a b,o=[a,b]:=by
  match o,hl with
  |[a,b],_=>exact⟨a,b,rfl⟩
 obtain⟨d,rfl,_⟩:=(c 0 _ a rfl rfl).inv_str u9;obtain⟨e,rfl,_⟩:=(c 1 _ b rfl rfl).inv_int u3;exact⟨(d,e),rfl,trivial⟩
def Ka(h:fU Tryz.prog 26 ds):∃p,ds=je p/\Src.InP p/\Src.xe p:=by
 obtain⟨o,rfl,hl,g⟩:=h.inv_struct u26
 obtain⟨a,b,c,rfl⟩:∃a b c,o=[a,b,c]:=by
  match o,hl with
  |[a,b,c],_=>exact⟨a,b,c,rfl⟩
 obtain⟨q,rfl,U⟩:=wB (g 0 _ a rfl rfl);obtain⟨n,rfl,j,d⟩:=(show fU Tryz.prog 23 b from g 1 _ b rfl rfl).inv_sl u23;obtain⟨r,rfl,k,e⟩:=(show fU Tryz.prog 24 c from g 2 _ c rfl rfl).inv_sl u24;obtain⟨J,rfl,_⟩:=pM λx I=>RB (d x I);obtain⟨m,rfl,l⟩:=pM λx I=>RA (e x I);rw[j5]at j k;exact⟨⟨q,J,m⟩,rfl,⟨U,wA j c8,wA k c8,λf i=>(l f i).1⟩,λf i=>(l f i).2⟩
end
end
section
open Go Go.Am
def XK:List FuncId:=[3,4,7,20,44,45,75,120,76,77,121,74,78,79,122,190,216,217,228,230,229,231,218,219,43,72,116,183,117,118,119,184,185,186,187,189,188,191,73,46,80,81,123,82,124,192,125,193,21,11,27,50,85,131,198,132,199,134,135,133,200,201,86,136,202,203,208,225,204,205,206,137,207,138,51,52,87,88,28,29,31,56,94,167,210,211,226,168,212,227,95,30,53,89,139,140,141,142,209,143,54,90,144,145,91,146,147,148,149,150,151,152,153,154,155,156,157,158,159,160,161,162,92,163,55,93,164,165,166,22,23,47,48,8,24,10,9,26,25,49,83,126,194,220,221,222,84,127,128,129,130,195,223,224,196,197,5,12,32,33,57,13,34,58,59,96,97,169,171,170,172,60,98,173,213,35,61,100,99,174,101,102,175,103,62,36,63,104,105,64,106,176,107,14,37,65,108,6,15,38,39,66,109,16,40,67,110,19,17,41,68,111,112,178,177,179,113,114,180,181,214,215,18,42,69,70,115,182,71]
def clo:Tryz.prog.closure 3=XK:=c8
def Kb:Tryz.prog.unfollowed 3=T:=by
 unfold Program.unfollowed;rw[clo]
 kernel_rfl
def Vs:Tryz.prog.recurses 3=T:=by
 unfold Program.recurses;rw[Kb];rfl
def Vt:(Rows.stackcRefusesRow.inPlace==Tryz.prog.inPlace 3)=T:=by
 unfold Program.inPlace;rw[clo]
 kernel_rfl
def Vu:(Rows.stackcRefusesRow.named==Tryz.prog.varsNamed 3)=T:=by
 unfold Program.varsNamed;rw[clo]
 kernel_rfl
def RC:Tryz.prog.goes 3=F:=by
 unfold Program.goes;rw[clo,Kb]
 kernel_rfl
def NW:joinedFacts Tryz.prog 3 Tryz.f3 Rows.stackcRefusesSpec Rows.stackcRefusesRow=T:=by
 unfold joinedFacts;rw[Vt,Vu,Kb,Vs]
 kernel_rfl
def Kc:F=Rows.stackcRefusesRow.goesBy Tryz.prog:=by
 unfold OpenClaim.goesBy Program.goesAt Program.goesFrom;rw[show Tryz.prog.funcNamed Rows.stackcRefusesRow.func=S 3 by kernel_rfl];simp only[Option.any_some,RC,R6];rfl
end
end Go.Proofs.YtednjibjomfhfaaGreatDoor

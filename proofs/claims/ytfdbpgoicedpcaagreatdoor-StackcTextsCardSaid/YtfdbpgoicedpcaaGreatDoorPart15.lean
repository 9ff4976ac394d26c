/- A part; no conditions. -/
import Derived.Test.YtfdbpgoicedpcaaGreatDoorPart14
set_option linter.all false
open List renaming length -> z
open Option renaming some -> S, none -> N
open Bool renaming true -> T, false -> F
set_option maxHeartbeats 64000000
set_option maxRecDepth 100000
namespace Go.Proofs.YtfdbpgoicedpcaaGreatDoor
section
open Go Go.Am Go.Asm
open Go.Src (Ex Stm szE aO szS aI inE uZ inS ua qN eJ qO ff)
attribute[local congr]ite_cc
def cI(p:Src.Prog):cK p=.agg [aw (p.v.map λs=>[.str s]),aw (p.a.map arD),aw (p.f.map fnD)]:=rfl
def acu(p:Src.Prog)(hp:Src.InP p)(d:Int)(hm:0<=d/\d<=1000000):aR Tryz.prog 13 [cK p,ae d] (·=bv (Src.acs p d)):=by
 refine hdP Tryz.func13 rfl [4] λg=>?_;obtain⟨X,L⟩:∃X,Src.acs p d=X:=⟨_,rfl⟩;rw[L];obtain⟨pv,pa,pf,w⟩:=hp;unfold Src.acs at L;rw[cI];simp only[go_sem];refine cD rfl (by simp only[go_sem];exact CI p.v pv) ?_;rintro _ rfl;cases O:Src.Hy p.v;.exact q9
 by_cases ha:200<(z p.a:Int)
 .obtain rfl:X=F:=by grind
  simp only[go_sem,j6,ha]
 by_cases hf:70<(z p.f:Int)
 .obtain rfl:X=F:=by grind
  simp only[go_sem,j6,ha,hf]
 rw[O,show decide (z p.f<=70)=T from E4 a7,show decide (z p.a<=200)=T from E4 a7,l4 a8]at L;have b4:IntKind.i64.wrap (d-(z p.v:Int))=d-z p.v:=wrap_i64 _ a7 a7;have b7:IntKind.i64.wrap (d-(z p.v:Int)-(z p.a:Int))=d-z p.v-z p.a:=wrap_i64 _ a7 a7;obtain⟨left,i⟩:∃x:Int,d-(z p.v:Int)-(z p.a:Int)-(z p.f:Int)=x:=⟨_,rfl⟩;rw[i]at L;have j:IntKind.i64.wrap (d-(z p.v:Int)-(z p.a:Int)-(z p.f:Int))=left:=by rw[i];exact wrap_i64 _ a7 a7
 have m:-2000000000000000000<=left/\left<=1000000:=a7;obtain⟨ga,b⟩:∃y,(p.a.all λa=>decide ((z a.1:Int)<=60))=y:=⟨_,rfl⟩;simp only[go_sem,j6,ha,hf,b4,b7,j];refine ez (λk K=>((p.a.drop k).all λa=>decide ((z a.1:Int)<=60))=ga/\K.f 2=aj 2 (K.gen 2) 0/\K.obj 2=S [aw (p.v.map λs=>[.str s]),aw (p.a.map arD),aw (p.f.map fnD)]/\K.f 5=ae left/\K.f 6=ae k) (z p.a) ⟨b,?_⟩ ?_;.exact gO
 rintro k f g1 av hk⟨I,t,u,W,q6⟩;simp only at t u W q6;have hw:=ah (k:=k) a7;by_cases Y:k<z p.a
 .have Q:(k:Int)<(z p.a:Int):=a7;obtain⟨a,O⟩:=getq Y;obtain⟨U,Z⟩:=eA I O;have hg:=getD_at (f:=arD) O;have q:arD a=[.str a.1,.int .i64 a.2]:=rfl;rw[q]at hg;by_cases hn:60<(z a.1:Int);.have e:=Z (G0 a7);rw[e]at b;rw[b,s5 rfl]at L;subst L;simp only[go_sem,t,u,q6,Q,j6,hg,hn]
  .simp only[go_sem,t,u,q6,Q,j6,hg,hn,hw];refine cj Y ⟨U (E4 a7),?_⟩;simp only[go_sem,t,u,W]
 have Q:¬(k:Int)<(z p.a:Int):=a7;rw[y8 a7]at I;have e:ga=T:=I.symm;rw[e]at b;rw[b,l4 a8]at L;clear I hk Y e b hw;simp only[go_sem,t,u,q6,Q,j6];refine ez (λk K=>∃c:Int,(match Src.Tz c (p.f.drop k)with|some n=>decide (0<=n)|none=>F)=X/\(-3000000000000000000<=c/\c<=1000000)/\(0<=c\/-2000000000000000000-400*(k:Int)<=c)/\K.f 2=aj 2 (K.gen 2) 0/\K.obj 2=S [aw (p.v.map λs=>[.str s]),aw (p.a.map arD),aw (p.f.map fnD)]/\K.f 5=ae c/\K.f 7=ae k) (z p.f) ⟨left,L,a7,a7,?_⟩ ?_;.simp only[go_sem,t,W,u]
 clear Q t u W q6;rintro k f g1 av hk⟨c,I,o,bo,t,u,W,q7⟩;simp only at t u W q7;have hw:=ah (k:=k) a7;by_cases Y:k<z p.f;case neg=>have Q:¬(k:Int)<(z p.f:Int):=a7;rw[y8 a7]at I;simp only[Src.Tz]at I;simp only[go_sem,t,u,W,q7,Q,j6,I]
 have Q:(k:Int)<(z p.f:Int):=a7;obtain⟨fn,O⟩:=getq Y;have hg:=getD_at (f:=fnD) O;have a6:fnD fn=[.str fn.name,.sl (fn.p.map λs=>[.str s]),.sl (fn.l.map λs=>[.str s]),.bool fn.word,.sl (fn.body.map smD)]:=rfl;rw[a6]at hg;obtain⟨⟨i1,G⟩,i3,r⟩:=w fn (l8 O);rw[eO O,Src.Tz]at I;simp only[go_sem,t,u,q7,Q,j6,hg];refine cD rfl (by simp only[go_sem];exact CI fn.p i1) ?_;rintro _ rfl;cases U:Src.Hy fn.p;.exact q9
 simp only[go_sem];refine cD rfl (by simp only[go_sem];exact CI fn.l G) ?_;rintro _ rfl;cases Z:Src.Hy fn.l;.exact q9
 by_cases hn:60<(z fn.name:Int)
 .obtain rfl:X=F:=by grind
  simp only[go_sem,hn]
 rw[U,Z,E4 (show (z fn.name:Int)<=60 by omega),s5 a8]at I;have l1:z fn.p<=200:=by unfold Src.Hy at U;simp only[l6,v8]at U;exact U.1
 have l2:z fn.l<=200:=by unfold Src.Hy at Z;simp only[l6,v8]at Z;exact Z.1
 have b4:IntKind.i64.wrap (c-(z fn.p:Int))=c-z fn.p:=wrap_i64 _ a7 a7;have b7:IntKind.i64.wrap (c-(z fn.p:Int)-(z fn.l:Int))=c-z fn.p-z fn.l:=wrap_i64 _ a7 a7;simp only[go_sem,hn,W,j6,b4,b7];have b1:=Src.sF fn.body (c-z fn.p-z fn.l) 60;have b2:c-z fn.p-z fn.l<0->ff fn.body (c-z fn.p-z fn.l) 60=c-z fn.p-z fn.l:=λh=>Src.qn h _;have A:=Src.wz fn.body (c-z fn.p-z fn.l) 60;refine cD rfl (by simp only[go_sem,b4,b7];exact EW (aI fn.body) fn.body _ 60 (l7 _) i3 r a7 a8) ?_;rintro _ rfl;simp only[go_sem,q7,hw];refine cj Y ⟨_,I,a7,a7,?_⟩;simp only[go_sem,t,u]
end
section
open Go Go.Am Go.Asm
open Go.Src (ba jw)
attribute[local congr]ite_cc
def OI c:aR Tryz.prog 178 [iv .u8 c.toNat] (·=bv (digit c)):=by refine hdP Tryz.func178 rfl [2] λg=>?_;simp only[go_sem];have e:=@we c;grind
def Bq c:aR Tryz.prog 175 [iv .u8 c.toNat] (·=bv (letter c)):=by refine hdP Tryz.func175 rfl [2] λg=>?_;simp only[go_sem];have e:=@yY c;grind
def OJ:aR Tryz.prog 177 [] (·=lA jw):=by refine hdP Tryz.func177 rfl [0] λg=>?_;simp only[go_sem];exact⟨_,⟨_,uR rfl rfl rfl,rfl⟩,rfl⟩
def OK:aR Tryz.prog 101 [] (·=lA jw):=by refine hdP Tryz.func101 rfl [0] λg=>?_;simp only[go_sem];exact⟨_,⟨_,uR rfl rfl rfl,rfl⟩,rfl⟩
def OL{l:List Str}{k}{s x}{X}(h:decide (s∈l.drop k)=X)(I:l[k]?=S x):(x=s->X=T)/\(x≠s->decide (s∈l.drop (k+1))=X):=by rw[eO I]at h;grind
def afs l(s:Str)(hl:z l<=1000000000000000000):aR Tryz.prog 176 [lA l,sv s] (·=bv (decide (s∈l))):=by
 refine hdP Tryz.func176 rfl [4] λg=>?_;obtain⟨X,j⟩:∃X,decide (s∈l)=X:=⟨_,rfl⟩;rw[j];unfold lA;simp only[go_sem];refine ez (λk K=>decide (s∈l.drop k)=X/\K.f 0=.one (aw (l.map λs=>[.str s]))/\K.f 1=sv s/\K.f 5=ae k) (z l) ⟨j,?_⟩ ?_;.exact gO
 rintro k f u v w⟨o,a,e,i⟩;simp only at a e i;by_cases p:k<z l;case neg=>
  have Q:¬(k:Int)<(z l:Int):=a7;rw[y8 a7]at o;obtain rfl:X=F:=by grind
  simp only[go_sem,a,i,Q,j6]
 have Q:(k:Int)<(z l:Int):=a7;obtain⟨x,I⟩:=getq p;obtain⟨U,Z⟩:=OL o I;have r:=getD_at (f:=λs:Str=>[D.str s]) I;by_cases hn:x=s;.obtain rfl:=U hn;simp only[go_sem,a,e,i,Q,j6,r,hn]
 .simp only[go_sem,a,e,i,Q,j6,r,hn,ah (k:=k) a7];refine cj p ⟨Z hn,?_⟩;simp only[go_sem,a,e]
def zo s:ba s=T↔s≠[]/\z s<=20/\s.head?.any letter=T/\s.all eK=T/\s∉jw:=by
 have e:s.takeWhile eK=s↔s.all eK=T:=by induction s with|nil=>simp;|cons a s b=>rw[H9,D1];grind
 grind[ba]
def TA(s:Str):aR Tryz.prog 102 [sv s] (·=bv (ba s)):=by
 refine hdP Tryz.func102 rfl [2] λg=>?_;obtain⟨X,v⟩:∃X,ba s=X:=⟨_,rfl⟩;rw[v];have u:∀h:¬(s≠[]/\z s<=20/\s.head?.any letter=T/\s.all eK=T/\s∉jw),X=F:=λh=>by
  cases X;.rfl
  simp_all[zo]
 by_cases l:s=[];.obtain rfl:=u λh=>h.1 l;simp only[go_sem,l]
 have G:¬(z s:Int)=0:=λe=>l (v7 a7);by_cases L:20<(z s:Int)
 .obtain rfl:=u λh=>by omega
  simp only[go_sem,G,L]
 obtain⟨c,t⟩:∃c,s[0]?=S c:=getq a7;have b:s.head?=S c:=by rw[<-t,UM]
 simp only[go_sem,G,L,t];refine cD rfl (by simp only[go_sem];exact Bq c) ?_;rintro _ rfl;cases a1:letter c
 .obtain rfl:=u λh=>by grind
  exact gO
 simp only[go_sem];refine cD rfl (by simp only[go_sem];exact OJ) ?_;rintro _ rfl;simp only[go_sem];refine cD rfl (by simp only[go_sem];exact afs jw s a8) ?_;rintro _ rfl;by_cases o:s∈jw;.obtain rfl:=u λh=>h.2.2.2.2 o;simp only[go_sem,o,T0]
 simp only[go_sem,o,K7];obtain⟨y,A⟩:∃y,s.all eK=y:=⟨_,rfl⟩;have i:X=y:=by
  cases W:X
  .cases d:y;.rfl
   .rw[W]at v;rw[d]at A;have:=(zo s).2 ⟨l,a7,by grind,A,o⟩;grind
  .grind
 rw[i];clear v u i o a1;refine ez (λk K=>(s.drop k).all eK=y/\K.f 0=sv s/\K.f 3=ae k) (z s) ⟨A,?_⟩ ?_;.exact gO
 rintro k f O Y hk⟨t,q0,p⟩;simp only at q0 p;have o:=ah (k:=k) a7;by_cases w:k<z s;case neg=>have Q:¬(k:Int)<(z s:Int):=a7;rw[y8 a7]at t;obtain rfl:y=T:=t.symm;simp only[go_sem,q0,p,Q]
 have Q:(k:Int)<(z s:Int):=a7;obtain⟨x,I⟩:=getq w;obtain⟨U,Z⟩:=eA t I;simp only[go_sem,q0,p,Q,I];refine cD rfl (by simp only[go_sem];exact Bq x) ?_;rintro _ rfl;cases j:letter x
 .simp only[go_sem,q0,p,I];refine cD rfl (by simp only[go_sem];exact OI x) ?_;rintro _ rfl;cases m:digit x
  .by_cases a:(x.toNat:Int)=95
   .have e:eK x=T:=by have:x=95:=Q9.1 ZN;simp[eK,this]
    simp only[go_sem,q0,p,I,a,o];refine cj w ⟨U e,?_⟩;exact X7
   .have e:eK x=F:=by have:x≠95:=λe=>a (by rw[e];rfl);simp[eK,j,m,this]
    obtain rfl:=Z e;simp only[go_sem,q0,p,I,a]
  .simp only[go_sem,p,o];refine cj w ⟨U (by simp[eK,m]),?_⟩;exact X7
 .simp only[go_sem,p,o];refine cj w ⟨U (by simp[eK,j]),?_⟩;exact X7
def kY(s:Str):aR Tryz.prog 63 [sv s] (·=bv (ba s)):=by
 refine hdP Tryz.func63 rfl [2] λg=>?_;have hn:=TA s;have u:s∈jw->ba s=F:=λh=>G0 λp=>p.2.2.2.2 h;obtain⟨X,t⟩:∃X,ba s=X:=⟨_,rfl⟩;rw[t]at hn u|-;simp only[go_sem];refine cD rfl (by simp only[go_sem];exact OK) ?_;rintro _ rfl;unfold lA;simp only[go_sem];refine ez (λk K=>K.f 0=sv s/\K.f 3=.one (aw (jw.map λs=>[.str s]))/\K.f 4=ae k) 10 ⟨?_,?_⟩ ?_;.rfl
 .exact gO
 rintro k f y A hk⟨q0,a,e⟩;simp only at q0 a e;have w:((z jw:Nat):Int)=10:=rfl;by_cases i:k<10;case neg=>have Q:¬(k:Int)<10:=a7;simp only[go_sem,q0,a,e,Q,j6,w];refine cD rfl (by simp only[go_sem];exact hn) ?_;rintro _ rfl;exact gO
 have Q:(k:Int)<10:=a7;obtain⟨x,I⟩:=getq (l:=jw) i;have j:=getD_at (f:=λs:Str=>[D.str s]) I;by_cases o:s=x;.obtain rfl:=u ZN;simp only[go_sem,q0,a,e,Q,j6,w,j,o]
 .simp only[go_sem,q0,a,e,Q,j6,w,j,o,ah (k:=k) a7];refine cj i ⟨?_,?_⟩;.exact X7
  .simp only[go_sem,a]
def CJ l(hl:z l<=1000000000000000000):aR Tryz.prog 62 [lA l] (·=bv (l.all ba)):=by
 refine hdP Tryz.func62 rfl [2] λg=>?_;obtain⟨X,i⟩:∃X,l.all ba=X:=⟨_,rfl⟩;rw[i];unfold lA;simp only[go_sem];refine ez (λk K=>(l.drop k).all ba=X/\K.f 0=.one (aw (l.map λs=>[.str s]))/\K.f 3=ae k) (z l) ⟨i,?_⟩ ?_;.exact gO
 rintro k f t u hk⟨e,q0,a⟩;simp only at q0 a;by_cases j:k<z l;case neg=>have Q:¬(k:Int)<(z l:Int):=a7;rw[y8 a7]at e;obtain rfl:X=T:=e.symm;simp only[go_sem,q0,a,Q,j6]
 have Q:(k:Int)<(z l:Int):=a7;obtain⟨s,I⟩:=getq j;obtain⟨U,Z⟩:=eA e I;simp only[go_sem,q0,a,Q,j6,getD_at (f:=λs:Str=>[D.str s]) I];refine cD rfl (by simp only[go_sem];exact kY s) ?_;rintro _ rfl;cases hn:ba s;.obtain rfl:=Z hn;exact gO
 .simp only[go_sem,a,ah (k:=k) a7];refine cj j ⟨U hn,?_⟩;exact X7
end
section
open Go Go.Am Go.Asm
open Go.Src (ba aq bV dn bp Ex szE aO inE uZ)
attribute[local congr]ite_cc
def fG:ba []=F:=rfl
def EX(kind op num:Int)(name:Str)(kids:List Ex)(q:Nat)(a:q<=25)(J:q<=24->aR Tryz.prog 179 [ea kids,ae (q+1:Nat)] (·=bv (bp (q+1) kids))):aR Tryz.prog 222 [exV (.mk kind op num name kids),ae q] (·=bv (dn q (.mk kind op num name kids))):=by
 refine hdP Tryz.func222 rfl [4] λg=>?_;have B:exV (.mk kind op num name kids)=.agg [ag kind,ag op,.d (.int .u32 num),bW name,aw (kids.map exD)]:=by simp only[exV,exD,aL,s7,x7]
 obtain⟨X,hz⟩:∃X,dn q (.mk kind op num name kids)=X:=⟨_,rfl⟩
 rw[hz,B];rw[dn]at hz;by_cases j:(24:Int)<(q:Int)
 .obtain rfl:X=F:=by grind
  simp only[go_sem,j]
 have bl:q<=24:=a7;have b5:=ah (k:=q) a7;have J:=J bl;unfold ea at J;have hk:kind=1\/kind=2\/kind=3\/kind=4\/kind=5\/kind=6\/kind=7\/kind=8\/kind=9\/(¬kind=1/\¬kind=2/\¬kind=3/\¬kind=4/\¬kind=5/\¬kind=6/\¬kind=7/\¬kind=8/\¬kind=9):=a7;rcases hk with rfl|rfl|rfl|rfl|rfl|rfl|rfl|rfl|rfl|⟨l,o,p,v,w,P,x,y,n⟩
 ·-- 1
  by_cases u:op=0
  case neg=>
   exact kb
  by_cases H:name=[]
  case neg=>
   obtain rfl:X=F:=by rw[<-hz];simp[bV,aq,H]
   simp only[go_sem,j,u,H]
  simp only[go_sem,j,u,H];by_cases t:(z kids:Int)=0
  .obtain rfl:X=T:=by
    have:kids=[]:=v7 a7;rw[<-hz,this];simp[bV,aq,bp,bl,H,u]
   grind
  .obtain rfl:X=F:=by
    exact U9
   grind
 ·-- 2
  by_cases u:op=0
  case neg=>
   exact kb
  by_cases i:num=0
  case neg=>
   exact k0
  by_cases H:name=[]
  case pos=>
   exact y2
  simp only[go_sem,j,u,i,H];refine cD rfl abl ?_;rintro _ rfl;cases an:ba name
  .exact Wd
  by_cases t:(z kids:Int)=0
  .obtain rfl:X=T:=by
    have:kids=[]:=v7 a7;rw[<-hz,this];simp[bV,aq,bp,bl,an,i,u]
   simp only[go_sem,j6,t]
  .obtain rfl:X=F:=by
    exact U9
   simp only[go_sem,j6,t]
 ·-- 3
  by_cases u:op=0
  case neg=>
   exact kb
  by_cases i:num=0
  case neg=>
   exact k0
  by_cases H:name=[]
  case pos=>
   exact y2
  simp only[go_sem,j,u,i,H];refine cD rfl abl ?_;rintro _ rfl;cases an:ba name
  .exact Wd
  by_cases t:(z kids:Int)=1
  case neg=>
   exact V9
  simp only[go_sem,j6,t,b5];refine cD rfl abV ?_;rintro _ rfl
  obtain rfl:X=bp (q+1) kids:=by
   have:z kids=1:=a7;rw[<-hz];simp[bV,aq,bl,this,an,i,u]
  exact gO
 ·-- 4
  by_cases u:op=0
  case neg=>
   exact kb
  by_cases i:num=0
  case neg=>
   exact k0
  by_cases H:name=[]
  case pos=>
   exact y2
  simp only[go_sem,j,u,i,H];refine cD rfl abl ?_;rintro _ rfl;cases an:ba name
  .exact Wd
  by_cases t:(z kids:Int)<=6
  case neg=>
   obtain rfl:X=F:=by
    have:¬z kids<=6:=a7;rw[<-hz];simp[bV,this]
   simp only[go_sem,j6,t]
  simp only[go_sem,j6,t,b5];refine cD rfl abV ?_;rintro _ rfl
  obtain rfl:X=bp (q+1) kids:=by
   have:z kids<=6:=a7;rw[<-hz];simp[bV,aq,bl,this,an,i,u]
  exact gO
 ·-- 5
  by_cases u:op=0
  case neg=>
   exact kb
  by_cases i:num=0
  case neg=>
   exact k0
  by_cases H:name=[]
  case neg=>
   obtain rfl:X=F:=by rw[<-hz];simp[bV,aq,H]
   simp only[go_sem,j,u,i,H]
  simp only[go_sem,j,u,i,H];by_cases t:(z kids:Int)=0
  .obtain rfl:X=T:=by
    have:kids=[]:=v7 a7;rw[<-hz,this];simp[bV,aq,bp,bl,H,i,u]
   grind
  .obtain rfl:X=F:=by
    exact U9
   grind
 ·-- 6
  by_cases i:num=0
  case neg=>
   obtain rfl:X=F:=by rw[<-hz];simp[bV,i]
   simp only[go_sem,j,i]
  by_cases H:name=[]
  case neg=>
   obtain rfl:X=F:=by rw[<-hz];simp[bV,aq,H]
   simp only[go_sem,j,i,H]
  simp only[go_sem,j,i,H];by_cases b:4<=op
  case neg=>
   obtain rfl:X=F:=by rw[<-hz];simp[bV,b]
   simp only[go_sem,j6,b]
  by_cases A:op<=15
  case neg=>
   obtain rfl:X=F:=by rw[<-hz];simp[bV,A]
   simp only[go_sem,j6,b,A]
  by_cases t:(z kids:Int)=2
  case neg=>
   obtain rfl:X=F:=by
    have:¬z kids=2:=a7;rw[<-hz];simp[bV,this]
   simp only[go_sem,j6,b,A,t]
  simp only[go_sem,j6,b,A,t,b5];refine cD rfl abV ?_;rintro _ rfl
  obtain rfl:X=bp (q+1) kids:=by
   have:z kids=2:=a7;rw[<-hz];simp[bV,aq,bl,this,H,i,b,A]
  exact gO
 ·-- 7
  by_cases u:op=0
  case neg=>
   exact kb
  by_cases i:num=0
  case neg=>
   exact k0
  by_cases H:name=[]
  case neg=>
   obtain rfl:X=F:=by rw[<-hz];simp[bV,aq,H]
   simp only[go_sem,j,u,i,H]
  simp only[go_sem,j,u,i,H];by_cases t:(z kids:Int)=1
  case neg=>
   exact V9
  simp only[go_sem,j6,t,b5];refine cD rfl abV ?_;rintro _ rfl
  obtain rfl:X=bp (q+1) kids:=by
   have:z kids=1:=a7;rw[<-hz];simp[bV,aq,bl,this,H,i,u]
  exact gO
 ·-- 8
  exact qc
 ·-- 9
  exact qc
 .obtain rfl:X=F:=by rw[<-hz];simp[bV,l,o,p,v,w,P,x,y,n]
  by_cases u:op=0
  case neg=>simp only[go_sem,j,P,u]
  by_cases i:num=0
  case neg=>simp only[go_sem,j,P,u,l,i]
  by_cases H:name=[]
  case neg=>simp only[go_sem,j,P,u,l,i,o,p,v,H]
  simp only[go_sem,j,P,u,l,i,o,p,v,H,w,x,y,n]
def CK:∀(al:Nat)(l:List Ex)(q:Nat),aO l<=al->z l<=1000000000000000000->uZ l->q<=25->aR Tryz.prog 179 [ea l,ae q] (·=bv (bp q l)):=by intro al;induction al using Nat.strongRecOn with|ind al w=>
 intro l q y hl E j;refine hdP Tryz.func179 rfl [4] λg=>?_;obtain⟨X,o⟩:∃X,bp q l=X:=⟨_,rfl⟩;rw[o];rw[Src.FI]at o;unfold ea;simp only[go_sem];refine ez (λk K=>(l.drop k).all (dn q)=X/\K.f 0=.one (aw (l.map exD))/\K.f 1=ae q/\K.f 5=ae k) (z l) ⟨o,?_⟩ ?_;.exact gO
 rintro k f A G hk⟨hc,q0,p,q5⟩;simp only at q0 p q5;have x:=ah (k:=k) a7;by_cases u:k<z l;case neg=>exact V2
 have Q:(k:Int)<(z l:Int):=a7;obtain⟨e,i⟩:=getq u;obtain⟨U,Z⟩:=eA hc i;have t:=Src.Ow E i;have az:=Src.vu (l8 i);have v:=getD_at (f:=exD) i;have L:=aY e;obtain⟨kind,op,num,name,a⟩:=e;rw[szE]at az;rw[inE]at t;have hE:=EX kind op num name a q j λh=>w (aO a) a7 a (q+1) (l7 _) t.1 t.2 a7;have I:exD (.mk kind op num name a)=[.int .i64 kind,.int .i64 op,.int .u32 num,.str name,.sl (a.map exD)]:=by simp only[exD,aL]
 unfold exV at hE;rw[I]at v hE;simp only[s7,x7]at hE;simp only[go_sem,q0,p,q5,Q,j6,v];refine cD rfl abZ ?_;rintro _ rfl;cases V:dn q (.mk kind op num name a);.obtain rfl:=Z V;exact gO
 .simp only[go_sem,q5,x];refine cj u ⟨U V,?_⟩;simp only[go_sem,q0,p]
end
open Go Go.Am Go.Asm
open Go.Src (ba aq cP bp dC bD Ex Stm szE aO szS aI inE uZ inS ua)
attribute[local congr]ite_cc
def EY kind name e th el q(a:q<=25)(n:q<=24->aR Tryz.prog 179 [ea e,ae (q+1:Nat)] (·=bv (bp (q+1) e)))(hT:q<=24->aR Tryz.prog 64 [eU th,ae (q+1:Nat)] (·=bv (bD (q+1) th)))(o:q<=24->aR Tryz.prog 64 [eU el,ae (q+1:Nat)] (·=bv (bD (q+1) el))):aR Tryz.prog 103 [smV (.mk kind name e th el),ae q] (·=bv (dC q (.mk kind name e th el))):=by
 refine hdP Tryz.func103 rfl [4] λg=>?_;have x:smV (.mk kind name e th el)=.agg [ag kind,bW name,aw (e.map exD),aw (th.map smD),aw (el.map smD)]:=by simp only[smV,smD,aL,dy,s7,x7]
 obtain⟨X,hz⟩:∃X,dC q (.mk kind name e th el)=X:=⟨_,rfl⟩;rw[hz,x];rw[dC]at hz;by_cases j:(24:Int)<(q:Int)
 .obtain rfl:X=F:=by grind
  simp only[go_sem,j]
 have bl:q<=24:=a7;have b:=ah (k:=q) a7;have hk:kind=1\/kind=2\/kind=3\/kind=4\/kind=5\/kind=6\/kind=7\/(¬kind=1/\¬kind=2/\¬kind=3/\¬kind=4/\¬kind=5/\¬kind=6/\¬kind=7):=a7;rcases hk with rfl|rfl|rfl|rfl|rfl|rfl|rfl|⟨t,u,v,l,p,P,w⟩;case' inl=>
  by_cases a6:0<(z el:Int);.exact h1
  have d:el=[]:=v7 a7;by_cases L:0<(z th:Int);.exact j3
  have i:th=[]:=v7 a7;by_cases H:name=[];.exact x1
  simp only[go_sem,j6,j,a6,L,H];refine cD rfl abl ?_;rintro _ rfl;cases an:ba name;.exact Wf
  by_cases hn:(z e:Int)=1;case neg=>exact mS
  obtain rfl:X=(bp (q+1) e&&(bD (q+1) th&&bD (q+1) el)):=by have:z e=1:=a7;grind[cP,aq]
  simp only[go_sem,j6,hn,b]
 case' inr.inl=>
  by_cases a6:0<(z el:Int);.exact h1
  have d:el=[]:=v7 a7;by_cases L:0<(z th:Int);.exact j3
  have i:th=[]:=v7 a7;by_cases H:name=[];.exact x1
  simp only[go_sem,j6,j,a6,L,H];refine cD rfl abl ?_;rintro _ rfl;cases an:ba name;.exact Wf
  by_cases hn:(z e:Int)=2;case neg=>
   obtain rfl:X=F:=by have:¬z e=2:=a7;grind[cP]
   simp only[go_sem,j6,hn]
  obtain rfl:X=(bp (q+1) e&&(bD (q+1) th&&bD (q+1) el)):=by have:z e=2:=a7;grind[cP,aq]
  simp only[go_sem,j6,hn,b]
 case' inr.inr.inl=>
  by_cases a6:0<(z el:Int);.exact h1
  have d:el=[]:=v7 a7;by_cases L:0<(z th:Int);.exact j3
  have i:th=[]:=v7 a7;by_cases H:name=[];case neg=>
   obtain rfl:X=F:=by grind[cP,aq]
   simp only[go_sem,j6,j,a6,L,H]
  simp only[go_sem,j6,j,a6,L,H];by_cases hn:(z e:Int)=1;case neg=>exact mS
  obtain rfl:X=(bp (q+1) e&&(bD (q+1) th&&bD (q+1) el)):=by have:z e=1:=a7;grind[cP,aq]
  simp only[go_sem,hn,b]
 case' inr.inr.inr.inl=>
  by_cases H:name=[];case neg=>
   obtain rfl:X=F:=by grind[cP,aq]
   simp only[go_sem,j,H]
  simp only[go_sem,j6,j,H];by_cases hn:(z e:Int)=1;case neg=>exact mS
  obtain rfl:X=(bp (q+1) e&&(bD (q+1) th&&bD (q+1) el)):=by have:z e=1:=a7;grind[cP,aq]
  simp only[go_sem,hn,b]
 case' inr.inr.inr.inr.inl=>
  by_cases a6:0<(z el:Int);.exact h1
  have d:el=[]:=v7 a7;by_cases H:name=[];case neg=>
   obtain rfl:X=F:=by grind[cP,aq]
   simp only[go_sem,j6,j,a6,H]
  simp only[go_sem,j6,j,a6,H];by_cases hn:(z e:Int)=1;case neg=>exact mS
  obtain rfl:X=(bp (q+1) e&&(bD (q+1) th&&bD (q+1) el)):=by have:z e=1:=a7;grind[cP,aq]
  simp only[go_sem,hn,b]
 case' inr.inr.inr.inr.inr.inl=>
  by_cases a6:0<(z el:Int);.exact h1
  have d:el=[]:=v7 a7;by_cases L:0<(z th:Int);.exact j3
  have i:th=[]:=v7 a7;by_cases H:name=[];.exact x1
  simp only[go_sem,j6,j,a6,L,H];refine cD rfl abl ?_;rintro _ rfl;cases an:ba name;.exact Wf
  by_cases hn:(z e:Int)<=6;case neg=>
   obtain rfl:X=F:=by have:¬z e<=6:=a7;grind[cP]
   simp only[go_sem,j6,hn]
  obtain rfl:X=(bp (q+1) e&&(bD (q+1) th&&bD (q+1) el)):=by have:z e<=6:=a7;grind[cP,aq]
  simp only[go_sem,j6,hn,b]
 case' inr.inr.inr.inr.inr.inr.inl=>
  by_cases a6:0<(z el:Int);.exact h1
  have d:el=[]:=v7 a7;by_cases L:0<(z th:Int);.exact j3
  have i:th=[]:=v7 a7;by_cases H:name=[];case neg=>
   obtain rfl:X=F:=by grind[cP,aq]
   simp only[go_sem,j6,j,a6,L,H]
  simp only[go_sem,j6,j,a6,L,H];by_cases hn:(z e:Int)<=1;case neg=>
   obtain rfl:X=F:=by have:¬z e<=1:=a7;grind[cP]
   simp only[go_sem,hn]
  obtain rfl:X=(bp (q+1) e&&(bD (q+1) th&&bD (q+1) el)):=by have:z e<=1:=a7;grind[cP,aq]
  simp only[go_sem,hn,b]
 case inr.inr.inr.inr.inr.inr.inr=>
  obtain rfl:X=F:=by grind[cP]
  by_cases a6:0<(z el:Int);.simp only[go_sem,j,j6,l,a6]
  by_cases L:0<(z th:Int);.simp only[go_sem,j,j6,l,a6,p,L]
  by_cases H:name=[];case neg=>simp only[go_sem,j,j6,l,a6,p,L,t,u,P,H]
  simp only[go_sem,j,j6,l,a6,p,L,t,u,P,H,v,w]
 all_goals refine cD rfl (by simp only[go_sem];exact (n bl)) ?_
 all_goals rintro _ rfl
 all_goals cases bp (q+1) e
 all_goals simp only[go_sem,b,B5]
 all_goals refine cD rfl (by simp only[go_sem];exact (hT bl)) ?_
 all_goals rintro _ rfl
 all_goals cases bD (q+1) th
 all_goals simp only[go_sem,b,B5,A7]
 all_goals refine cD rfl (by simp only[go_sem];exact (o bl)) ?_
 all_goals rintro _ rfl
 all_goals simp only[go_sem,A7]
def CL:∀al l(q:Nat),aI l<=al->z l<=1000000000000000000->ua l->q<=25->aR Tryz.prog 64 [eU l,ae q] (·=bv (bD q l)):=by intro al;induction al using Nat.strongRecOn with|ind al u=>
 intro l q y hl E j;refine hdP Tryz.func64 rfl [4] λg=>?_;obtain⟨X,p⟩:∃X,bD q l=X:=⟨_,rfl⟩;rw[p];rw[Src.FJ]at p;unfold eU;simp only[go_sem];refine ez (λk K=>(l.drop k).all (dC q)=X/\K.f 0=.one (aw (l.map smD))/\K.f 1=ae q/\K.f 5=ae k) (z l) ⟨p,?_⟩ ?_;.exact gO
 rintro k f A G hk⟨hc,q0,t,q5⟩;simp only at q0 t q5;by_cases v:k<z l;case neg=>exact V2
 have Q:(k:Int)<(z l:Int):=a7;obtain⟨s,o⟩:=getq v;obtain⟨U,Z⟩:=eA hc o;have a:=Src.Ox E o;have az:=Src.nd (l8 o);have w:=getD_at (f:=smD) o;obtain⟨kind,name,e,i,el⟩:=s;rw[szS]at az;rw[inS]at a;have hS:=EY kind name e i el q j (λh=>CK (aO e) e (q+1) (l7 _) a.1.1 a.1.2 a7) (λh=>u (aI i) a7 i (q+1) (l7 _) a.2.1.1 a.2.1.2 a7) (λh=>u (aI el) a7 el (q+1) (l7 _) a.2.2.1 a.2.2.2 a7);have I:smD (.mk kind name e i el)=[.int .i64 kind,.str name,.sl (e.map exD),.sl (i.map smD),.sl (el.map smD)]:=by simp only[smD,aL,dy]
 unfold smV at hS;rw[I]at w hS;simp only[s7,x7]at hS;simp only[go_sem,q0,t,q5,Q,j6,w];refine cD rfl abY ?_;rintro _ rfl;cases V:dC q (.mk kind name e i el);.obtain rfl:=Z V;exact gO
 .simp only[go_sem,q5,ah (k:=k) a7];refine cj v ⟨U V,?_⟩;simp only[go_sem,q0,t]
def OM p(hp:Src.InP p):aR Tryz.prog 37 [cK p] (·=bv (Src.ct p)):=by
 refine hdP Tryz.func37 rfl [2] λg=>?_;obtain⟨X,x⟩:∃X,Src.ct p=X:=⟨_,rfl⟩;rw[x];obtain⟨pv,pa,pf,w⟩:=hp;unfold Src.ct at x;rw[cI];simp only[go_sem];refine cD rfl (by simp only[go_sem];exact (CJ p.v pv)) ?_;rintro _ rfl;cases j:p.v.all ba;.exact q9
 by_cases U:(z p.f:Int)<1
 .obtain rfl:X=F:=by grind
  simp only[go_sem,j6,U]
 by_cases d:64<(z p.f:Int)
 .obtain rfl:X=F:=by grind
  simp only[go_sem,j6,U,d]
 rw[j,E4 a7,A7,A7]at x;obtain⟨ga,b⟩:∃y,p.a.all Src.fR=y:=⟨_,rfl⟩;rw[b]at x;simp only[go_sem,j6,U,d];refine ez (λk K=>(p.a.drop k).all Src.fR=ga/\K.f 1=aj 1 (K.gen 1) 0/\K.obj 1=S [aw (p.v.map λs=>[.str s]),aw (p.a.map arD),aw (p.f.map fnD)]/\K.f 3=ae k) (z p.a) ⟨b,?_⟩ ?_;.exact gO
 rintro k f I av hk⟨o,q1,o1,u⟩;simp only at q1 o1 u;have L:=ah (k:=k) a7;by_cases A:k<z p.a
 .have Q:(k:Int)<(z p.a:Int):=a7;obtain⟨a,j⟩:=getq A;obtain⟨U,Z⟩:=eA o j;have t:=getD_at (f:=arD) j;have q:arD a=[.str a.1,.int .i64 a.2]:=rfl;rw[q]at t;have ar:Src.fR a=(ba a.1&&decide (1<=a.2)&&decide (a.2<=4096)):=rfl;have c:Src.fR a=F->X=F:=λe=>by grind
  simp only[go_sem,q1,o1,u,Q,j6,t];refine cD rfl (by simp only[go_sem];exact kY a.1) ?_;rintro _ rfl;cases an:ba a.1;.obtain rfl:=c ZN;exact gO
  by_cases l1:a.2<1;.obtain rfl:=c ZN;simp only[go_sem,q1,o1,u,t,l1]
  by_cases l2:4096<a.2;.obtain rfl:=c ZN;simp only[go_sem,q1,o1,u,t,l1,l2]
  simp only[go_sem,q1,o1,u,t,l1,l2,L];refine cj A ⟨U ZN,?_⟩;exact K4
 have Q:¬(k:Int)<(z p.a:Int):=a7;rw[y8 a7]at o;rw[show ga=T from o.symm,A7]at x;clear o hk A b L;simp only[go_sem,q1,o1,u,Q,j6];refine ez (λk K=>(p.f.drop k).all Src.de=X/\K.f 1=aj 1 (K.gen 1) 0/\K.obj 1=S [aw (p.v.map λs=>[.str s]),aw (p.a.map arD),aw (p.f.map fnD)]/\K.f 4=ae k) (z p.f) ⟨x,?_⟩ ?_;.exact K4
 clear Q q1 o1 u;rintro k f I av hk⟨o,q1,o1,O⟩;simp only at q1 o1 O;by_cases A:k<z p.f;case neg=>have Q:¬(k:Int)<(z p.f:Int):=a7;rw[y8 a7]at o;obtain rfl:X=T:=o.symm;simp only[go_sem,q1,o1,O,Q,j6]
 have Q:(k:Int)<(z p.f:Int):=a7;obtain⟨fn,j⟩:=getq A;obtain⟨I,g2⟩:=eA o j;have t:=getD_at (f:=fnD) j;have a6:fnD fn=[.str fn.name,.sl (fn.p.map λs=>[.str s]),.sl (fn.l.map λs=>[.str s]),.bool fn.word,.sl (fn.body.map smD)]:=rfl;rw[a6]at t;obtain⟨⟨i1,G⟩,i3,r⟩:=w fn (l8 j);have b3:Src.de fn=(ba fn.name&&decide (z fn.p<=6)&&(fn.p.all ba&&fn.l.all ba&&bD 1 fn.body)):=rfl;rw[b3]at I g2;have h:=CJ fn.p i1;have i:=CJ fn.l G;have W:=CL (aI fn.body) fn.body 1 (l7 _) i3 r a8;simp only[go_sem,q1,o1,O,Q,j6,t];refine cD rfl (by simp only[go_sem];exact kY fn.name) ?_;rintro _ rfl;cases U:ba fn.name;.exact Y6
 by_cases Y:6<(z fn.p:Int);.obtain rfl:=g2 ZN;simp only[go_sem,j6,Y]
 rw[U,E4 (show z fn.p<=6 by omega),A7,A7]at I g2;simp only[go_sem,j6,Y];refine cD rfl (by simp only[go_sem];exact h) ?_;rintro _ rfl;cases Z:fn.p.all ba;.exact Y6
 simp only[go_sem];refine cD rfl (by simp only[go_sem];exact i) ?_;rintro _ rfl;cases h3:fn.l.all ba;.exact Y6
 simp only[go_sem];refine cD rfl (by simp only[go_sem];exact W) ?_;rintro _ rfl;cases h4:bD 1 fn.body;.exact Y6
 .simp only[go_sem,O,ah (k:=k) a7];refine cj A ⟨I ZN,?_⟩;exact K4
end Go.Proofs.YtfdbpgoicedpcaaGreatDoor
namespace Go.Src
attribute [local congr] Go.Am.ite_cc
open Go.Asm (Str)
def bC:Nat->List Str->Str->Int|_,[],_=>-1|k,x::l,s=>if x=s then(k:Int)else bC (k+1) l s
def lR:∀l k s,bC k l s=-1\/(k<=bC k l s/\bC k l s<k+z l)
 |[],_,_=>.inl rfl|x::l,k,s=>by
  rw[bC,j8];split;.omega
  .have:=lR l (k+1) s;omega
def fO(l:List Str):Bool:=(List.range (z l)).all λi=>decide (bC 0 l (l.getD i [])=i)
def kB(f:Fn):List Str:=f.p++f.l
def fV(p:Prog):List Str:=p.v++p.a.map (·.1)++p.f.map (·.name)
def fg(p:Prog)(f:Fn)(s:Str):Int×Int:=if 0<=bC 0 (kB f) s then(1,bC 0 (kB f) s)else let k:=bC 0 (fV p) s
 if k<0 then(0,-1)else if k<z p.v then(2,k)else if k-z p.v<z p.a then(3,k-z p.v)else(4,k-z p.v-z p.a)
end Go.Src
namespace Go.Proofs.YtfdbpgoicedpcaaGreatDoor
open Go Go.Am Go.Asm
open Go.Src (bC fO kB fV fg)
attribute[local congr]ite_cc
def vd l(s:Str)(hl:z l<=1000000000000000000):aR Tryz.prog 180 [lA l,sv s] (·=ae (bC 0 l s)):=by
 refine hdP Tryz.func180 rfl [4] λg=>?_;obtain⟨X,o⟩:∃X,bC 0 l s=X:=⟨_,rfl⟩;rw[o];unfold lA;simp only[go_sem];refine ez (λk K=>bC k (l.drop k) s=X/\K.f 0=.one (aw (l.map λs=>[.str s]))/\K.f 1=sv s/\K.f 5=ae k) (z l) ⟨o,?_⟩ ?_;.exact gO
 rintro k f u v w⟨a,e,i,j⟩;simp only at e i j;by_cases p:k<z l;case neg=>have Q:¬(k:Int)<(z l:Int):=a7;rw[y8 a7,bC]at a;subst a;simp only[go_sem,e,j,Q,j6]
 have Q:(k:Int)<(z l:Int):=a7;obtain⟨x,I⟩:=getq p;rw[eO I,bC]at a;have r:=getD_at (f:=λs:Str=>[D.str s]) I;by_cases hn:x=s;.rw[s5 hn]at a;subst a;simp only[go_sem,e,i,j,Q,j6,r,hn]
 .rw[l4 hn]at a;simp only[go_sem,e,i,j,Q,j6,r,hn,ah (k:=k) a7];refine cj p ⟨a,?_⟩;simp only[go_sem,e,i]
def EZ l(hl:z l<=1000000000000000000):aR Tryz.prog 104 [lA l] (·=bv (fO l)):=by
 refine hdP Tryz.func104 rfl [2] λg=>?_;obtain⟨X,j⟩:∃X,fO l=X:=⟨_,rfl⟩;rw[j];have A:=λs=>vd l s hl;unfold lA at A|-;simp only[go_sem];refine ez (λk K=>((List.range (z l)).drop k).all (λi=>decide (bC 0 l (l.getD i [])=i))=X/\K.f 0=.one (aw (l.map λs=>[.str s]))/\K.f 3=ae k) (z l) ⟨j,?_⟩ ?_;.exact gO
 rintro k f v w hk⟨o,q0,a⟩;simp only at q0 a;by_cases p:k<z l;case neg=>have Q:¬(k:Int)<(z l:Int):=a7;rw[y8 ZN]at o;obtain rfl:X=T:=o.symm;simp only[go_sem,q0,a,Q,j6]
 have Q:(k:Int)<(z l:Int):=a7;obtain⟨x,I⟩:=getq p;obtain⟨U,Z⟩:=eA o (x:=k) (by simp[p]);rw[show l.getD k []=x by simp[I]]at U Z;simp only[go_sem,q0,a,Q,j6,getD_at (f:=λs:Str=>[D.str s]) I];refine cD rfl (by simp only[go_sem];exact A x) ?_;rintro _ rfl;by_cases e:bC 0 l x=(k:Int);.simp only[go_sem,a,e,ah (k:=k) a7];refine cj p ⟨U (E4 e),?_⟩;exact X7
 .obtain rfl:=Z (G0 e);simp only[go_sem,a,e]
def zp f:fnV f=.agg [bW f.name,aw (f.p.map λs=>[.str s]),aw (f.l.map λs=>[.str s]),bO f.word,aw (f.body.map smD)]:=rfl
def pF(l:List Str):List.map C.d (l.map λs=>[D.str s]).flatten=l.map λw=>bW w:=by induction l with|nil=>rfl;|cons a l b=>grind
def rN(l:List Str):∀e∈(l.map λs=>[D.str s]),z e=1:=λe a=>by grind
def Jr{o} f(U:z f.p<=1000000)(Z:z f.l<=1000000):cn Tryz.prog 4 o 106 [fnV f] (·=lA (kB f)):=by
 refine hdG Tryz.func106 rfl [.tmp 2] λO bc s0 w0 g=>?_;rw[zp];simp only[go_sem];refine cG aP mixed aN [3] [([],[],[0],F),([1],[0],[],F),([4],[0],[],F),([3,5],[],[0],F),([1],[0],[],F),([7],[0],[],F),([6,8],[],[0],F),([9],[],[],T)] 1 rfl c9 rfl a8 ?_;simp only[go_sem];(refine cw gdD Z4 ?_);iterate 2 (refine au gdD (λ_ _ _ _ J=>by simp only[go_sem]at J|-;exact J) ?_)
 (apply cw;(case hg=>exact A6);(case U=>intro d ga e a J;simp only[go_sem,pF,j6]at J|-;exact⟨rN _,⟨a8,a7⟩,J⟩));iterate 2 (refine au gdD (λ_ _ _ _ J=>by simp only[go_sem]at J|-;exact J) ?_)
 (apply cw;(case hg=>exact A6);(case U=>intro d ga e a J;simp only[go_sem,pF,j6]at J|-;exact⟨a7,rN _,⟨a8,a7⟩,J⟩));refine cH A6 ?_;intro a b;simp only[go_sem];refine b _ ?_;clear b a;simp only[go_sem];refine⟨_,⟨_,uR c8 (by simp[upd,kB,s6]) (by simp[kB]),rfl⟩,rfl⟩
def wC p(hv:z p.v<=1000000)(W:z p.a<=1000000)(hf:z p.f<=1000000):aR Tryz.prog 105 [cK p] (·=lA (fV p)):=by
 refine hdP Tryz.func105 rfl [2] λg=>?_;rw[cI];simp only[go_sem,pF,j6];refine⟨rN _,⟨a8,a7⟩,?_⟩;refine ez (λk K=>∃G:List Str,G++(p.a.drop k).map (·.1)++p.f.map (·.name)=fV p/\z G=z p.v+k/\K.f 1=aj 1 (K.gen 1) 0/\K.obj 1=S [aw (p.v.map λs=>[.str s]),aw (p.a.map arD),aw (p.f.map fnD)]/\K.f 3=eS 6 (K.gen 6) 1 0 (z G)/\K.obj 6=S (G.map λw=>bW w)/\K.f 4=ae k) (z p.a) ⟨p.v,rfl,rfl,?_⟩ ?_;.exact gO
 rintro k f L O I⟨G,o,b,e,o1,i,j,x⟩;simp only at e o1 i j x;have y:=ah (k:=k) a7;by_cases r:k<z p.a
 .have Q:(k:Int)<(z p.a:Int):=a7;obtain⟨a,t⟩:=getq r;have u:=getD_at (f:=arD) t;have q:arD a=[.str a.1,.int .i64 a.2]:=rfl;rw[q]at u;simp only[go_sem,e,o1,i,j,x,Q,j6,u,y];refine⟨l7 _,⟨a8,a7⟩,cj r ⟨G++[a.1],?_,by grind,?_⟩⟩;.rw[<-o,eO t];simp
  .simp only[go_sem,e,o1,j7,C2];rw[s6 b9]
 have Q:¬(k:Int)<(z p.a:Int):=a7;rw[y8 a7]at o;simp only[go_sem,e,o1,x,Q,j6];refine ez (λk K=>∃G:List Str,G++(p.f.drop k).map (·.name)=fV p/\z G<=2000000+k/\K.f 1=aj 1 (K.gen 1) 0/\K.obj 1=S [aw (p.v.map λs=>[.str s]),aw (p.a.map arD),aw (p.f.map fnD)]/\K.f 3=eS 6 (K.gen 6) 1 0 (z G)/\K.obj 6=S (G.map λw=>bW w)/\K.f 5=ae k) (z p.f) ⟨G,by grind,a7,?_⟩ ?_;.simp only[go_sem,e,o1,i,j]
 clear e o1 i j x Q y r o b I G;rintro k f L O I⟨G,o,b,e,o1,i,j,A⟩;simp only at e o1 i j A;by_cases r:k<z p.f
 .have Q:(k:Int)<(z p.f:Int):=a7;obtain⟨fn,t⟩:=getq r;have u:=getD_at (f:=fnD) t;have U:fnD fn=[.str fn.name,.sl (fn.p.map λs=>[.str s]),.sl (fn.l.map λs=>[.str s]),.bool fn.word,.sl (fn.body.map smD)]:=rfl;rw[U]at u;simp only[go_sem,e,o1,i,j,A,Q,j6,u,ah (k:=k) a7];refine⟨l7 _,⟨a8,a7⟩,cj r ⟨G++[fn.name],?_,by grind,?_⟩⟩;.rw[<-o,eO t];simp
  .simp only[go_sem,e,o1,j7,C2];rw[s6 b9]
 have Q:¬(k:Int)<(z p.f:Int):=a7;rw[y8 a7,x7,u7]at o;simp only[go_sem,e,o1,i,A,Q,j6];exact⟨_,⟨_,uR rfl j rfl,rfl⟩,by rw[<-o];rfl⟩
def zq{s}{a b}:uD s [ae a,ae b] (.tup [ae a,ae b]):=⟨_,⟨_,_,rfl,mn _,_,_,rfl,mn _,rfl⟩,rfl⟩
def ON{o} p(q:z p.v<=1000000)(t:z p.a<=1000000)(hf:z p.f<=1000000)(i:Nat) fn(j:p.f[i]?=S fn)(U:z fn.p<=1000000)(Z:z fn.l<=1000000)(s:Str):cn Tryz.prog 4 o 108 [cK p,ae i,sv s] (·=.tup [ae (fg p fn s).1,ae (fg p fn s).2]):=by
 refine hdG Tryz.func108 rfl [.tmp 6,.tmp 7] λO bc s0 w0 g=>?_;have c4:=(l9.1 j).1;have h:(i:Int)<(z p.f:Int):=a7;have n:=getD_at (f:=fnD) j;have u:fnD fn=[.str fn.name,.sl (fn.p.map λs=>[.str s]),.sl (fn.l.map λs=>[.str s]),.bool fn.word,.sl (fn.body.map smD)]:=rfl;rw[u]at n;have hN:=Jr (o:=o) fn U Z;have an:z (kB fn)<=2000000:=by simp[kB];omega
 have y:z (fV p)<=3000000:=by simp[fV];omega
 have hG:=wC p q t hf;rw[zp]at hN;rw[cI]at hG|-;simp only[go_sem,h,j6,n];refine dm rfl abv ?_;rintro _ rfl;simp only[go_sem];refine kr rfl (by simp only[go_sem];exact vd (kB fn) s a7) ?_;rintro _ rfl;unfold fg;obtain⟨k,hk⟩:∃k,bC 0 (kB fn) s=k:=⟨_,rfl⟩;rw[hk];by_cases d:0<=k;.simp only[go_sem,d];simp_all[zq]
 rw[l4 d];simp only[go_sem,d];refine kr rfl adr ?_;rintro _ rfl;simp only[go_sem];refine kr rfl (by simp only[go_sem];exact vd (fV p) s a7) ?_;rintro _ rfl;have w:=Src.lR (fV p) 0 s;obtain⟨k,hk⟩:∃k,bC 0 (fV p) s=k:=⟨_,rfl⟩;rw[hk]at w|-;by_cases hn:k<0;.simp only[go_sem,hn];simp_all[zq]
 by_cases b:k<(z p.v:Int);.simp only[go_sem,hn,b,j6];simp_all[zq]
 have e:IntKind.i64.wrap (k-(z p.v:Int))=k-z p.v:=wrap_i64 _ a7 a7;by_cases c:k-(z p.v:Int)<(z p.a:Int);.simp only[go_sem,hn,b,j6,e,c];simp_all[zq]
 have x:IntKind.i64.wrap (k-(z p.v:Int)-(z p.a:Int))=k-z p.v-z p.a:=wrap_i64 _ a7 a7;simp only[go_sem,hn,b,j6,e,c];refine aZ c9 ?_;simp only[go_sem,x,j6];exact⟨_,zq,by grind⟩
end Go.Proofs.YtfdbpgoicedpcaaGreatDoor
namespace Go.Src
attribute [local congr] Go.Am.ite_cc
open Go.Asm (Str)
abbrev Us:=Str×Int×Int
def us1(kind:Int)(name:Str)(n:Nat):List Us:=if kind=2 then [(name,1,0)]else if kind=3 then [(name,3,0)]else if kind=4 then [(name,4,(n:Int))]else []
mutual
def usE:Ex->List Us
 |.mk kind _ _ name kids=>us1 kind name (z kids)++oU kids
def oU:List Ex->List Us
 |[]=>[]
 |e::l=>usE e++oU l
end
def us2(kind:Int)(name:Str)(n:Nat):List Us:=if kind=1 then [(name,1,0)]else if kind=2 then [(name,3,0)]else if kind=6 then [(name,4,(n:Int))]else []
mutual
def usS:Stm->List Us
 |.mk kind name e a el=>us2 kind name (z e)++oU e++kc a++kc el
def kc:List Stm->List Us
 |[]=>[]
 |e::l=>usS e++kc l
end
mutual
theorem TC:∀e:Ex,z (usE e)<=szE e
 |.mk kind _ _ name kids=>by
   have h:=zr kids;rw[usE,szE,j7];have:(us1 kind name (z kids)).length<=1:=by unfold us1;(repeat' split)<;>simp
   omega
theorem zr:∀l:List Ex,z (oU l)<=aO l
 |[]=>by simp[oU]
 |e::l=>by
   have:=TC e;have:=zr l;rw[oU,aO,j7];omega
end
mutual
theorem TD:∀e:Stm,z (usS e)<=szS e
 |.mk kind name e a el=>by
   have:=zr e;have:=zt a;have:=zt el;rw[usS,szS];simp only[j7];have:(us2 kind name (z e)).length<=1:=by unfold us2;(repeat' split)<;>simp
   omega
theorem zt:∀l:List Stm,z (kc l)<=aI l
 |[]=>by simp[kc]
 |e::l=>by
   have:=TD e;have:=zt l;rw[kc,aI,j7];omega
end
end Go.Src
namespace Go.Proofs.YtfdbpgoicedpcaaGreatDoor
open Go Go.Am Go.Asm
open Go.Src (Ex Stm Us us1 us2 usE oU usS kc szE aO szS aI)
attribute[local congr]ite_cc
def usD(u:Us):List D:=[.str u.1,.int .i64 u.2.1,.int .i64 u.2.2]
def ve(l:List Us):AV:=.one (aw (l.map usD))
def usC(l:List Us):List C:=l.flatMap λu=>(usD u).map .d
def vf(l:List Us):z (usC l)=z l*3:=by induction l with|nil=>rfl;|cons a l b=>simp only[usC,A8,j7]at b|-;rw[b];simp[usD];omega
def Js(a b:List Us):usC (a++b)=usC a++usC b:=by simp[usC]
def xW(l:List Us):List.map C.d (l.map usD).flatten=usC l:=by induction l with|nil=>rfl;|cons a l b=>simp only[s7,J8,C2,b];rfl
def vg(l:List Us):∀e∈l.map usD,z e=3:=λe a=>by obtain⟨s,_,rfl⟩:=E6.1 a;rfl
def OO{s:St}{id g:Nat}{l:List Us}(hg:s.gen id=g)(ho:s.obj id=S (usC l)):oh s (eS id g 3 0 (z l)) (ve l):=⟨_,fJ hg l usD ho rfl (λa _ x I=>by simp only[usD,A0,A9,D8]at I;rcases I with rfl|rfl|rfl<;>rfl) (λ_ _=>rfl) rfl,rfl⟩
def TF{o:cM}:∀(al:Nat)(l:List Ex),aO l<=al->al<=1000000->cn Tryz.prog 4 o 181 [ea l] (·=ve (oU l)):=by intro al;induction al using Nat.strongRecOn with|ind al ih=>
 intro l hN i;refine hdG Tryz.func181 rfl [.tmp 2] λO bc s0 w0 g=>?_;have b4:=Src.PS l;have Y:=Src.zr l;unfold ea;simp only[go_sem];refine Jp _ (sd (t:=3) (id:=100) (sz:=3) c8) (λk K=>∃G:List Us,G++oU (l.drop k)=oU l/\K.f 0=.one (aw (l.map exD))/\K.f 3=eS 100 (K.gen 100) 3 0 (z G)/\K.obj 100=S (usC G)/\K.f 4=ae k) (z l) ⟨[],rfl,?_⟩ ?_;.simp only[St.grab];simp only[go_sem];rfl
 rintro k f g1 av hk⟨G,x,q,w,oi,v⟩;simp only at q w oi v;have hw:=ah (k:=k) a7;by_cases W:k<z l;case neg=>have Q:¬(k:Int)<(z l:Int):=a7;rw[y8 a7,oU,u7]at x;rw[<-x];simp only[go_sem,q,w,v,Q,j6];exact⟨_,OO rfl oi,rfl⟩
 have Q:(k:Int)<(z l:Int):=a7;obtain⟨e,V⟩:=getq W;have az:=Src.vu (l8 V);have hg:=getD_at (f:=exD) V;obtain⟨kind,op,num,name,j⟩:=e;rw[eO V,oU,usE]at x;rw[szE]at az;have I:exD (.mk kind op num name j)=[.int .i64 kind,.int .i64 op,.int .u32 num,.str name,.sl (j.map exD)]:=by simp only[exD,aL]
 rw[I]at hg;have J:=ih (aO j) a7 j (l7 _) a7;have a:=Src.zr j;unfold ea at J;have b:z G+z (oU j)+1<=1000001:=by have:=congrArg z x;simp only[j7]at this;omega
 obtain⟨u,L⟩:∃u,us1 kind name (z j)=u:=⟨_,rfl⟩;rw[L]at x;unfold us1 at L;have hC:=vf G;by_cases y:kind=2;case' pos=>rw[s5 y]at L;simp only[go_sem,q,w,oi,v,Q,j6,hg,y];refine⟨a7,⟨a8,a7⟩,?_⟩
 case' neg=>
  rw[l4 y]at L;by_cases A:kind=3;case' pos=>rw[s5 A]at L;simp only[go_sem,q,w,oi,v,Q,j6,hg,A];refine⟨a7,⟨a8,a7⟩,?_⟩
  case' neg=>
  rw[l4 A]at L;by_cases B:kind=4;case' pos=>
   rw[s5 B]at L;simp only[go_sem,q,w,oi,v,Q,j6,hg,B];refine cG aP mixed aN [53,100] [([3],[0],[],F),([0],[],[],F),([4],[],[],F),([41,42],[],[],F),([43],[],[],F),([44],[],[],F),([0],[],[],F),([4],[],[],F),([46,47],[],[],F),([48],[],[],F),([49],[],[],F),([50],[],[],F),([45,51],[],[],F),([52],[],[0],F),([40,53],[],[1],F),([54],[],[],T)] 2 rfl c9 rfl a8 ?_;simp only[go_sem];iterate 13 (refine au gdD (λ_ _ _ _ J=>by simp only[go_sem,q,w,v,Q,hg,j6]at J|-;exact J) ?_)
   (refine cw gdD Z4 ?_);(apply cw;(case hg=>exact A6);(case U=>intro fa ga oa Z J;simp only[go_sem,oi]at J|-;exact⟨a7,⟨a8,a7⟩,J⟩));refine cH A6 ?_;intro Z a';simp only[go_sem];refine a' _ ?_;clear a' Z;simp only[go_sem,q,v,hg]
  case' neg=>rw[l4 B]at L;simp only[go_sem,q,w,oi,v,Q,j6,hg,y,A,B]
 all_goals refine dm rfl (by simp only[go_sem];exact J) ?_
 all_goals rintro _ rfl
 all_goals unfold ve
 all_goals simp only[go_sem,xW,j6,w,oi,v,hw]
 all_goals refine⟨by grind,vg _,⟨a8,a7⟩,cj W ⟨G++u++oU j,by grind,?_⟩⟩
 all_goals subst L
 all_goals simp only[go_sem,q,j7,Js,s6,hC,l7]
 all_goals rw[s6 ZN];rfl
def OP{o:cM}:∀(al:Nat)(l:List Stm),aI l<=al->al<=1000000->cn Tryz.prog 4 o 107 [eU l] (·=ve (kc l)):=by intro al;induction al using Nat.strongRecOn with|ind al V=>
 intro l hN i;refine hdG Tryz.func107 rfl [.tmp 2] λO bc s0 w0 g=>?_;have b4:=Src.PT l;have Y:=Src.zt l;unfold eU;simp only[go_sem];refine Jp _ (sd (t:=3) (id:=100) (sz:=3) c8) (λk K=>∃G:List Us,G++kc (l.drop k)=kc l/\K.f 0=.one (aw (l.map smD))/\K.f 3=eS 100 (K.gen 100) 3 0 (z G)/\K.obj 100=S (usC G)/\K.f 4=ae k) (z l) ⟨[],rfl,?_⟩ ?_;.simp only[St.grab];simp only[go_sem];rfl
 rintro k f g1 av hk⟨G,w,a,q,oi,j⟩;simp only at a q oi j;have hw:=ah (k:=k) a7;by_cases W:k<z l;case neg=>have Q:¬(k:Int)<(z l:Int):=a7;rw[y8 a7,kc,u7]at w;rw[<-w];simp only[go_sem,a,q,j,Q,j6];exact⟨_,OO rfl oi,rfl⟩
 have Q:(k:Int)<(z l:Int):=a7;obtain⟨e,B⟩:=getq W;have az:=Src.nd (l8 B);have hg:=getD_at (f:=smD) B;obtain⟨kind,name,e,v,el⟩:=e;rw[eO B,kc,usS]at w;rw[szS]at az;have I:smD (.mk kind name e v el)=[.int .i64 kind,.str name,.sl (e.map exD),.sl (v.map smD),.sl (el.map smD)]:=by simp only[smD,aL,dy]
 rw[I]at hg;have hE:=TF (o:=o) (aO e) e (l7 _) a7;have hT:=V (aI v) a7 v (l7 _) a7;have hL:=V (aI el) a7 el (l7 _) a7;unfold ea at hE;unfold eU at hT hL;have b:z G+z (oU e)+z (kc v)+z (kc el)+1<=1000001:=by have:=congrArg z w;simp only[j7]at this;omega
 obtain⟨u,L⟩:∃u,us2 kind name (z e)=u:=⟨_,rfl⟩;rw[L]at w;unfold us2 at L;have hC:=vf G;by_cases x:kind=1;case' pos=>rw[s5 x]at L;simp only[go_sem,a,q,oi,j,Q,j6,hg,x];refine⟨a7,⟨a8,a7⟩,?_⟩
 case' neg=>
  rw[l4 x]at L;by_cases y:kind=2;case' pos=>rw[s5 y]at L;simp only[go_sem,a,q,oi,j,Q,j6,hg,y];refine⟨a7,⟨a8,a7⟩,?_⟩
  case' neg=>
  rw[l4 y]at L;by_cases A:kind=6;case' pos=>
   rw[s5 A]at L;simp only[go_sem,a,q,oi,j,Q,j6,hg,A];refine cG aP mixed aN [53,100] [([3],[0],[],F),([0],[],[],F),([4],[],[],F),([41,42],[],[],F),([43],[],[],F),([44],[],[],F),([0],[],[],F),([4],[],[],F),([46,47],[],[],F),([48],[],[],F),([49],[],[],F),([50],[],[],F),([45,51],[],[],F),([52],[],[0],F),([40,53],[],[1],F),([54],[],[],T)] 2 rfl c9 rfl a8 ?_;simp only[go_sem];iterate 13 (refine au gdD (λ_ _ _ _ J=>by simp only[go_sem,a,q,j,Q,hg,j6]at J|-;exact J) ?_)
   (refine cw gdD Z4 ?_);(apply cw;(case hg=>exact A6);(case U=>intro fa ga oa Z J;simp only[go_sem,oi]at J|-;exact⟨a7,⟨a8,a7⟩,J⟩));refine cH A6 ?_;intro Z a';simp only[go_sem];refine a' _ ?_;clear a' Z;simp only[go_sem,a,j,hg]
  case' neg=>rw[l4 A]at L;simp only[go_sem,a,q,oi,j,Q,j6,hg,x,y,A]
 all_goals refine dm rfl abZ ?_
 all_goals rintro _ rfl
 all_goals unfold ve
 all_goals simp only[go_sem,xW,j6,a,q,oi,j,hg]
 all_goals refine⟨by grind,vg _,⟨a8,a7⟩,?_⟩
 all_goals try simp only[go_sem,a,j,hg]
 all_goals refine dm rfl abt ?_
 all_goals rintro _ rfl
 all_goals unfold ve
 all_goals simp only[go_sem,xW,j6,a,j,hg]
 all_goals refine⟨by simp only[j7,E5,vf,j8,l5];omega,vg _,⟨a8,a7⟩,?_⟩
 all_goals try simp only[go_sem,a,j,hg]
 all_goals refine dm rfl abu ?_
 all_goals rintro _ rfl
 all_goals unfold ve
 all_goals simp only[go_sem,xW,j6,a,j,hw]
 all_goals refine⟨by simp only[j7,E5,vf,j8,l5];omega,vg _,⟨a8,a7⟩,cj W ⟨G++u++oU e++kc v++kc el,by grind,?_⟩⟩
 all_goals subst L
 all_goals simp only[go_sem,a,j7,Js]
 all_goals (repeat rw[s6 (by simp only[j7,E5,vf,j8,l5];omega)])
 all_goals rfl
end Go.Proofs.YtfdbpgoicedpcaaGreatDoor
namespace Go.Src
section
open Go.Asm (Str)
def ub:∀a b k s,bC k (a++b) s=if bC k a s<0 then bC (k+z a) b s else bC k a s
 |[],b,k,s=>by rfl;|x::a,b,k,s=>by
  rw[z6,bC,bC];by_cases h:x=s;.grind
  .rw[l4 h,l4 h,ub a b,j8,show k+1+z a=k+(z a+1) by omega]
def thG(c:Nat):Nat->List Str->List Th|_,[]=>[]|k,x::l=>(x,c,k)::thG c (k+1) l
def Jt c:∀a b k,thG c k (a++b)=thG c k a++thG c (k+z a) b|[],b,k=>by rfl;|x::a,b,k=>by simp only[z6,thG,Jt c a b,j8];grind
def lS{H:Type} c g:∀(l:List H) k,l.mapIdx (λi x=>(g x,c,k+i))=thG c k (l.map g)|[],k=>rfl|x::l,k=>by rw[L9,s7,thG,<-lS c g l (k+1)];grind
def mw c s:∀l k,bb (thG c k l) s=if bC k l s<0 then N else S (c,(bC k l s).toNat)
 |[],k=>rfl|x::l,k=>by
  rw[thG,bb,bC];by_cases h:x=s;.grind
  .rw[l4 h,l4 h,mw c s l (k+1)]
def zu f:bQ f=thG 1 0 (kB f):=by unfold bQ thL kB;rw[Jt];have U:=lS 1 (λn:Str=>n) f.p 0;have Z:=lS 1 (λn:Str=>n) f.l (z f.p);simp_all
def zw p:bH p=thG 2 0 p.v++thG 3 0 (p.a.map (·.1))++thG 4 0 (p.f.map (·.name)):=by unfold bH thV thA thF;have U:=lS 2 (λn:Str=>n) p.v 0;rw[List.map_id']at U;have Z:=lS 3 (λa:Str×Int=>a.1) p.a 0;have b:=lS 4 (λf:Fn=>f.name) p.f 0;grind
def mZ:∀l k s,bC k l s=if bC 0 l s<0 then-1 else bC 0 l s+k
 |[],_,_=>rfl|x::l,k,s=>by
  rw[bC,bC];by_cases h:x=s;.grind
  .rw[l4 h,l4 h,mZ l (k+1),mZ l (0+1)];omega
def Fa p f s:fg p f s=match bG (bH p) (bQ f) s with|some x=>((x.1),(x.2))|none=>(0,-1):=by
 unfold fg bG;rw[zu,mw,zw,oQ,oQ,mw,mw,mw];have g:=lR (kB f) 0 s;by_cases h:bC 0 (kB f) s<0;case neg=>grind
 rw[l4 a7,s5 h];simp only;have e:=lR p.v 0 s;have g3:=lR (p.a.map (·.1)) 0 s;have g4:=lR (p.f.map (·.name)) 0 s;rw[j6]at g3 g4;have J:bC 0 (fV p) s=if bC 0 p.v s<0 then(if bC 0 (p.a.map (·.1)) s<0 then(if bC 0 (p.f.map (·.name)) s<0 then-1 else bC 0 (p.f.map (·.name)) s+((z p.v+z p.a:Nat):Int))else bC 0 (p.a.map (·.1)) s+z p.v)else bC 0 p.v s:=by unfold fV;rw[ub,ub,D2,D2,mZ _ (z p.v),mZ _ (z (p.v++p.a.map (·.1))),j7,j6];(repeat' split)<;>omega
 rw[J];generalize bC 0 p.v s=a at e|-;generalize bC 0 (p.a.map (·.1)) s=b at g3|-;generalize bC 0 (p.f.map (·.name)) s=c at g4|-;by_cases d:a<0;case neg=>grind
 rw[s5 d,s5 d];grind
def adP{l:List Str}{i}(h:i<z l):l.getD i []=l[i]:=by grind
def xq:∀l k,(∀i,i<z l->bC k l (l.getD i [])=((k+i:Nat)))↔l.Nodup
 |[],k=>by simp;|x::l,k=>by
  rw[Rc,<-xq l (k+1)];constructor
  .intro h;have I:∀i,i<z l->x≠l.getD i []/\bC (k+1) l (l.getD i [])=((k+1+i:Nat):Int):=λi a=>by have:=h (i+1) ZN;rw[R4,bC]at this;grind
   refine⟨λb=>?_,λi a=>(I i a).2⟩;obtain⟨i,a,e⟩:=List.getElem_of_mem b;grind
  .rintro⟨b,h⟩i a;cases i with|zero=>simp[bC];|succ i=>
 have a:i<z l:=by simpa using a
 rw[R4,bC,l4 (λe=>b ZN),h i a];omega
def xr l:fO l=T↔l.Nodup:=by rw[<-xq l 0];grind[fO]
def CM{l}{s}:(bb l s).isNone=T↔s∉l.map (·.1):=by induction l with|nil=>simp[bb];|cons t l a=>grind[bb]
def rO:∀l a,cQ a l=T↔(∀t∈l,t.1∉a.map (·.1))/\(l.map (·.1)).Nodup|[],a=>by simp[cQ];|t::l,a=>by rw[cQ,l6,CM,rO l];grind
def vh c:∀l k,(thG c k l).map (·.1)=l|[],_=>rfl|x::l,k=>by rw[thG,s7,vh c l]
def Hz f:cQ [] (bQ f)=fO (kB f):=by rw[US,rO,xr,zu,vh];simp
def HA p:cQ [] (bH p)=fO (fV p):=by rw[US,rO,xr,zw,C2,C2,vh,vh,vh];simp[fV]
def asK(a:Int):Nat:=if a=1 then 2 else a.toNat
def vU(u:Nat->Str->Nat->Bool)(x:Us):Bool:=u (asK x.2.1) x.1 x.2.2.toNat
def TG u kind name n:(us1 kind name n).all (vU u)=if kind=2 then u 2 name 0 else if kind=3 then u 3 name 0 else if kind=4 then u 4 name n else T:=by grind[us1,vU,asK]
def TH u kind name n:(us2 kind name n).all (vU u)=if kind=1 then u 2 name 0 else if kind=2 then u 3 name 0 else if kind=6 then u 4 name n else T:=by grind[us2,vU,asK]
mutual
theorem XY(u:Nat->Str->Nat->Bool):∀e:Ex,okE u e=(usE e).all (vU u)
 |.mk kind _ _ name kids=>by rw[okE,usE,F7,TG,CN u kids]
theorem CN(u:Nat->Str->Nat->Bool):∀l:List Ex,eP u l=(oU l).all (vU u)
 |[]=>rfl
 |e::l=>by rw[eP,oU,F7,XY u e,CN u l]
end
mutual
theorem XZ(u:Nat->Str->Nat->Bool):∀e:Stm,okS u e=(usS e).all (vU u)
 |.mk kind name e a el=>by rw[okS,usS,F7,F7,F7,TH,CN u e,vj u a,vj u el]
theorem vj(u:Nat->Str->Nat->Bool):∀l:List Stm,fp u l=(kc l).all (vU u)
 |[]=>rfl
 |e::l=>by rw[fp,kc,F7,XZ u e,vj u l]
end
end
attribute [local congr] Go.Am.ite_cc
open Go.Asm (Str)
def zm(p:Prog)(i:Nat)(f:Fn)(x:Us):Bool:=!(decide (x.2.1=1/\(fg p f x.1).1≠1/\(fg p f x.1).1≠2)||decide (x.2.1=3/\(fg p f x.1).1≠3)||decide (x.2.1=4/\((fg p f x.1).1≠4\/(i:Int)<=(fg p f x.1).2)))
def ju(p:Prog)(i:Nat)(f:Fn):Bool:=fO (kB f)&&(kc f.body).all (zm p i f)
def wA(p:Prog)(f:Fn)(x:Us):Bool:=if x.2.1=4 then(match p.f[(fg p f x.1).2.toNat]? with|some g=>decide ((z g.p:Int)=x.2.2)|none=>T)else T
def Az(x:Us):Prop:=(x.2.1=1\/x.2.1=3\/x.2.1=4)/\0<=x.2.2
def XQ kind name n:∀x∈us1 kind name n,Az x:=by grind[us1,Az]
def XS kind name n:∀x∈us2 kind name n,Az x:=by grind[us2,Az]
mutual
theorem XT:∀(e:Ex),∀x∈usE e,Az x
 |.mk kind _ _ name kids=>by rw[usE];exact H7.2 ⟨XQ _ _ _,CB kids⟩
theorem CB:∀(l:List Ex),∀x∈oU l,Az x
 |[]=>λ_ h=>by rw[oU]at h;cases h
 |e::l=>by rw[oU];exact H7.2 ⟨XT e,CB l⟩
end
mutual
theorem XU:∀(e:Stm),∀x∈usS e,Az x
 |.mk kind name e a el=>by rw[usS];exact H7.2 ⟨H7.2 ⟨H7.2 ⟨XS _ _ _,CB e⟩,va a⟩,va el⟩
theorem va:∀(l:List Stm),∀x∈kc l,Az x
 |[]=>λ_ h=>by rw[kc]at h;cases h
 |e::l=>by rw[kc];exact H7.2 ⟨XU e,va l⟩
end
def zn{H:Type}{p q}:∀{l:List H},(∀x∈l,p x=q x)->l.all p=l.all q|[],_=>rfl|a::l,h=>by grind
def Tn p i f x(h:Az x):zm p i f x=vU (λk n _=>bT (bG (bH p) (bQ f)) i k n) x:=by unfold zm vU bT;simp only;rw[Fa];generalize bG (bH p) (bQ f) x.1=r;cases r with|none=>rcases h.1 with e|e|e<;>simp[e];|some y=>obtain⟨a,b⟩:=y;simp only;have U:((a:Int)=1↔a=1)/\((a:Int)=2↔a=2)/\((a:Int)=3↔a=3)/\((a:Int)=4↔a=4)/\((i:Int)<=(b:Int)↔¬b<i):=a7;simp only[ne_eq,U];rcases h.1 with e|e|e<;>rw[e]<;>by_cases c:a=1<;>by_cases d:a=2<;>by_cases g:a=3<;>by_cases j:a=4<;>by_cases l:b<i<;>simp[asK,c,d,g,j,l]<;>omega
def Lc p i f:ju p i f=mN p i f:=by unfold ju mN;rw[Hz,vj,zn λx I=>Tn p i f x (va _ x I)]
def To p i f x(h:Az x)(b:zm p i f x=T):wA p f x=vU (λk n a=>iz (bG (bH p) (bQ f)) p.f i k n a) x:=by unfold zm at b;unfold wA vU iz;simp only;rw[Fa]at b|-;generalize bG (bH p) (bQ f) x.1=r at b|-;cases r with|none=>grind;|some y=>
 simp only at b|-;rcases h.1 with e|e|e;.grind
 .grind
 .have U:y.1=4/\y.2<i:=by rw[e]at b;simp at b;omega
  have c:=h.2;rw[s5 e,s5 ⟨by rw[e];rfl,U.1,U.2⟩];grind
def OC(p:Prog):Nat:=if (fO (fV p)&&ck (ju p) 0 p.f)=F then 4 else match p.f.getLast? with|none=>0|some f=>if (p.f.all λf=>(kc f.body).all (wA p f))=T/\f.name=VW/\f.p=[]/\f.word=F then 0 else 1
def qp{H}{c d}:∀(l:List H) i,(∀k x,l[k]?=S x->c (i+k) x=d (i+k) x)->ck c i l=ck d i l
 |[],_,_=>rfl|a::l,i,h=>by
  have b:=qp (c:=c) (d:=d) l (i+1) λk x I=>by have:=h (k+1) x ZN;grind
  rw[ck,ck,show c i a=d i a from h 0 a rfl,b]
def Bp{H}{c}:∀{l}{i k}{x:H},ck c i l=T->l[k]?=S x->c (i+k) x=T|a::l,i,0,x,h,I=>by simp_all[ck];|a::l,i,k+1,x,h,I=>by rw[ck,l6]at h;rw[show i+(k+1)=i+1+k by omega];exact Bp h.2 ZN
def vb{H}{c}:∀(l:List H) i,ck (λ_=>c) i l=l.all c|[],_=>rfl|a::l,i=>by rw[ck,D1,vb l]
def ZG p:OC p=lh p:=by
 unfold OC lh;rw[HA,show ck (mN p) 0 p.f=ck (ju p) 0 p.f from qp _ _ λk x _=>(Lc p _ x).symm];by_cases a:(fO (fV p)&&ck (ju p) 0 p.f)=F;.grind
 rw[l4 a,l4 a];have a:ck (ju p) 0 p.f=T:=by
  have:(fO (fV p)&&ck (ju p) 0 p.f)=T:=by simpa using a
  exact(l6 _ _▸this).2
 have e:(p.f.all λf=>(kc f.body).all (wA p f))=ck (Da p) 0 p.f:=by rw[<-vb _ 0];refine qp _ _ λk x I=>?_;unfold Da;rw[vj];have b:=Bp a I;unfold ju at b;rw[l6,z7]at b;exact zn λy c=>To p (0+k) x y (va _ y c) (b.2 y c)
 grind
end Go.Src
namespace Go.Proofs.YtfdbpgoicedpcaaGreatDoor
open Go Go.Am Go.Asm
open Go.Src (bC fO kB fV fg Us kc zm wA ju ck aI)
attribute[local congr]ite_cc
structure Sm (p:Src.Prog):Prop where
 v:p.v.length<=100000
 a:p.a.length<=100000
 f:p.f.length<=100000
 fs:∀f∈p.f,(f.p.length<=100000/\f.l.length<=100000)/\aI f.body<=100000
variable{o:cM}
def Tq p(hp:Sm p):cn Tryz.prog 4 o 65 [cK p] (·=bv (fO (fV p)&&ck (ju p) 0 p.f)):=by
 refine hdG Tryz.func65 rfl [.tmp 2] λO bc s0 w0 g=>?_;obtain⟨X,hz⟩:∃X,(fO (fV p)&&ck (ju p) 0 p.f)=X:=⟨_,rfl⟩;rw[hz];obtain⟨pv,pa,pf,w⟩:=hp;have hG:=wC p a7 a7 a7;have hF:=λi fn hi s=>ON (o:=o) p a7 a7 a7 i fn hi ZN ZN s;have bn:z (fV p)<=300000:=by simp[fV];omega
 rw[cI]at hG hF|-;simp[go_sem];refine kr rfl adr ?_;rintro _ rfl;simp[go_sem];refine kr rfl (by simp only[go_sem];exact EZ (fV p) a7) ?_;rintro _ rfl;cases hu:fO (fV p);.exact q9
 rw[hu,A7]at hz;clear hu;simp only[go_sem];refine ez (λk K=>ck (ju p) k (p.f.drop k)=X/\K.f 1=aj 1 (K.gen 1) 0/\K.obj 1=S [aw (p.v.map λs=>[.str s]),aw (p.a.map arD),aw (p.f.map fnD)]/\K.f 3=ae k) (z p.f) ⟨hz,?_⟩ ?_;.exact gO
 rintro k f g1 av hk⟨L,q1,o1,u⟩;simp only at q1 o1 u;by_cases af:k<z p.f;case neg=>have Q:¬(k:Int)<(z p.f:Int):=a7;rw[y8 a7,ck]at L;subst L;simp only[go_sem,q1,o1,u,Q,j6]
 have Q:(k:Int)<(z p.f:Int):=a7;obtain⟨fn,hs⟩:=getq af;have hg:=getD_at (f:=fnD) hs;have a6:fnD fn=[.str fn.name,.sl (fn.p.map λs=>[.str s]),.sl (fn.l.map λs=>[.str s]),.bool fn.word,.sl (fn.body.map smD)]:=rfl;rw[a6]at hg;obtain⟨⟨i1,G⟩,i3⟩:=w fn (l8 hs);have hF:=hF k fn hs;have hN:=Jr (o:=o) fn a7 a7;have an:z (kB fn)<=200000:=by simp[kB];omega
 have Y:=Src.zt fn.body;rw[zp]at hN;rw[eO hs,ck]at L;unfold ju at L;simp only[go_sem,q1,o1,u,Q,j6,hg];refine dm rfl abv ?_;rintro _ rfl;simp[go_sem];refine kr rfl (by simp only[go_sem];exact EZ (kB fn) a7) ?_;rintro _ rfl;cases hu:fO (kB fn);.exact q9
 rw[hu,A7]at L;simp only[go_sem,q1,o1,u,hg];refine dm rfl (by simp only[go_sem];exact (OP (o:=o) (aI fn.body) fn.body (l7 _) a7)) ?_;rintro _ rfl;unfold ve;obtain⟨W,al⟩:∃W,kc fn.body=W:=⟨_,rfl⟩;rw[al]at L Y|-;obtain⟨y,hy⟩:∃y,W.all (zm p k fn)=y:=⟨_,rfl⟩;rw[hy]at L;simp[go_sem];refine ez (λj K=>(W.drop j).all (zm p k fn)=y/\K.f 1=aj 1 (K.gen 1) 0/\K.obj 1=S [aw (p.v.map λs=>[.str s]),aw (p.a.map arD),aw (p.f.map fnD)]/\K.f 3=ae k/\K.f 4=.one (aw (W.map usD))/\K.f 5=ae j) (z W) ⟨hy,?_⟩ ?_;.simp[go_sem,q1,o1,u]
 clear q1 o1 u;rintro j f g1 av hj⟨hd,q1,o1,u,q4,q5⟩;simp only at q1 o1 u q4 q5;by_cases B:j<z W;case neg=>have bd:¬(j:Int)<(z W:Int):=a7;rw[y8 a7]at hd;obtain rfl:y=T:=hd.symm;rw[A7]at L;simp only[go_sem,q4,q5,bd,j6,u,ah (k:=k) a7];refine cj af ⟨L,?_⟩;exact K4
 have bd:(j:Int)<(z W:Int):=a7;obtain⟨x,I⟩:=getq B;obtain⟨U,Z⟩:=eA hd I;have t:=getD_at (f:=usD) I;have P:usD x=[.str x.1,.int .i64 x.2.1,.int .i64 x.2.2]:=rfl;rw[P]at t;have c:zm p k fn x=F->X=F:=λe=>by grind
 have hF:=hF x.1;unfold zm at U c;obtain⟨A,hA⟩:∃A,(fg p fn x.1).1=A:=⟨_,rfl⟩;obtain⟨n,hn⟩:∃n,(fg p fn x.1).2=n:=⟨_,rfl⟩;obtain⟨s,b,d⟩:=x;rw[hA,hn]at U c hF;simp only[go_sem,q4,q5,bd,j6];refine cG aP mixed aN [] [([1],[],[],F),([3],[],[],F),([4],[],[],F),([5],[],[],F),([43,44],[],[],F),([45],[],[],F),([46],[],[],F),([41,42,47],[],[],F),([48],[],[],F),([40],[],[],F),([40],[],[],F),([49],[],[],F),([50],[],[],T)] 0 rfl c9 rfl a8 ?_;simp[go_sem];iterate 7 (refine au gdD (λ_ _ _ _ J=>by simp only[go_sem,q1,o1,u,q4,q5,t]at J|-;exact J) ?_)
 refine au (v:=.tup [ae A,ae n]) A6 (λfa ga oa K' J=>?_) ?_;.exact Y5
 iterate 4 (refine au gdD (λ_ _ _ _ J=>by simp only[go_sem]at J|-;exact J) ?_)
 refine cH A6 ?_;intro K' a';simp[go_sem];refine a' _ ?_;clear a' K';have b2:(b=1/\A=1)\/(b=1/\A=2)\/(b=3/\A=3)\/(b=4/\A=4/\¬(k:Int)<=n)\/(¬b=1/\¬b=3/\¬b=4)\/(b=1/\¬A=1/\¬A=2)\/(b=3/\¬A=3)\/(b=4/\¬A=4)\/(b=4/\A=4/\(k:Int)<=n):=a7;rcases b2 with h|h|h|h|h|h|h|h|h;iterate 5
  .simp only[go_sem,u,q4,q5,t,h,ah (k:=j) a7];refine cj B ⟨U (by simp[h]),?_⟩;simp[go_sem,q1,o1,u,q4]
 iterate 4
 .obtain rfl:=c (by simp[h]);simp only[go_sem,u,q4,q5,t,h]
def Hx{H:Type}{l}{a:H}(h:l[z l-1]?=S a):l.getLast?=S a:=by grind
def Ld p(hp:Sm p)(H:ck (ju p) 0 p.f=T) b(b0:p.f[z p.f-1]?=S b):cn Tryz.prog 4 o 66 [cK p] (·=bv (decide ((p.f.all λf=>(kc f.body).all (wA p f))=T/\b.name=Src.VW/\b.p=[]/\b.word=F))):=by
 refine hdG Tryz.func66 rfl [.tmp 2] λO bc s0 w0 g=>?_;obtain⟨X,hz⟩:∃X,decide ((p.f.all λf=>(kc f.body).all (wA p f))=T/\b.name=Src.VW/\b.p=[]/\b.word=F)=X:=⟨_,rfl⟩;rw[hz];obtain⟨pv,pa,pf,w⟩:=hp;have hF:=λi fn hi s=>ON (o:=o) p a7 a7 a7 i fn hi ZN ZN s;rw[cI]at hF|-;obtain⟨q,hq⟩:∃q,(p.f.all λf=>(kc f.body).all (wA p f))=q:=⟨_,rfl⟩;rw[hq]at hz;simp only[go_sem];refine ez (λk K=>((p.f.drop k).all λf=>(kc f.body).all (wA p f))=q/\K.f 1=aj 1 (K.gen 1) 0/\K.obj 1=S [aw (p.v.map λs=>[.str s]),aw (p.a.map arD),aw (p.f.map fnD)]/\K.f 3=ae k) (z p.f) ⟨hq,?_⟩ ?_;.exact gO
 rintro k f g1 av hk⟨hc,q1,o1,q3⟩;simp only at q1 o1 q3;have hw:=ah (k:=k) a7;by_cases af:k<z p.f;case neg=>
  have Q:¬(k:Int)<(z p.f:Int):=a7;rw[y8 a7]at hc;rw[show q=T from hc.symm]at hz;have az:0<z p.f:=by have:=(l9.1 b0).1;omega
  have b4:IntKind.i64.wrap ((z p.f:Int)-1)=((z p.f-1:Nat):Int):=by rw[wrap_i64]<;>omega
  have hg:=getD_at (f:=fnD) b0;have a6:fnD b=[.str b.name,.sl (b.p.map λs=>[.str s]),.sl (b.l.map λs=>[.str s]),.bool b.word,.sl (b.body.map smD)]:=rfl;rw[a6]at hg;have cv:Src.VW=[109,97,105,110]:=rfl;rw[cv]at hz;simp only[go_sem,q1,o1,q3,Q,j6,b4,hg];by_cases e1:b.name=[109,97,105,110];case neg=>grind
  by_cases e2:b.p=[];case neg=>simp_all
  simp_all
 have Q:(k:Int)<(z p.f:Int):=a7;obtain⟨fn,hs⟩:=getq af;have hg:=getD_at (f:=fnD) hs;have a6:fnD fn=[.str fn.name,.sl (fn.p.map λs=>[.str s]),.sl (fn.l.map λs=>[.str s]),.bool fn.word,.sl (fn.body.map smD)]:=rfl;rw[a6]at hg;obtain⟨⟨i1,G⟩,i3⟩:=w fn (l8 hs);have hF:=hF k fn hs;have hU:=OP (o:=o) (aI fn.body) fn.body (l7 _) a7;have Y:=Src.zt fn.body;have an:=Src.va fn.body;have bn:=Src.Bp H hs;unfold ju at bn;rw[l6,z7,D2]at bn;have bn:=bn.2;obtain⟨b1,b2⟩:=eA hc hs;simp only[go_sem,q1,o1,q3,Q,j6,hg];refine dm rfl (by simp only[go_sem];exact hU) ?_;rintro _ rfl;unfold ve;obtain⟨W,al⟩:∃W,kc fn.body=W:=⟨_,rfl⟩;rw[al]at b1 b2 Y an bn|-;obtain⟨y,hy⟩:∃y,W.all (wA p fn)=y:=⟨_,rfl⟩;rw[hy]at b1 b2;simp only[go_sem];refine ez (λj K=>(W.drop j).all (wA p fn)=y/\K.f 1=aj 1 (K.gen 1) 0/\K.obj 1=S [aw (p.v.map λs=>[.str s]),aw (p.a.map arD),aw (p.f.map fnD)]/\K.f 3=ae k/\K.f 4=.one (aw (W.map usD))/\K.f 5=ae j) (z W) ⟨hy,?_⟩ ?_;.simp only[go_sem,q1,o1,q3]
 clear q1 o1 q3;rintro j f g1 av hj⟨hd,q1,o1,q3,q4,q5⟩;simp only at q1 o1 q3 q4 q5;have cm:=ah (k:=j) a7;by_cases B:j<z W;case neg=>have bd:¬(j:Int)<(z W:Int):=a7;rw[y8 a7]at hd;simp only[go_sem,q4,q5,bd,j6,q3,hw];refine cj af ⟨b1 hd.symm,?_⟩;exact K4
 have bd:(j:Int)<(z W:Int):=a7;obtain⟨x,I⟩:=getq B;obtain⟨U,Z⟩:=eA hd I;have t:=getD_at (f:=usD) I;have e:=l8 I;have E:=bn x e;have P:usD x=[.str x.1,.int .i64 x.2.1,.int .i64 x.2.2]:=rfl;rw[P]at t;have hF:=hF x.1;unfold wA at U Z;unfold zm at E;by_cases e4:x.2.1=4;case neg=>rw[l4 e4]at U;simp only[go_sem,q4,q5,bd,j6,t,e4,cm];refine cj B ⟨U rfl,?_⟩;simp only[go_sem,q1,o1,q3,q4]
 rw[s5 e4]at U Z;obtain⟨A,hA⟩:∃A,(fg p fn x.1).1=A:=⟨_,rfl⟩;obtain⟨n,hn⟩:∃n,(fg p fn x.1).2=n:=⟨_,rfl⟩;have a1:=Src.Fa p fn x.1;have bf:0<=n/\n<z p.f:=by rw[hA,hn,e4]at E;simp at E;refine⟨?_,a7⟩;rw[<-hn,a1];cases V:Src.bG (Src.bH p) (Src.bQ fn) x.1 with|none=>grind;|some r=>simp
 rw[hn]at U Z;rw[hA,hn]at hF;obtain⟨m,rfl⟩:∃m:Nat,n=(m:Int):=⟨n.toNat,a7⟩;rw[C0]at U Z;obtain⟨c,L⟩:=getq (l:=p.f) (k:=m) a7;rw[L]at U Z;have u:=getD_at (f:=fnD) L;have a6:fnD c=[.str c.name,.sl (c.p.map λs=>[.str s]),.sl (c.l.map λs=>[.str s]),.bool c.word,.sl (c.body.map smD)]:=rfl;rw[a6]at u;simp only[go_sem,q4,q5,bd,j6,t,e4];refine cG aP mixed aN [] [([1],[],[],F),([3],[],[],F),([4],[],[],F),([5],[],[],F),([38,39],[],[],F),([40],[],[],F),([41],[],[],F),([36,37,42],[],[],F),([43],[],[],F),([35],[],[],F),([35],[],[],F),([44],[],[],F),([45],[],[],T)] 0 rfl c9 rfl a8 ?_;simp only[go_sem];iterate 7 (refine au gdD (λ_ _ _ _ J=>by simp only[go_sem,q1,o1,q3,q4,q5,t]at J|-;exact J) ?_)
 refine au (v:=.tup [ae A,ae m]) A6 (λfa ga oa K' J=>?_) ?_;.exact Y5
 iterate 4 (refine au gdD (λ_ _ _ _ J=>by simp only[go_sem]at J|-;exact J) ?_)
 refine cH A6 ?_;intro K' a';simp only[go_sem];refine a' _ ?_;clear a' K';simp only[go_sem];refine aZ c9 ?_;have d:(0:Int)<=(m:Int):=a7;by_cases e5:(z c.p:Int)=x.2.2;.simp only[go_sem,q1,o1,q4,q5,t,u,d,j6,e5,cm];refine cj B ⟨U (E4 e5),?_⟩;simp only[go_sem,q1,o1,q3,q4]
 .have ad:y=F:=Z (G0 e5);rw[b2 ad]at hz;obtain rfl:X=F:=by grind
  simp only[go_sem,q1,o1,q4,q5,t,u,d,j6,e5]
def OD p(hp:Sm p)(U:1<=z p.f):cn Tryz.prog 4 o 38 [cK p] (·=ae (Src.lh p)):=by
 refine hdG Tryz.func38 rfl [.tmp 2] λO bc s0 w0 g=>?_;rw[<-Src.ZG];have hN:=Tq (o:=o) p hp;obtain⟨b,d⟩:=getq (l:=p.f) (k:=z p.f-1) a7;have j:=λh=>Ld (o:=o) p hp h b d;obtain⟨X,a⟩:∃X,Src.OC p=X:=⟨_,rfl⟩;rw[a];unfold Src.OC at a;rw[Hx d]at a;rw[cI]at hN j|-;simp[go_sem];refine dm rfl abv ?_;rintro _ rfl;by_cases hb:(fO (fV p)&&ck (ju p) 0 p.f)=F;.rw[s5 hb]at a;subst a;simp only[go_sem,hb]
 rw[l4 hb]at a;have hb:(fO (fV p)&&ck (ju p) 0 p.f)=T:=by simpa using hb
 simp only[go_sem,hb];refine dm rfl (by simp only[go_sem];exact (j (l6 _ _▸hb).2)) ?_;rintro _ rfl;by_cases h:(p.f.all λf=>(kc f.body).all (wA p f))=T/\b.name=Src.VW/\b.p=[]/\b.word=F;.simp[s5 h]at a;subst a;simp only[go_sem,E4 h]
 .simp[l4 h]at a;subst a;simp only[go_sem,G0 h]
end Go.Proofs.YtfdbpgoicedpcaaGreatDoor
namespace Go.Src
attribute [local congr] Go.Am.ite_cc
open Go.Asm (Str)
def qq:∀(fs:List Fn)(k:Nat)(s:Str),dD fs s=if bC k (fs.map (·.name)) s<0 then N else fs[(bC k (fs.map (·.name)) s).toNat-k]?
 |[],_,_=>rfl|f::l,k,s=>by
  rw[dD,s7,bC];by_cases h:f.name=s;.grind
  .rw[l4 h,l4 h,qq l (k+1)];have:=lR (l.map (·.name)) (k+1) s;grind
def vc(fs:List Fn)(s:Str):Int:=bC 0 (fs.map (·.name)) s
variable{fs:List Fn}
def ZH{s:Str}(h:vc fs s<0):dD fs s=N:=(qq fs 0 s).trans (s5 h)
def ZI{s:Str}(h:¬vc fs s<0):∃(k:Nat)(f:Fn),vc fs s=(k:Int)/\fs[k]?=S f/\dD fs s=S f:=by have b:=lR (fs.map (·.name)) 0 s;rw[j6]at b;unfold vc at h|-;obtain⟨k,a⟩:∃k:Nat,bC 0 (fs.map (·.name)) s=(k:Int):=⟨(bC 0 (fs.map (·.name)) s).toNat,a7⟩;have c:k<z fs:=a7;refine⟨k,fs[k],a,x9 c,?_⟩;rw[qq fs 0,l4 h,a];simp
end Go.Src
namespace Go.Proofs.YtfdbpgoicedpcaaGreatDoor
section
open Go Go.Am Go.Asm
open Go.Src (Ex Stm szE aO szS aI vc dD jm jz dF oY cW eQ dL lj bU)
attribute[local congr]ite_cc
def qs(p:Src.Prog)(hf:z p.f<=1000000)(s:Str):aR Tryz.prog 109 [cK p,sv s] (·=ae (vc p.f s)):=by
 refine hdP Tryz.func109 rfl [4] λg=>?_;unfold vc;obtain⟨X,o⟩:∃X,Src.bC 0 (p.f.map (·.name)) s=X:=⟨_,rfl⟩;rw[o,cI];simp only[go_sem];refine ez (λk K=>Src.bC k ((p.f.drop k).map (·.name)) s=X/\K.f 2=aj 2 (K.gen 2) 0/\K.obj 2=S [aw (p.v.map λs=>[.str s]),aw (p.a.map arD),aw (p.f.map fnD)]/\K.f 1=sv s/\K.f 5=ae k) (z p.f) ⟨o,?_⟩ ?_;.exact gO
 rintro k f G I L⟨e,i,j,r,t⟩;simp only at i j r t;have y:=ah (k:=k) a7;by_cases w:k<z p.f;case neg=>have Q:¬(k:Int)<(z p.f:Int):=a7;rw[y8 a7]at e;have o:X=-1:=e.symm;simp only[go_sem,i,j,t,Q,j6,o]
 have Q:(k:Int)<(z p.f:Int):=a7;obtain⟨fn,x⟩:=getq w;have u:=getD_at (f:=fnD) x;have A:fnD fn=[.str fn.name,.sl (fn.p.map λs=>[.str s]),.sl (fn.l.map λs=>[.str s]),.bool fn.word,.sl (fn.body.map smD)]:=rfl;rw[A]at u;rw[eO x,s7,Src.bC]at e;by_cases hn:fn.name=s;.rw[s5 hn]at e;subst e;simp only[go_sem,i,j,r,t,Q,j6,u,hn]
 .rw[l4 hn]at e;simp only[go_sem,i,j,r,t,Q,j6,u,hn,y];refine cj w ⟨e,?_⟩;simp only[go_sem,i,j,r]
section
variable{s:St}{p:Src.Prog}
def CC{x:Str}:fv s [.agg [aw (p.v.map λs=>[.str s]),aw (p.a.map arD),aw (p.f.map fnD)],sv x] [cK p,sv x]:=⟨_,_,rfl,uT (kG p),_,_,rfl,⟨_,.d _,rfl⟩,rfl⟩
def CD{x:List (List D)}:fv s [.agg [aw (p.v.map λs=>[.str s]),aw (p.a.map arD),aw (p.f.map fnD)],.one (aw x)] [cK p,.one (aw x)]:=⟨_,_,rfl,uT (kG p),_,_,rfl,⟨_,.d _,rfl⟩,rfl⟩
end
def xo{fs:List Src.Fn}:∀l:List Ex,dF fs l=l.all (jz fs)|[]=>by rfl;|e::l=>by simp[dF,xo l]
def rM{fs:List Src.Fn}:∀l:List Stm,cW fs l=l.all (oY fs)|[]=>by rfl;|e::l=>by simp[cW,rM l]
def EV{fs:List Src.Fn}{t:Int}:∀l:List Ex,dL fs t l=l.all λe=>decide (eQ fs e=t)|[]=>by rfl;|e::l=>by simp[dL,EV l]
def xp{fs:List Src.Fn}{w:Bool}:∀l:List Stm,bU fs w l=l.all (lj fs w)|[]=>by rfl;|e::l=>by simp[bU,xp l]
def Ts(p:Src.Prog)(hf:z p.f<=1000000):∀(al:Nat)(l:List Ex),aO l<=al->al<=1000000000->aR Tryz.prog 110 [cK p,ea l] (·=bv (dF p.f l)):=by intro al;induction al using Nat.strongRecOn with|ind al G=>
 intro l W i;refine hdP Tryz.func110 rfl [4] λg=>?_;obtain⟨X,x⟩:∃X,dF p.f l=X:=⟨_,rfl⟩;rw[x,cI];rw[xo]at x;have Y:=Src.PS l;unfold ea;simp only[go_sem];refine ez (λk K=>(l.drop k).all (jz p.f)=X/\K.f 2=aj 2 (K.gen 2) 0/\K.obj 2=S [aw (p.v.map λs=>[.str s]),aw (p.a.map arD),aw (p.f.map fnD)]/\K.f 1=.one (aw (l.map exD))/\K.f 5=ae k) (z l) ⟨x,?_⟩ ?_;.exact gO
 rintro k f g1 av hk⟨hc,o,r,q1,q5⟩;simp only at o r q1 q5;have L:=ah (k:=k) a7;by_cases A:k<z l;case neg=>exact qk
 have Q:(k:Int)<(z l:Int):=a7;obtain⟨e,y⟩:=getq A;obtain⟨U,Z⟩:=eA hc y;have az:=Src.vu (l8 y);have u:=getD_at (f:=exD) y;obtain⟨kind,op,num,name,j⟩:=e;rw[szE]at az;rw[jz]at U Z;have I:exD (.mk kind op num name j)=[.int .i64 kind,.int .i64 op,.int .u32 num,.str name,.sl (j.map exD)]:=by simp only[exD,aL]
 rw[I]at u;have J:=G (aO j) a7 j (l7 _) a7;unfold ea at J;simp only[go_sem,q1,q5,Q,j6];refine eu aP mixed c9 ?_;by_cases w:kind=4;case' pos=>
  rw[s5 w]at U Z;simp only[go_sem,q1,o,r,q5,u,Q,w];refine bF rfl (qs p hf name) ab0 rfl ?_;by_cases hn:vc p.f name<0;.obtain rfl:=Z (by rw[Src.ZH hn];rfl);simp only[go_sem,hn]
  obtain⟨_,_,_,_,O⟩:=Src.ZI hn;rw[O,C3,A7]at U Z;simp only[go_sem,q1,o,r,q5,u,Q,hn]
 case' neg=>rw[l4 w,A7]at U Z;simp only[go_sem,q1,o,r,q5,u,Q,w]
 all_goals refine bF rfl J ab1 rfl ?_
 all_goals cases t:dF p.f j
 all_goals simp only[go_sem,t,q5,L]
 any_goals exact(Z t).symm
 all_goals refine cj A ⟨U t,?_⟩
 all_goals simp only[go_sem,o,r,q1]
def CE(p:Src.Prog)(hf:z p.f<=1000000):∀(al:Nat)(l:List Stm),aI l<=al->al<=1000000000->aR Tryz.prog 67 [cK p,eU l] (·=bv (cW p.f l)):=by intro al;induction al using Nat.strongRecOn with|ind al A=>
 intro l hN i;refine hdP Tryz.func67 rfl [4] λg=>?_;obtain⟨X,x⟩:∃X,cW p.f l=X:=⟨_,rfl⟩;rw[x,cI];rw[rM]at x;have b4:=Src.PT l;unfold eU;simp only[go_sem];refine ez (λk K=>(l.drop k).all (oY p.f)=X/\K.f 2=aj 2 (K.gen 2) 0/\K.obj 2=S [aw (p.v.map λs=>[.str s]),aw (p.a.map arD),aw (p.f.map fnD)]/\K.f 1=.one (aw (l.map smD))/\K.f 5=ae k) (z l) ⟨x,?_⟩ ?_;.exact gO
 rintro k f g1 av hk⟨hc,j,o,q1,q5⟩;simp only at j o q1 q5;have Y:=ah (k:=k) a7;by_cases G:k<z l;case neg=>exact qk
 have Q:(k:Int)<(z l:Int):=a7;obtain⟨e,y⟩:=getq G;obtain⟨U,Z⟩:=eA hc y;have az:=Src.nd (l8 y);have r:=getD_at (f:=smD) y;obtain⟨kind,name,e,u,el⟩:=e;rw[szS]at az;rw[oY]at U Z;have I:smD (.mk kind name e u el)=[.int .i64 kind,.str name,.sl (e.map exD),.sl (u.map smD),.sl (el.map smD)]:=by simp only[smD,aL,dy]
 rw[I]at r;have L:=Ts p hf (aO e) e (l7 _) a7;have O:=A (aI u) a7 u (l7 _) a7;have W:=A (aI el) a7 el (l7 _) a7;unfold ea at L;unfold eU at O W;simp only[go_sem,q1,q5,Q,j6];refine eu aP mixed c9 ?_;by_cases w:kind=6;case' pos=>
  rw[s5 w]at U Z;simp only[go_sem,q1,j,o,q5,r,Q,w];refine bF rfl (qs p hf name) ab0 rfl ?_;by_cases hn:vc p.f name<0;.obtain rfl:=Z (by rw[Src.ZH hn];rfl);simp only[go_sem,hn]
  obtain⟨_,_,_,_,hs⟩:=Src.ZI hn;rw[hs,C3,A7]at U Z;simp only[go_sem,q1,j,o,q5,r,Q,hn]
 case' neg=>rw[l4 w,A7]at U Z;simp only[go_sem,q1,j,o,q5,r,Q,w]
 all_goals refine bF rfl L ab1 rfl ?_
 all_goals cases t:dF p.f e
 all_goals simp only[go_sem,t,q1,j,o,q5,r,Q]
 any_goals exact(Z (by rw[t];rfl)).symm
 all_goals refine bF rfl O ab1 rfl ?_
 all_goals cases c:cW p.f u
 all_goals simp only[go_sem,c,q1,j,o,q5,r,Q]
 any_goals exact(Z (by rw[t,c];rfl)).symm
 all_goals refine bF rfl W ab1 rfl ?_
 all_goals cases b:cW p.f el
 all_goals simp only[go_sem,b,q5,Y]
 any_goals exact(Z (by rw[t,c,b];rfl)).symm
 all_goals refine cj G ⟨U ZN,?_⟩
 all_goals simp only[go_sem,j,o,q1]
variable{fs:List Src.Fn}
def OE{s}(h:vc fs s<0):jm fs s=F:=by unfold jm;rw[Src.ZH h]
def XV p(hf:z p.f<=1000000) kind op num name kids(hW:aR Tryz.prog 112 [cK p,ea kids] (·=bv (dL p.f 1 kids)))(hB:aR Tryz.prog 111 [cK p,ea kids] (·=bv (dL p.f 2 kids))):aR Tryz.prog 182 [cK p,exV (.mk kind op num name kids)] (·=ae (eQ p.f (.mk kind op num name kids))):=by
 refine hdP Tryz.func182 rfl [4] λg=>?_;have j:exV (.mk kind op num name kids)=.agg [ag kind,ag op,.d (.int .u32 num),bW name,aw (kids.map exD)]:=by simp[exV,exD,aL]
 have hN:=qs p hf name;obtain⟨X,b⟩:∃X,eQ p.f (.mk kind op num name kids)=X:=⟨_,rfl⟩;rw[b,j];rw[eQ]at b;rw[cI]at hW hB hN|-;have hk:kind=1\/kind=2\/kind=5\/kind=3\/kind=4\/kind=6\/kind=7\/kind=8\/kind=9\/(¬kind=1/\¬kind=2/\¬kind=3/\¬kind=4/\¬kind=5/\¬kind=6/\¬kind=7/\¬kind=8/\¬kind=9):=a7;rcases hk with rfl|rfl|rfl|rfl|rfl|rfl|rfl|rfl|rfl|⟨o,q,t,u,v,P,w,x,n⟩;iterate 3
  .obtain rfl:X=1:=by rw[<-b];simp
   simp only[go_sem]
 .simp only[go_sem];refine cD rfl ab2 ?_;rintro _ rfl;cases hw:dL p.f 1 kids
  .obtain rfl:X=0:=by grind
   exact gO
  .obtain rfl:X=1:=by grind
   exact gO
 .simp only[go_sem];refine cD rfl abv ?_;rintro _ rfl;by_cases hn:vc p.f name<0
  .obtain rfl:X=0:=by simp_all[OE]
   simp only[go_sem,show¬0<=vc p.f name by omega]
  obtain⟨k,fn,hk,Y,y⟩:=Src.ZI hn;have i:=getD_at (f:=fnD) Y;have B:fnD fn=[.str fn.name,.sl (fn.p.map λs=>[.str s]),.sl (fn.l.map λs=>[.str s]),.bool fn.word,.sl (fn.body.map smD)]:=rfl;rw[B]at i;have O:jm p.f name=fn.word:=by unfold jm;rw[y]
  rw[O]at b;have bk:(0:Int)<=(k:Int):=a7;cases a:fn.word
  .obtain rfl:X=0:=by grind
   simp only[go_sem,hk,bk,i,a]
  simp only[go_sem,hk,bk,i,a];refine cD rfl ab2 ?_;rintro _ rfl;cases hw:dL p.f 1 kids
  .obtain rfl:X=0:=by grind
   exact gO
  .obtain rfl:X=1:=by grind
   exact gO
 .simp only[go_sem];refine cD rfl ab2 ?_;rintro _ rfl;cases hw:dL p.f 1 kids
  .obtain rfl:X=0:=by grind
   exact gO
  by_cases e:op=14
  .obtain rfl:X=2:=by grind
   simp only[go_sem,e]
  by_cases A:op=15
  .obtain rfl:X=2:=by grind
   simp only[go_sem,A]
  obtain rfl:X=1:=by grind
  simp only[go_sem,e,A]
 iterate 3
  .simp only[go_sem];refine cD rfl abE ?_;rintro _ rfl;cases hw:dL p.f 2 kids
   .obtain rfl:X=0:=by rw[<-b,hw];simp
    exact gO
   .obtain rfl:X=2:=by rw[<-b,hw];simp
    exact gO
 .obtain rfl:X=0:=a7;simp only[go_sem,o,q,t,u,v,P,w,x,n]
def Tu p(hf:z p.f<=1000000):∀al l,aO l<=al->al<=1000000000->aR Tryz.prog 112 [cK p,ea l] (·=bv (dL p.f 1 l))/\aR Tryz.prog 111 [cK p,ea l] (·=bv (dL p.f 2 l)):=by intro al;induction al using Nat.strongRecOn with|ind al Y=>
 intro l hN i;have b4:=Src.PS l;have L:∀(k:Nat)(e:Ex),l[k]?=S e->aR Tryz.prog 182 [cK p,exV e] (·=ae (eQ p.f e)):=λk e o=>by have az:=Src.vu (l8 o);obtain⟨kind,op,num,name,j⟩:=e;rw[szE]at az;have:=Y (aO j) a7 j (l7 _) a7;simp_all[XV]
 unfold ea;rw[cI]at L|-;constructor;case' left=>refine hdP Tryz.func112 rfl [4] λg=>?_;obtain⟨t,u⟩:∃t:Int,t=1:=⟨_,rfl⟩;rw[show dL p.f 1 l=dL p.f t l by rw[u]]
 case' right=>refine hdP Tryz.func111 rfl [4] λg=>?_;obtain⟨t,u⟩:∃t:Int,t=2:=⟨_,rfl⟩;rw[show dL p.f 2 l=dL p.f t l by rw[u]]
 all_goals obtain⟨X,y⟩:∃X,dL p.f t l=X:=⟨_,rfl⟩
 all_goals rw[y]
 all_goals rw[EV]at y
 all_goals simp[go_sem]
 all_goals refine ez (λk K=>((l.drop k).all λe=>decide (eQ p.f e=t))=X/\K.f 2=aj 2 (K.gen 2) 0/\K.obj 2=S [aw (p.v.map λs=>[.str s]),aw (p.a.map arD),aw (p.f.map fnD)]/\K.f 1=.one (aw (l.map exD))/\K.f 5=ae k) (z l) ⟨y,(by simp[go_sem])⟩ ?_
 all_goals rintro k f g1 av hk⟨hc,A,G,q1,q5⟩
 all_goals simp only at A G q1 q5
 all_goals have hw:=ah (k:=k) a7
 all_goals
 by_cases O:k<z l;rotate_left;.exact qk
 have Q:(k:Int)<(z l:Int):=a7;obtain⟨e,o⟩:=getq O;obtain⟨U,Z⟩:=eA hc o;have W:=getD_at (f:=exD) o;have h:=L k e o;have I:∃a b c d x,exD e=[.int .i64 a,.int .i64 b,.int .u32 c,.str d,.sl x]:=by cases e;exact⟨_,_,_,_,_,by rw[exD]⟩
 obtain⟨a,b,c,d,x,I⟩:=I;unfold exV at h;rw[I]at h W;simp only[go_sem,q1,q5,Q,j6];refine lI c9 ?_;simp only[go_sem,q1,A,G,q5,W];refine cD rfl (by simp only[go_sem];exact h) ?_;rintro _ rfl;by_cases w:eQ p.f e=t;.rw[u]at w;simp only[go_sem,w,q5,hw];refine cj O ⟨U (E4 a7),?_⟩;simp[go_sem,A,G,q1]
 .obtain rfl:=Z (G0 w);rw[u]at w;simp only[go_sem,w]
def acq{kind:Int}{e}:dL fs (if kind=4\/kind=5 then 2 else 1) e=if kind=4\/kind=5 then dL fs 2 e else dL fs 1 e:=by grind
def XW p(hf:z p.f<=1000000) w:∀al l,aI l<=al->al<=1000000000->cW p.f l=T->aR Tryz.prog 68 [cK p,bv w,eU l] (·=bv (bU p.f w l)):=by intro al;induction al using Nat.strongRecOn with|ind al ih=>
 intro l A i t;refine hdP Tryz.func68 rfl [6] λg=>?_;obtain⟨X,G⟩:∃X,bU p.f w l=X:=⟨_,rfl⟩;rw[G,cI];rw[xp]at G;rw[rM,z7]at t;have b4:=Src.PT l;unfold eU;simp[go_sem];refine ez (λk K=>(l.drop k).all (lj p.f w)=X/\K.f 3=aj 3 (K.gen 3) 0/\K.obj 3=S [aw (p.v.map λs=>[.str s]),aw (p.a.map arD),aw (p.f.map fnD)]/\K.f 1=bv w/\K.f 2=.one (aw (l.map smD))/\K.f 7=ae k) (z l) ⟨G,?_⟩ ?_;.exact gO
 rintro k f g1 av hk⟨L,q3,o3,q1,q2,q7⟩;simp only at q3 o3 q1 q2 q7;have hw:=ah (k:=k) a7;by_cases af:k<z l;case neg=>have Q:¬(k:Int)<(z l:Int):=a7;rw[y8 a7]at L;obtain rfl:X=T:=L.symm;simp only[go_sem,q2,q7,Q,j6]
 have Q:(k:Int)<(z l:Int):=a7;obtain⟨e,o⟩:=getq af;obtain⟨U,Z⟩:=eA L o;have az:=Src.nd (l8 o);have t:=t e (l8 o);have u:=getD_at (f:=smD) o;obtain⟨kind,name,e,th,el⟩:=e;rw[szS]at az;rw[oY]at t;simp only[l6]at t;rw[lj,acq]at U Z;have I:smD (.mk kind name e th el)=[.int .i64 kind,.str name,.sl (e.map exD),.sl (th.map smD),.sl (el.map smD)]:=by simp[smD,aL,dy]
 rw[I]at u;obtain⟨hW,hB⟩:=Tu p hf (aO e) e (l7 _) a7;have hT:=ih (aI th) a7 th (l7 _) a7 t.2.1;have hL:=ih (aI el) a7 el (l7 _) a7 t.2.2;have A:=qs p hf name;rw[cI]at hW hB hT hL;obtain⟨y,j⟩:∃y,(if kind=4\/kind=5 then dL p.f 2 e else dL p.f 1 e)=y:=⟨_,rfl⟩;rw[j]at U Z;have ad:y=F->X=F:=λe=>Z ZN;by_cases W:kind=4;case' pos=>rw[s5 (.inl W)]at j;simp only[go_sem,q2,q3,o3,q7,Q,j6,u,W];refine cD rfl abE ?_;rintro _ rfl;rw[j];have P:¬kind=6:=a7
 case' neg=>
  by_cases k5:kind=5;case' pos=>rw[s5 (.inr k5)]at j;simp only[go_sem,q2,q3,o3,q7,Q,j6,u,k5];refine cD rfl abE ?_;rintro _ rfl;rw[j];have P:¬kind=6:=a7
  case' neg=>rw[l4 a7]at j;simp only[go_sem,q2,q3,o3,q7,Q,j6,u,W,k5];refine cD rfl ab2 ?_;rintro _ rfl;rw[j];by_cases P:kind=6;case pos=>
  cases y;.obtain rfl:=ad rfl;exact gO
  simp only[go_sem];refine eu aP mixed c9 ?_;have bf:(dD p.f name).isSome=T:=by have:=t.1.1;rwa [s5 P]at this
  have hn:¬vc p.f name<0:=λh=>by simp_all[Src.ZH]
  obtain⟨m,fn,hm,Y,hs⟩:=Src.ZI hn;have b6:=getD_at (f:=fnD) Y;have a6:fnD fn=[.str fn.name,.sl (fn.p.map λs=>[.str s]),.sl (fn.l.map λs=>[.str s]),.bool fn.word,.sl (fn.body.map smD)]:=rfl;rw[a6]at b6;have O:jm p.f name=fn.word:=by unfold jm;rw[hs]
  have d:(0:Int)<=(m:Int):=a7;rw[O]at U Z;cases cv:fn.word;case true=>obtain rfl:=Z ZN;simp[go_sem,P,q3,o3];refine bF rfl A ab0 rfl ?_;simp only[go_sem,hm,d,b6,cv]
  simp[go_sem,P,q3,o3];refine bF rfl A ab0 rfl ?_;simp only[go_sem,hm,d,b6,cv,q1,q3,o3];exact V8
 all_goals
 cases y;.obtain rfl:=ad rfl;exact gO
 simp only[go_sem];refine eu aP mixed c9 ?_;by_cases x:kind=7;rotate_left;.simp only[go_sem,P,x,q1,q3,o3];exact V8
 by_cases a':0<(z e:Int);rotate_left;.have cb:¬0<z e:=a7;simp only[go_sem,x,q1,q3,o3,j6,a'];exact V8
 cases b:w;.have cb:0<z e:=a7;obtain rfl:=Z ZN;simp only[go_sem,x,q1,q3,o3,j6,a',b];all_goals (exfalso;omega)
 .rw[b]at hT hL q1 U Z;simp only[go_sem,x,q1,q3,o3,j6,a'];refine cD rfl abt ?_;rintro _ rfl;cases ht:bU p.f T th;.obtain rfl:=Z ZN;exact gO
  simp[go_sem,q1,q3,o3];refine cD rfl abu ?_;rintro _ rfl;cases hl:bU p.f T el;.obtain rfl:=Z ZN;exact gO
  simp only[go_sem,q7,hw];refine cj af ⟨U ZN,?_⟩;simp[go_sem,q3,o3,q1,q2]
def OF p(hp:Sm p):aR Tryz.prog 39 [cK p] (·=ae (Src.uk p)):=by
 refine hdP Tryz.func39 rfl [2] λg=>?_;obtain⟨X,i⟩:∃X,Src.uk p=X:=⟨_,rfl⟩;rw[i];unfold Src.uk at i;obtain⟨pv,pa,pf,w⟩:=hp;have J:=λ(f:Src.Fn)(hf:f∈p.f)=>CE p a7 (aI f.body) f.body (l7 _) ZN;have L:=λ(f:Src.Fn)(hf:f∈p.f)=>XW p a7 f.word (aI f.body) f.body (l7 _) ZN;rw[cI]at J L|-;obtain⟨q,G⟩:∃q,(p.f.all λf=>cW p.f f.body)=q:=⟨_,rfl⟩;have b:q=F->X=4:=λe=>by grind
 simp[go_sem];refine ez (λk K=>((p.f.drop k).all λf=>cW p.f f.body)=q/\K.f 1=aj 1 (K.gen 1) 0/\K.obj 1=S [aw (p.v.map λs=>[.str s]),aw (p.a.map arD),aw (p.f.map fnD)]/\K.f 3=ae k) (z p.f) ⟨G,?_⟩ ?_;.exact gO
 rintro k f Y av hk⟨j,q1,o1,u⟩;simp only at q1 o1 u;have I:=ah (k:=k) a7;by_cases x:k<z p.f
 .have Q:(k:Int)<(z p.f:Int):=a7;obtain⟨fn,o⟩:=getq x;have y:=getD_at (f:=fnD) o;have O:fnD fn=[.str fn.name,.sl (fn.p.map λs=>[.str s]),.sl (fn.l.map λs=>[.str s]),.bool fn.word,.sl (fn.body.map smD)]:=rfl;rw[O]at y;obtain⟨U,Z⟩:=eA j o;simp only[go_sem,q1,o1,u,Q,j6];refine lI c9 ?_;simp only[go_sem,q1,o1,u,y];refine cD rfl (by simp only[go_sem];exact J fn (l8 o)) ?_;rintro _ rfl;cases t:cW p.f fn.body;.obtain rfl:=b (Z t);exact gO
  .simp only[go_sem,u,I];refine cj x ⟨U t,?_⟩;exact K4
 have Q:¬(k:Int)<(z p.f:Int):=a7;rw[y8 a7]at j;have b3:q=T:=j.symm;rw[G,l4 ZN]at i;rw[b3,z7]at G;clear j hk x I b;simp only[go_sem,q1,o1,u,Q,j6];obtain⟨r,V⟩:∃r,(p.f.all λf=>bU p.f f.word f.body)=r:=⟨_,rfl⟩;rw[V]at i;refine ez (λk K=>((p.f.drop k).all λf=>bU p.f f.word f.body)=r/\K.f 1=aj 1 (K.gen 1) 0/\K.obj 1=S [aw (p.v.map λs=>[.str s]),aw (p.a.map arD),aw (p.f.map fnD)]/\K.f 4=ae k) (z p.f) ⟨V,?_⟩ ?_;.exact K4
 clear Q q1 o1 u;rintro k f Y av hk⟨j,q1,o1,A⟩;simp only at q1 o1 A;by_cases x:k<z p.f
 .have Q:(k:Int)<(z p.f:Int):=a7;obtain⟨fn,o⟩:=getq x;have y:=getD_at (f:=fnD) o;have O:fnD fn=[.str fn.name,.sl (fn.p.map λs=>[.str s]),.sl (fn.l.map λs=>[.str s]),.bool fn.word,.sl (fn.body.map smD)]:=rfl;rw[O]at y;have W:=l8 o;obtain⟨U,Z⟩:=eA j o;simp only[go_sem,q1,o1,A,Q,j6];refine lI c9 ?_;simp only[go_sem,q1,o1,A,y];refine cD rfl (by simp only[go_sem];exact L fn W (G fn W)) ?_;rintro _ rfl;cases t:bU p.f fn.word fn.body;.rw[s5 (Z t)]at i;subst i;exact gO
  .simp only[go_sem,A,ah (k:=k) a7];refine cj x ⟨U t,?_⟩;exact K4
 have Q:¬(k:Int)<(z p.f:Int):=a7;rw[y8 a7]at j;have b1:r=T:=j.symm;rw[l4 ZN]at i;subst i;simp only[go_sem,q1,o1,A,Q,j6]
def Sm.inP{p}(h:Sm p)(E:∀f∈p.f,Src.ua f.body):Src.InP p:=⟨by grind[h.v],by grind[h.a],by grind[h.f],λf b=>by have:=h.fs f b;have:=Src.PT f.body;grind⟩
def Tv{o} p(hp:Sm p)(E:∀f∈p.f,Src.ua f.body):cn Tryz.prog 4 o 14 [cK p] (·=ae (Src.bN p)):=by
 refine hdG Tryz.func14 rfl [.tmp 2] λO bc s0 w0 g=>?_;obtain⟨X,a⟩:∃X,Src.bN p=X:=⟨_,rfl⟩;rw[a];unfold Src.bN at a;have hR:=OM p (hp.inP E);have hT:=OF p hp;have d:=λh=>OD (o:=o) p hp h;rw[cI]at hR hT d|-;simp[go_sem];refine kr rfl adl ?_;rintro _ rfl;cases V:Src.ct p;.rw[s5 V]at a;subst a;exact gO
 rw[l4 ZN]at a;simp only[go_sem];refine dm rfl (by simp only[go_sem];exact d (by unfold Src.ct at V;simp at V;exact V.1.1.1)) ?_;rintro _ rfl;by_cases b:Src.lh p=0;.rw[l4 (by simp[b])]at a;subst a;simp only[go_sem,b];refine kr rfl abt ?_;rintro _ rfl;exact gO
 .rw[s5 b]at a;subst a;have i:¬(Src.lh p:Int)=0:=a7;simp only[go_sem,i]
end
open Go Go.Am Go.Asm
open Go.Src (bC kB fV fg)
attribute[local congr]ite_cc
def OQ(f:FuncId)(xs:List AV)(v:AV):Prop:=∀(B:Nat)(g:Nat->Nat)(a:Obs),(∀i,B<=i->a i=N)->iK Tryz.prog f xs g a (λr b Y=>r=v/\b=g/\Y=a)
variable{s:St}{B:Nat}
section
variable{O:Bs}{rd:Option Nat}{e:St->Am.Loc->List Deferred->World->Prop}
def sG(a6:bA O e){o}{K}{k:Box K}{f}{args}{tys}(ho:o.op=.call ⟨.value (.func f),args,tys⟩){xs}{v}(h:OQ f xs v)(I:args.toList.map s.ev=xs)(bl:∀i,B<=i->s.obj i=N){a}{b}(c:K (St.put s o.dst v)):bE (spF Tryz.prog rd O e a b) o s k:=dO a6 ho (by rw[I];exact h B s.gen s.obj bl) abb
end
def wD{g}{ob}{j rs}{v}(hf:fT B s j rs)(hv:pack rs=v)(h:∀i,i<B->s.gen i=g i/\s.obj i=ob i:=by (intro i hi;constructor<;>((try simp only[upd]);(repeat rw[l4 (by omega)])))):bS B [] g ob (λr g' Y=>r=v/\g'=g/\Y=ob) s j:=⟨⟨λi hi _=>h i hi,λi hi=>(by cases hi)⟩,rs,hf,hv,DE,DF⟩
def vk{a b}:fT B s [ae a,ae b] [ae a,ae b]:=⟨_,_,rfl,.one (.d _),_,_,rfl,.one (.d _),rfl⟩
def TJ f(U:z f.p<=1000000)(Z:z f.l<=1000000):OQ 106 [fnV f] (lA (kB f)):=by
 intro B g ob hf;refine dS.toR (hdM B [] Tryz.func106 rfl [.tmp 2] b9 hf λO bc s0 w0=>?_);rw[zp];simp only[go_sem];refine cG aP mixed aa [B+3] [([],[],[0],F),([1],[0],[],F),([4],[0],[],F),([3,5],[],[0],F),([1],[0],[],F),([7],[0],[],F),([6,8],[],[0],F),([9],[],[],T)] 1 rfl c9 rfl b9 ?_;simp only[go_sem];(refine cw gdD Z4 ?_);iterate 2 (refine au gdD (λ_ _ _ _ J=>by simp only[go_sem]at J|-;exact J) ?_)
 (apply cw;(case hg=>exact A6);(case U=>intro d ga e a J;simp only[go_sem,pF,j6]at J|-;exact⟨rN _,⟨a8,a7⟩,J⟩));iterate 2 (refine au gdD (λ_ _ _ _ J=>by simp only[go_sem]at J|-;exact J) ?_)
 (apply cw;(case hg=>exact A6);(case U=>intro d ga e a J;simp only[go_sem,pF,j6]at J|-;exact⟨a7,rN _,⟨a8,a7⟩,J⟩));refine cH A6 ?_;intro a b;simp only[go_sem];refine b _ ?_;clear b a;simp only[go_sem];refine⟨_,ai.refl _,?_⟩;simp only[go_sem];exact wD (EB a7 (by simp only[go_sem]) (by simp only[go_sem];simp[kB,di,s6]) (by simp[kB])) rfl
def zx p(hv:z p.v<=1000000)(q:z p.a<=1000000)(hf:z p.f<=1000000)(i:Nat) fn(hi:p.f[i]?=S fn)(U:z fn.p<=1000000)(Z:z fn.l<=1000000)(s:Str):OQ 108 [cK p,ae i,sv s] (.tup [ae (fg p fn s).1,ae (fg p fn s).2]):=by
 intro B g ob ar;refine dS.toR (hdM B [] Tryz.func108 rfl [.tmp 6,.tmp 7] b9 ar λO bc s0 w0=>?_);have c4:=(l9.1 hi).1;have h:(i:Int)<(z p.f:Int):=a7;have n:=getD_at (f:=fnD) hi;have t:fnD fn=[.str fn.name,.sl (fn.p.map λs=>[.str s]),.sl (fn.l.map λs=>[.str s]),.bool fn.word,.sl (fn.body.map smD)]:=rfl;rw[t]at n;have o:=TJ fn U Z;have an:z (kB fn)<=2000000:=by simp[kB];omega
 have x:z (fV p)<=3000000:=by simp[fV];omega
 have hG:=wC p hv q hf;rw[zp]at o;rw[cI]at hG|-;simp only[go_sem,h,j6,n];refine sG aa rfl o c8 (B:=B+58) Z6 ?_;simp only[go_sem];refine Kt rfl (by simp only[go_sem];exact vd (kB fn) s a7) ?_;rintro _ rfl;unfold fg;obtain⟨k,hk⟩:∃k,bC 0 (kB fn) s=k:=⟨_,rfl⟩;rw[hk];by_cases d:0<=k;.simp only[go_sem,d];exact tj
 rw[l4 d];simp only[go_sem,d];refine Kt rfl adr ?_;rintro _ rfl;simp only[go_sem];refine Kt rfl (by simp only[go_sem];exact vd (fV p) s a7) ?_;rintro _ rfl;have u:=Src.lR (fV p) 0 s;obtain⟨k,hk⟩:∃k,bC 0 (fV p) s=k:=⟨_,rfl⟩;rw[hk]at u|-;by_cases hn:k<0;.simp only[go_sem,hn];exact tj
 by_cases b:k<(z p.v:Int);.simp only[go_sem,hn,b,j6];exact tj
 have e:IntKind.i64.wrap (k-(z p.v:Int))=k-z p.v:=wrap_i64 _ a7 a7;by_cases c:k-(z p.v:Int)<(z p.a:Int);.simp only[go_sem,hn,b,j6,e,c];exact tj
 have w:IntKind.i64.wrap (k-(z p.v:Int)-(z p.a:Int))=k-z p.v-z p.a:=wrap_i64 _ a7 a7;simp only[go_sem,hn,b,j6,e,c];refine aZ c9 ?_;simp only[go_sem,w,j6];refine⟨_,ai.refl _,?_⟩;simp only[go_sem];exact wD (vk) (by rw[l4 hn,l4 b,l4 c];rfl)
end Go.Proofs.YtfdbpgoicedpcaaGreatDoor
namespace Go.Src
attribute [local congr] Go.Am.ite_cc
def wB(p:Prog):Bool:=(p.f.all λf=>decide (z f.p+z f.l<=40))&&(decide ((p.a.map (·.2)).sum<=4096)&&(decide (z p.v<=40)&&decide (z p.v+z p.a+z p.f+(p.f.map λf=>z f.p+z f.l+aI f.body).sum<=200)))
end Go.Src
namespace Go.Proofs.YtfdbpgoicedpcaaGreatDoor
open Go Go.Am Go.Asm
open Go.Src (Ex Stm szE aO szS aI)
attribute[local congr]ite_cc
def CF:∀al l,aO l<=al->al<=1000000000->aR Tryz.prog 113 [ea l] (·=ae (aO l)):=by intro al;induction al using Nat.strongRecOn with|ind al w=>
 intro l y i;refine hdP Tryz.func113 rfl [2] λg=>?_;have A:=Src.PS l;unfold ea;simp only[go_sem,j6];refine ez (λk K=>∃c:Nat,c+aO (l.drop k)=aO l+z (l.drop k)/\K.f 0=.one (aw (l.map exD))/\K.f 3=ae (c:Nat)/\K.f 4=ae k) (z l) ⟨z l,by grind,?_⟩ ?_;.exact gO
 rintro k f G L hk⟨c,j,q0,p,o⟩;simp only at q0 p o;by_cases u:k<z l;case neg=>
  have Q:¬(k:Int)<(z l:Int):=a7;rw[y8 a7,aO]at j;have j:c=aO l:=by simpa using j
  simp only[go_sem,q0,p,o,Q,j6,j]
 have Q:(k:Int)<(z l:Int):=a7;obtain⟨e,t⟩:=getq u;have az:=Src.vu (l8 t);have v:=getD_at (f:=exD) t;obtain⟨kind,op,num,name,a⟩:=e;rw[eO t,aO,szE,j8]at j;rw[szE]at az;have I:exD (.mk kind op num name a)=[.int .i64 kind,.int .i64 op,.int .u32 num,.str name,.sl (a.map exD)]:=by simp only[exD,aL]
 rw[I]at v;have Z:=Src.PS (l.drop (k+1));have b:IntKind.i64.wrap ((c:Int)+(aO a:Nat))=((c+aO a:Nat):Int):=by rw[wrap_i64]<;>omega
 simp only[go_sem,q0,p,o,Q,j6,v];refine cD rfl (by simp only[go_sem];exact (w (aO a) a7 a (l7 _) a7)) ?_;rintro _ rfl;simp only[go_sem,b,o,ah (k:=k) a7];refine cj u ⟨c+aO a,a7,?_⟩;exact X7
def CG:∀al l,aI l<=al->al<=1000000000->aR Tryz.prog 69 [eU l] (·=ae (aI l)):=by intro al;induction al using Nat.strongRecOn with|ind al u=>
 intro l O i;refine hdP Tryz.func69 rfl [2] λg=>?_;have U:=Src.PT l;unfold eU;simp only[go_sem,j6];refine ez (λk K=>∃c:Nat,c+aI (l.drop k)=aI l+z (l.drop k)/\K.f 0=.one (aw (l.map smD))/\K.f 3=ae (c:Nat)/\K.f 4=ae k) (z l) ⟨z l,by grind,?_⟩ ?_;.exact gO
 rintro k f W X Y⟨c,o,q0,p,j⟩;simp only at q0 p j;by_cases v:k<z l;case neg=>
  have Q:¬(k:Int)<(z l:Int):=a7;rw[y8 a7,aI]at o;have o:c=aI l:=by simpa using o
  simp only[go_sem,q0,p,j,Q,j6,o]
 have Q:(k:Int)<(z l:Int):=a7;obtain⟨e,t⟩:=getq v;have az:=Src.nd (l8 t);have r:=getD_at (f:=smD) t;obtain⟨kind,name,e,a,el⟩:=e;rw[eO t,aI,szS,j8]at o;rw[szS]at az;have I:smD (.mk kind name e a el)=[.int .i64 kind,.str name,.sl (e.map exD),.sl (a.map smD),.sl (el.map smD)]:=by simp only[smD,aL,dy]
 rw[I]at r;have Z:=Src.PT (l.drop (k+1));have a1:IntKind.i64.wrap ((c:Int)+(aO e:Nat))=((c+aO e:Nat):Int):=by rw[wrap_i64]<;>omega
 have G:IntKind.i64.wrap (((c+aO e:Nat):Int)+(aI a:Nat))=((c+aO e+aI a:Nat):Int):=by rw[wrap_i64]<;>omega
 have L:IntKind.i64.wrap (((c+aO e+aI a:Nat):Int)+(aI el:Nat))=((c+aO e+aI a+aI el:Nat):Int):=by rw[wrap_i64]<;>omega
 simp only[go_sem,q0,j,Q,j6];refine eu aP mixed c9 ?_;simp only[go_sem,q0,p,j,r];refine bF rfl (CF (aO e) e (l7 _) a7) abR rfl ?_;simp only[go_sem,q0,j,r,a1];refine bF rfl (u (aI a) a7 a (l7 _) a7) abR rfl ?_;simp only[go_sem,q0,j,r,G];refine bF rfl (u (aI el) a7 el (l7 _) a7) abR rfl ?_;simp only[go_sem,L,j,ah (k:=k) a7];refine cj v ⟨c+aO e+aI a+aI el,a7,?_⟩;exact X7
def oT p:szP p=z p.v+z p.a+z p.f+(p.f.map λf=>z f.p+z f.l+aI f.body).sum:=rfl
def OG{f:Src.Fn->Nat}{l:List Src.Fn}{k}{x}(h:l[k]?=S x):((l.drop k).map f).sum=f x+((l.drop (k+1)).map f).sum:=by rw[eO h,s7,H2]
def XX p(o:szP p<=1000000):aR Tryz.prog 40 [cK p] (·=ae (szP p)):=by
 refine hdP Tryz.func40 rfl [2] λg=>?_;rw[oT]at o|-;obtain⟨X,r⟩:∃X,z p.v+z p.a+z p.f+(p.f.map λf=>z f.p+z f.l+aI f.body).sum=X:=⟨_,rfl⟩;rw[r]at o|-;have y:IntKind.i64.wrap ((z p.v:Int)+(z p.a:Int))=((z p.v+z p.a:Nat):Int):=by rw[wrap_i64]<;>omega
 have b2:IntKind.i64.wrap (((z p.v+z p.a:Nat):Int)+(z p.f:Int))=((z p.v+z p.a+z p.f:Nat):Int):=by rw[wrap_i64]<;>omega
 rw[cI];simp only[go_sem,j6,y,b2];refine ez (λk K=>∃c:Nat,c+((p.f.drop k).map λf=>z f.p+z f.l+aI f.body).sum=X/\K.f 1=aj 1 (K.gen 1) 0/\K.obj 1=S [aw (p.v.map λs=>[.str s]),aw (p.a.map arD),aw (p.f.map fnD)]/\K.f 3=ae (c:Nat)/\K.f 4=ae k) (z p.f) ⟨_,r,?_⟩ ?_;.exact gO
 rintro k f O U W⟨c,e,q1,o1,j,i⟩;simp only at q1 o1 j i;by_cases t:k<z p.f;case neg=>have Q:¬(k:Int)<(z p.f:Int):=a7;rw[y8 a7]at e;simp only[go_sem,q1,o1,j,i,Q,j6,by simpa using e]
 have Q:(k:Int)<(z p.f:Int):=a7;obtain⟨fn,u⟩:=getq t;have w:=getD_at (f:=fnD) u;have G:fnD fn=[.str fn.name,.sl (fn.p.map λs=>[.str s]),.sl (fn.l.map λs=>[.str s]),.bool fn.word,.sl (fn.body.map smD)]:=rfl;rw[G]at w;rw[OG u]at e;have a1:IntKind.i64.wrap ((c:Int)+(z fn.p:Int))=((c+z fn.p:Nat):Int):=by rw[wrap_i64]<;>omega
 have I:IntKind.i64.wrap (((c+z fn.p:Nat):Int)+(z fn.l:Int))=((c+z fn.p+z fn.l:Nat):Int):=by rw[wrap_i64]<;>omega
 have L:IntKind.i64.wrap (((c+z fn.p+z fn.l:Nat):Int)+(aI fn.body:Nat))=((c+z fn.p+z fn.l+aI fn.body:Nat):Int):=by rw[wrap_i64]<;>omega
 simp only[go_sem,q1,o1,i,Q,j6];refine eu aP mixed c9 ?_;simp only[go_sem,q1,o1,j,i,w,j6,a1,I];refine bF rfl (CG (aI fn.body) fn.body (l7 _) a7) abR rfl ?_;simp only[go_sem,L,i,ah (k:=k) a7];refine cj t ⟨c+z fn.p+z fn.l+aI fn.body,a7,?_⟩;exact K4
def Le{l:List (Str×Int)}{k}{x}(h:l[k]?=S x):((l.drop k).map (·.2)).sum=x.2+((l.drop (k+1)).map (·.2)).sum:=by rw[eO h,s7,H2]
def OH:∀{l:List (Str×Int)},(∀a∈l,0<=a.2)->0<=(l.map (·.2)).sum|[],_=>by simp;|a::l,h=>by have:=OH (l:=l) λx I=>h x aby;grind
def Tw p(hp:szP p<=1000000)(Y:∀a∈p.a,0<=a.2)(d:(p.a.map (·.2)).sum<=1000000000000):aR Tryz.prog 15 [cK p] (·=bv (Src.wB p)):=by
 refine hdP Tryz.func15 rfl [2] λg=>?_;have hS:=XX p hp;rw[oT]at hp hS;obtain⟨X,o⟩:∃X,Src.wB p=X:=⟨_,rfl⟩;rw[o];unfold Src.wB at o;obtain⟨al,hN⟩:∃al,z p.v+z p.a+z p.f+(p.f.map λf=>z f.p+z f.l+aI f.body).sum=al:=⟨_,rfl⟩;rw[hN]at o hp hS;obtain⟨W,hW⟩:∃W,(p.a.map (·.2)).sum=W:=⟨_,rfl⟩;rw[hW]at o d;rw[cI]at hS|-;simp only[go_sem];refine ez (λk K=>∃c:Int,c+((p.a.drop k).map (·.2)).sum=W/\0<=c/\K.f 1=aj 1 (K.gen 1) 0/\K.obj 1=S [aw (p.v.map λs=>[.str s]),aw (p.a.map arD),aw (p.f.map fnD)]/\K.f 3=ae c/\K.f 4=ae k) (z p.a) ⟨0,by grind,a8,?_⟩ ?_;.exact gO
 rintro k f g1 av hk⟨c,A,bk,q1,o1,j,G⟩;simp only at q1 o1 j G;have L:=ah (k:=k) a7;by_cases w:k<z p.a;.have Q:(k:Int)<(z p.a:Int):=a7;obtain⟨a,t⟩:=getq w;have y:=getD_at (f:=arD) t;have q:arD a=[.str a.1,.int .i64 a.2]:=rfl;rw[q]at y;rw[Le t]at A;have h0:=Y a (l8 t);have U:=OH (l:=p.a.drop (k+1)) λx I=>Y x (N5 I);have b:IntKind.i64.wrap (c+a.2)=c+a.2:=wrap_i64 _ a7 a7;simp only[go_sem,q1,o1,j,G,Q,j6,y,b,L];refine cj w ⟨c+a.2,a7,a7,?_⟩;exact K4
 have Q:¬(k:Int)<(z p.a:Int):=a7;rw[y8 a7]at A;have A:c=W:=by simpa using A
 subst A;clear hk w L;simp only[go_sem,q1,o1,G,Q,j6];obtain⟨r,V⟩:∃r,(p.f.all λf=>decide (z f.p+z f.l<=40))=r:=⟨_,rfl⟩;rw[V]at o;refine ez (λk K=>((p.f.drop k).all λf=>decide (z f.p+z f.l<=40))=r/\K.f 1=aj 1 (K.gen 1) 0/\K.obj 1=S [aw (p.v.map λs=>[.str s]),aw (p.a.map arD),aw (p.f.map fnD)]/\K.f 3=ae c/\K.f 5=ae k) (z p.f) ⟨V,?_⟩ ?_;.simp only[go_sem,q1,o1,j]
 clear Q q1 o1 j G;rintro k f g1 av hk⟨hd,q1,o1,j,u⟩;simp only at q1 o1 j u;by_cases w:k<z p.f
 .have Q:(k:Int)<(z p.f:Int):=a7;obtain⟨fn,t⟩:=getq w;have y:=getD_at (f:=fnD) t;have a6:fnD fn=[.str fn.name,.sl (fn.p.map λs=>[.str s]),.sl (fn.l.map λs=>[.str s]),.bool fn.word,.sl (fn.body.map smD)]:=rfl;rw[a6]at y;obtain⟨U,Z⟩:=eA hd t;have hm:=lZ (l8 t);rw[oT,hN]at hm;have b:IntKind.i64.wrap ((z fn.p:Int)+(z fn.l:Int))=((z fn.p+z fn.l:Nat):Int):=by rw[wrap_i64]<;>omega
  simp only[go_sem,q1,o1,u,Q,j6];refine lI c9 ?_;by_cases i:(40:Int)<((z fn.p+z fn.l:Nat):Int)
  .obtain rfl:X=F:=by grind
   simp only[go_sem,q1,o1,u,y,j6,b,i]
  .simp only[go_sem,q1,o1,u,y,j6,b,i,ah (k:=k) a7];refine cj w ⟨U (E4 a7),?_⟩;simp only[go_sem,q1,o1,j]
 have Q:¬(k:Int)<(z p.f:Int):=a7;rw[y8 a7]at hd;rw[show r=T from hd.symm,A7]at o;by_cases O:c<=4096;case neg=>
  obtain rfl:X=F:=by grind
  simp only[go_sem,q1,o1,j,u,Q,j6,O]
 rw[E4 O,A7]at o;by_cases hv:(z p.v:Int)<=40;case neg=>
  obtain rfl:X=F:=by grind
  simp only[go_sem,q1,o1,j,u,Q,j6,O,hv]
 rw[E4 (show z p.v<=40 by omega),A7]at o;simp only[go_sem,q1,o1,j,u,Q,j6,O,hv];refine cD rfl abY ?_;rintro _ rfl;have e:decide ((al:Int)<=200)=X:=by rw[<-o];congr 1;exact propext ⟨λh=>by omega,λh=>by omega⟩
 simp only[go_sem,e]
end Go.Proofs.YtfdbpgoicedpcaaGreatDoor
namespace Go.Mn
open Go.Asm (Str)
open Go.Src (Ex Stm Fn Prog)
open Go.Mach (applyN)
structure Sg where
 v:List Nat
 arrs:List (List Nat)out:Str
 rd:Nat
 tk:Nat
inductive Rs (H:Type) where|ok (v:H) (G:Sg)|en (e:Nat) (G:Sg)|no
section
variable{H β:Type}
def Rs.bind(r:Rs H)(k:H->Sg->Rs β):Rs β:=match r with|.ok v G=>k v G|.en e G=>.en e G|.no=>.no
def need(o:Option H)(k:H->Rs β):Rs β:=match o with|some x=>k x|none=>.no
def tick(fu:Nat)(G:Sg)(k:Sg->Rs β):Rs β:=if G.tk<fu then k ⟨G.v,G.arrs,G.out,G.rd,G.tk+1⟩else .en 5 G
def l0(l:List H)(r:Rs β):Rs β:=match l with|[]=>r|_=>.no
def l1(l:List H)(k:H->Rs β):Rs β:=match l with|[a]=>k a|_=>.no
def l2(l:List H)(k:H->H->Rs β):Rs β:=match l with|[a,b]=>k a b|_=>.no
def l01(l:List H)(r:Rs β)(k:H->Rs β):Rs β:=match l with|[]=>r|[a]=>k a|_=>.no
end
def DO(inp:Str)(k:Nat):Nat:=match inp[k]? with|some x=>x.toNat|none=>256
def AW(inp:Str)(k:Nat):Nat:=match inp[k]? with|some _=>k+1|none=>k
def Mw(t:Option (Nat×Nat))(L:List Nat)(G:Sg):Rs Nat:=match t with|some (k,i)=>if k=1 then need L[i]? λv=>.ok v G else if k=2 then need G.v[i]? λv=>.ok v G else .no|none=>.no
def Mx(t:Option (Nat×Nat))(G:Sg)(j:Nat):Rs Nat:=match t with|some (k,i)=>if k=3 then(if j<4294967296 then need G.arrs[i]? λl=>(match l[j]?with|some v=>.ok v G|none=>.en 3 G)else .no)else .no|none=>.no
def opV(op:Int)(x y:Nat)(G:Sg):Rs Nat:=if (4<=op/\op<=15)/\x<4294967296/\y<4294967296 then(match applyN op.toNat x y with|some v=>.ok v G|none=>.en 2 G)else .no
def nL(v:Nat)(G:Sg):Rs Nat:=if v<=1 then .ok v G else .no
def My(t:Option (Nat×Nat))(L:List Nat)(G:Sg)(v:Nat):Rs (List Nat×Option Nat):=match t with|some (k,i)=>if k=1 then(if i<z L then .ok (L.set i v,N) G else .no)else if k=2 then(if i<z G.v then .ok (L,N) ⟨G.v.set i v,G.arrs,G.out,G.rd,G.tk⟩else .no)else .no|none=>.no
def yJ(t:Option (Nat×Nat))(L:List Nat)(G:Sg)(j v:Nat):Rs (List Nat×Option Nat):=match t with|some (k,i)=>if k=3 then(if j<4294967296 then need G.arrs[i]? λl=>(if j<z l then .ok (L,N) ⟨G.v,G.arrs.set i (l.set j v),G.out,G.rd,G.tk⟩else .en 3 G)else .no)else .no|none=>.no
def Mz(L:List Nat)(G:Sg)(v:Nat):Rs (List Nat×Option Nat):=if 65536<=z G.out then .en 4 G else .ok (L,N) ⟨G.v,G.arrs,G.out++[UInt8.ofNat v],G.rd,G.tk⟩
def jC(p:Prog)(f:Nat)(t:Option (Nat×Nat))(n:Nat)(w:Bool):Option Nat:=match t with|some (k,g)=>if k=4/\g<f/\(p.f[g]?).any (λfn=>fn.word==w&&z fn.p==n)=T then S g else N|none=>N
section
variable(p:Prog)(fd:Nat->Str->Option (Nat×Nat))(inp:Str)(fu:Nat)
mutual
def evE:Nat->Nat->List Nat->Sg->Ex->Rs Nat
 |0,_,_,_,_=>.no
 |n+1,f,ws,G,.mk kind op num name kids=>
   if kind=1 then l0 kids (if 0<=num/\num<4294967296 then .ok num.toNat G else .no)
   else if kind=2 then l0 kids (Mw (fd f name) ws G)
   else if kind=3 then l1 kids λa=>(evE n f ws G a).bind λi H=>Mx (fd f name) H i
   else if kind=4 then need (jC p f (fd f name) (z kids) T) λg=>(fc n f ws G kids).bind λvs H=>tick fu H λc=>evB n g vs c
   else if kind=5 then l0 kids (.ok (DO inp G.rd) ⟨G.v,G.arrs,G.out,AW inp G.rd,G.tk⟩)
   else if kind=6 then l2 kids λa b=>(evE n f ws G a).bind λx H=>(evE n f ws H b).bind λy c=>opV op x y c
   else if kind=7 then l1 kids λa=>(evE n f ws G a).bind λx H=>.ok (if x=0 then 1 else 0) H
   else if kind=8 then l2 kids λa b=>(evE n f ws G a).bind λx H=>if x=0 then .ok 0 H else(evE n f ws H b).bind nL
   else if kind=9 then l2 kids λa b=>(evE n f ws G a).bind λx H=>if x=0 then(evE n f ws H b).bind nL else nL x H
   else .no
def fc:Nat->Nat->List Nat->Sg->List Ex->Rs (List Nat)
 |0,_,_,_,_=>.no
 |_+1,_,_,G,[]=>.ok [] G
 |n+1,f,ws,G,a::l=>(evE n f ws G a).bind λv H=>(fc n f ws H l).bind λvs b=>.ok (v::vs) b
def evS:Nat->Nat->List Nat->Sg->Stm->Rs (List Nat×Option Nat)
 |0,_,_,_,_=>.no
 |n+1,f,ws,G,.mk kind name e d el=>
   if kind=1 then l1 e λa=>(evE n f ws G a).bind λv H=>My (fd f name) ws H v
   else if kind=2 then l2 e λa b=>(evE n f ws G a).bind λi H=>(evE n f ws H b).bind λv c=>yJ (fd f name) ws c i v
   else if kind=3 then l1 e λa=>(evE n f ws G a).bind λv H=>Mz ws H v
   else if kind=4 then l1 e λa=>(evE n f ws G a).bind λv H=>if v=0 then eM n f ws H el else eM n f ws H d
   else if kind=5 then l1 e λa=>tick fu G λH=>evW n f ws H a d
   else if kind=6 then need (jC p f (fd f name) (z e) F) λg=>(fc n f ws G e).bind λvs H=>tick fu H λc=>(evB n g vs c).bind λ_ h=>.ok (ws,N) h
   else if kind=7 then l01 e (.ok (ws,S 0) G) λa=>if (p.f[f]?).any (·.word)=T then(evE n f ws G a).bind λv H=>.ok (ws,S v) H else .no
   else .no
def eM:Nat->Nat->List Nat->Sg->List Stm->Rs (List Nat×Option Nat)
 |0,_,_,_,_=>.no
 |_+1,_,ws,G,[]=>.ok (ws,N) G
 |n+1,f,ws,G,s::l=>(evS n f ws G s).bind λr H=>match r.2 with|some v=>.ok (r.1,S v) H|none=>eM n f r.1 H l
def evW:Nat->Nat->List Nat->Sg->Ex->List Stm->Rs (List Nat×Option Nat)
 |0,_,_,_,_,_=>.no
 |n+1,f,ws,G,a,l=>(evE n f ws G a).bind λv H=>if v=0 then .ok (ws,N) H else(eM n f ws H l).bind λr b=>match r.2 with|some v=>.ok (r.1,S v) b|none=>tick fu b λc=>evW n f r.1 c a l
def evB:Nat->Nat->List Nat->Sg->Rs Nat
 |0,_,_,_=>.no
 |n+1,g,vs,G=>need p.f[g]? λfn=>if z vs=z fn.p then(eM n g (vs++List.replicate (z fn.l) 0) G fn.body).bind λr H=>.ok (r.2.getD 0) H else .no
end
end
def start(p:Prog):Sg:=⟨List.replicate (z p.v) 0,p.a.map λa=>List.replicate a.2.toNat 0,[],0,0⟩
def aG(p:Prog)(f:Nat)(s:Str):Option (Nat×Nat):=match p.f[f]? with|some fn=>Src.bG (Src.bH p) (Src.bQ fn) s|none=>N
def runN(p:Prog)(inp:Str)(fu n:Nat):Rs Nat:=evB p (aG p) inp fu n (z p.f-1) [] (start p)
end Go.Mn


/- A part; no conditions. -/
import Derived.Test.YtfdbpgoicedpcaaGreatDoorPart13
set_option linter.all false
open List renaming length -> z
open Option renaming some -> S, none -> N
open Bool renaming true -> T, false -> F
set_option maxHeartbeats 64000000
set_option maxRecDepth 100000
namespace Go.Proofs.YtfdbpgoicedpcaaGreatDoor.Low
open Go Go.Am Go.Lower
open Go.Emit (Wr aE aJ aD vR gg jE fE)
open Go.Src (ab bN)
def gZ(p:Src.Prog):Emit.Plan:=Emit.dY (ab p).words (ab p).f
variable{p:Src.Prog}
def Ct{al}(h:szP p<=al):z p.f<=al/\(p.f.map λf=>Src.aI f.body).sum<=al/\∀f∈p.f,z f.p<=al/\z f.p+z f.l<=al:=by have Z:=xm p.f;refine⟨by grind[szP],by grind[szP],λf a=>?_⟩;have:=lZ a;omega
def afr(h:bN p=0)(az:szP p<=2000)(hw:(ab p).words<=32768)(hd:(gZ p).data<=32768):aco (ab p).words (ab p).f (gZ p):=by
 obtain⟨V,_,_⟩:=Src.FA h;have hl:1<=z p.f/\z p.f<=64:=by unfold Src.ct at V;simp at V;exact V.1.1
 obtain⟨_,e,bz⟩:=Ct az;have H:Emit.uP (ab p).f (gZ p) 2000:=Emit.Vq h λf J=>(bz f J).1;have b3:=Emit.Co p;have g:Emit.vW (ab p).f 2000 (z (ab p).f)<=48574000:=C4 (Emit.aaN hl.2 e) a8;have O:∀ds∈(gZ p).depths,∃x∈(ab p).f,ds=Emit.bX (Emit.cT x):=λds ar=>by obtain⟨k,n⟩:=C9 ar;obtain⟨x,U,Z⟩:=Emit.WT n;grind
 have K:∀x∈(ab p).f,z (Emit.cT x)<=12128:=λx I=>by exact r8
 have bf:=Emit.vX (z (ab p).f) (gZ p).depths 0 (ab p).words (λo _=>Emit.jr o 0);have ad:0<=(ab p).words:=by have U:=Emit.GX h;have Z:(Src.ay p).2<=(ab p).words:=Src.BB _ _ _;omega
 have b:(gZ p).data=(Emit.fe (z (ab p).f) 0 (gZ p).depths (ab p).words).2.2:=rfl;have m:(gZ p).base=(Emit.fe (z (ab p).f) 0 (gZ p).depths (ab p).words).2.1:=rfl;have i:(gZ p).back=(Emit.fe (z (ab p).f) 0 (gZ p).depths (ab p).words).1:=rfl;have v:=Emit.yP (z (ab p).f) (gZ p).depths 0 (ab p).words;have L:∀x∈(ab p).f,∀y∈Emit.cT x,Jl (ab p).f y.1:=λx I y Q=>by obtain⟨U,Z,_⟩:=Emit.MV h I Q;exact⟨U,Z⟩
 have A:∀(d:jE)(f al:Nat),z d.code<=al->z d.holes<=al->al+Emit.szF (ab p).f 2000 f<=100000000->Bl (ab p).f (gZ p) d f:=λd f al hc hh hN=>by
  refine⟨λx I=>L x (l8 I),λx ds I ar=>?_,λx I=>?_,λx ds I ar j r=>?_,λx ds I ar j r=>?_⟩;.obtain⟨a,U,Z⟩:=Emit.WT ar;rw[I]at U;cases U;rw[Z];exact(Emit.Bb h (l8 I)).1
  .have:=K x (l8 I);grind[Emit.cT]
  .have:=(H.fits I ds j (z d.code)).1;have az:Emit.szF (ab p).f 2000 f=7+z (Emit.cT x)*(2*2000+5):=by unfold Emit.szF;rw[I]
   grind[Emit.cT]
  .have t:=(H.fits I ds j (z d.code)).2.1;grind[Emit.szF,ab,Emit.cT]
 have u:=λk n=>Emit.xR H k n;have B:=λk(n:k<=z (ab p).f-1)=>Emit.KB (ab p).f 2000 a7 n;have hW:=u (z (ab p).f-1) (l7 _);have cx:=B (z (ab p).f-1) (l7 _);refine⟨a7,by simp[gZ,Emit.dY],?_,?_,a7,λx I=>?_,λds ar d hd=>?_,λx I=>?_,λx I=>?_,?_,?_,λj r=>?_,?_,?_,λq t=>?_⟩;.grind[gZ,Emit.dY]
 .grind[gZ,Emit.dY]
 .grind
 .obtain⟨x,I,rfl⟩:=O ds ar;have:=(Emit.Bb h I).2 d hd;grind
 .obtain⟨f,w,U,Z,rfl,W⟩:=Emit.MT I;have:=bz f U;have:=Emit.GX h;grind[Src.pJ]
 .obtain⟨f,w,U,Z,rfl,W⟩:=Emit.MT I;grind[Src.pJ]
 .omega
 .refine A _ _ 1 b9 b9 ?_;omega
 .refine A _ _ _ (u j a7).c (u j a7).hl ?_;have U:=B (j+1) a7;grind[Emit.vW]
 .exact C4 hW.c a7
 .exact C4 hW.hl a7
 .obtain⟨X,Y,⟨a3,a4⟩,a5⟩:=hW.h q t;refine⟨⟨X,Y⟩,⟨a3,a4⟩,λh0=>?_⟩;obtain⟨x,E,e2⟩:=a5 h0;have a6:=(l9.1 E).1;obtain⟨a,l,G,e4,e5⟩:=hW.p q.2.1.toNat a7;rw[E]at G;cases G;exact⟨l,e4,a7⟩
def XM{o}(h:bN p=0)(az:szP p<=2000)(b:(ab p).words<=32768):cn Tryz.prog 4 o 33 [kX (ab p).words (ab p).f] (·=Bn (ab p).f (gZ p)):=by
 obtain⟨V,_,_⟩:=Src.FA h;have hl:1<=z p.f/\z p.f<=64:=by unfold Src.ct at V;simp at V;exact V.1.1
 obtain⟨_,e,bz⟩:=Ct az;have i:=Emit.Co p;have c:0<=(ab p).words:=by have U:=Emit.GX h;have Z:(Src.ay p).2<=(ab p).words:=Src.BB _ _ _;omega
 have a:∀x∈(ab p).f,z (Emit.cT x)<=12128:=λx I=>by exact r8
 refine afq (λhd=>afr h az b hd) ?_;refine XA (gZ p).depths (by simp[gZ,Emit.dY]) ⟨c,a7⟩ a7 (λds ar=>?_) (λf ds hd=>?_);.obtain⟨k,d⟩:=C9 ar;obtain⟨x,U,rfl⟩:=Emit.WT d;have I:=l8 U;have:=a x I;obtain⟨j,l⟩:=Emit.Bb h I;grind
 .obtain⟨x,U,rfl⟩:=Emit.WT hd;have I:=l8 U;have:=a x I;obtain⟨g,m⟩:=Emit.vY h I;have J:SW (ab p).f=Src.sigs p.f:=Emit.MU p;refine(Oh U (A:=Emit.cT x) rfl a7 (λ_=>rfl) g ZN).mono ?_;simp
end Go.Proofs.YtfdbpgoicedpcaaGreatDoor.Low
namespace Go.Am
attribute[local congr]ite_cc
variable{P:Program}{G:Nat->TI}{O:Bs}{rd:Option Nat}{X:Nat}{o:cM}{Ψ:il}{B0:Nat}
def wq{g}(a6:bA O g)(hG:∀s β ds w,g s β ds w->xg O X o w){op}{s}{K}{k:Box K}{t:Nat}{args}{tys}(ho:op.op=.call ⟨.value (.tmp t),args,tys⟩){f}(i:s.f t=.one (.d (.fn f))){R}(hp:cn P X o f (args.toList.map s.ev) R)(hd:(args.toList.map s.ev).all iq=T)(j:∀r,R r->K (s.put op.dst r)):bE (spF P rd O g B0 Ψ) op s k:=by
 refine⟨λs'=>∃r,R r/\s'=s.put op.dst r,?_,λ_⟨r,V,e⟩=>e▸j r V⟩;intro al β a ds w V A c next Q hn _;refine jP (by simp[bu,ho]) ?_;have hv:=V.f t;rw[i]at hv;have hv:a.tmps.getD t undef=.func (.func f) #[] #[]:=by generalize a.tmps.getD t undef=v at hv;cases hv;rfl
 have q:(execOp a.eval op).run P w=.ok (.enter f (args.map a.eval)) w:=by exact j1
 unfold Oper.wp;rw[q];simp only[Oper.upon];exact gR
end Go.Am
namespace Go.Proofs.YtfdbpgoicedpcaaGreatDoor.Low
section
open Go Go.Am Go.Lower
open Go.Emit (Wr aE aJ aD vR gg jE fE)
open Go.Src (ab kL bN)
attribute[local congr]ite_cc
def uX(fs:List Src.CFn)(P:Emit.Plan):(List Nat×Nat)×Nat:=if 32768<P.data then(([],0),2)else let c:=Emit.filled (Emit.whole fs P)
 if 16384<z c then(([],0),2)else if c.all rK then((c.map oK,P.data.toNat),0)else(([],0),2)
def wu(r:(List Nat×Nat)×Nat):AV:=.tup [iX r.1,ae (r.2:Nat)]
def Oq{fs}{P}(h:0<=P.data):Bn fs P=wu (uX fs P):=by grind[Bn,uX,wu,Fi,iX]
def EN fs P:z (uX fs P).1.1<=16384/\(uX fs P).1.2<=32768:=by grind[uX]
def fN(p:Src.Prog):(List Nat×Nat)×Nat:=if (kL p).2≠0 then(([],0),(kL p).2)else uX (ab p).f (gZ p)
def qm p:z (fN p).1.1<=16384/\(fN p).1.2<=32768:=by
 unfold fN;split;.simp
 simp[EN]
variable{o:cM}{p:Src.Prog}{s:St}{e:Nat}{t:Asm.Str}
def Ot(h:(kL p).2=0):bN p=0/\(ab p).words<=32768/\(kL p).1=ab p:=by grind[kL]
def xV{code}{d e}:uD s [.agg [.d (iC code),ag d],ae e] (.tup [.agg [.d (iC code),ag d],ae e]):=by refine⟨_,⟨.agg [.d (iC code),ag d],_,rfl,⟨[iC code,.int .i64 d],rfl,λi c l=>?_,rfl⟩,_,_,rfl,⟨_,.d _,rfl⟩,rfl⟩,rfl⟩;match i,l with|0,l=>cases l;exact⟨_,rfl,.d _⟩;|1,l=>cases l;exact⟨_,rfl,.d _⟩
def Ou{n}:uD s [sv t,ae n] (.tup [sv t,ae n]):=⟨_,⟨_,_,rfl,⟨_,.d _,rfl⟩,_,_,rfl,⟨_,.d _,rfl⟩,rfl⟩,rfl⟩
def Tg{n m}:uD s [sv t,ae n,ae m] (.tup [sv t,ae n,ae m]):=⟨_,⟨_,_,rfl,⟨_,.d _,rfl⟩,_,_,rfl,⟨_,.d _,rfl⟩,_,_,rfl,⟨_,.d _,rfl⟩,rfl⟩,rfl⟩
def Ov(h:(kL p).2=0)(az:szP p<=2000):cn Tryz.prog 4 o 32 [tg (kL p).1] (·=wu (fN p)):=by
 obtain⟨U,Z,a⟩:=Ot h;have hd:0<=(gZ p).data:=by have i:=Emit.vX (z (ab p).f) (gZ p).depths 0 (ab p).words (λo _=>Emit.jr o 0);have j:=Emit.GX U;have k:(Src.ay p).2<=(ab p).words:=Src.BB _ _ _;have:(gZ p).data=(Emit.fe (z (ab p).f) 0 (gZ p).depths (ab p).words).2.2:=rfl;omega
 have hE:=XM (o:=o) U az Z;rw[Oq hd]at hE;have hL:=SV U (by omega:szP p<=1000000);have d:fN p=uX (ab p).f (gZ p):=l4 (by simp[h]);rw[a,d];obtain⟨r,V⟩:∃r,uX (ab p).f (gZ p)=r:=⟨_,rfl⟩;rw[V]at hE|-;obtain⟨⟨code,data⟩,e⟩:=r;have b:tg (ab p)=.agg [ag (ab p).words,aw ((ab p).f.map cfD)]:=rfl;rw[b]at hL|-;refine hdG Tryz.func32 rfl [.cell 2 35,.tmp 3] λO bc s0 w0 g=>?_;simp only[go_sem];refine lM aN rfl abu c8 ?_;rintro _ rfl;simp only[go_sem,kX];refine lN aN (λs l ds w h=>h.1.2) rfl abZ c8 ?_;exact s8
def Ti{c}{r}(a:e=0->cn Tryz.prog 4 o 32 [tg c] (·=wu r)):cn Tryz.prog 4 o 31 [tg c,ae e,.one (.d (.fn 32))] (·=wu (if e≠0 then(([],0),e)else r)):=by
 have b:tg c=.agg [ag c.words,aw (c.f.map cfD)]:=rfl;rw[b]at a|-;refine hdG Tryz.func31 rfl [.cell 6 35,.tmp 7] λO bc s0 w0 g=>?_;by_cases h:e=0;.subst h;rw[l4 b9];simp only[go_sem];refine wq aN (λs i ds w h=>h.1.2) rfl ac1 (by simp only[go_sem];exact a rfl) c8 ?_;exact s8
 .exact Zi
def Jn(ho:mL o)(az:szP p<=2000):cn Tryz.prog 4 o 12 [cK p] (·=wu (fN p)):=by
 have hC:=Xr ho p a7;have hT:=Ti (o:=o) (λi=>Ov i az);have j:(if (kL p).2≠0 then(([],0),(kL p).2)else fN p)=fN p:=by unfold fN;split<;>rfl
 rw[j]at hT;obtain⟨r,V⟩:∃r,fN p=r:=⟨_,rfl⟩;rw[V]at hT|-;obtain⟨⟨code,data⟩,e⟩:=r;obtain⟨c,l⟩:∃c,kL p=c:=⟨_,rfl⟩;rw[l]at hC hT;obtain⟨c,d⟩:=c;have b:tg c=.agg [ag c.words,aw (c.f.map cfD)]:=rfl;rw[b]at hC hT;have P:cK p=.agg [aw (p.v.map λs=>[.str s]),aw (p.a.map arD),aw (p.f.map fnD)]:=rfl;rw[P]at hC|-;refine hdG Tryz.func12 rfl [.cell 2 35,.tmp 3] λO bc s0 w0 g=>?_;simp only[go_sem];refine dm rfl (by simp only[go_sem];exact hC) ?_;rintro _ rfl;simp only[go_sem];refine dm rfl abt ?_;exact s8
def Tj(ho:mL o)(az:e=0->szP p<=2000):cn Tryz.prog 4 o 17 [cK p,ae e,.one (.d (.fn 12))] (·=wu (if e≠0 then(([],0),e)else fN p)):=by
 have b:=λh=>Jn ho (az h);have P:cK p=.agg [aw (p.v.map λs=>[.str s]),aw (p.a.map arD),aw (p.f.map fnD)]:=rfl;rw[P]at b|-;refine hdG Tryz.func17 rfl [.cell 6 35,.tmp 7] λO bc s0 w0 g=>?_;by_cases h:e=0;.subst h;rw[l4 b9];simp only[go_sem];refine wq aN (λs i ds w h=>h.1.2) rfl ac1 (by simp only[go_sem];exact b rfl) c8 ?_;exact s8
 .exact Zi
def Tl{m}(U:z m.1<=16384)(Z:m.2<=32768):cn Tryz.prog 4 o 18 [iX m,ae e,.one (.d (.fn 19))] (·=.tup [sv (if e≠0 then []else xJ m),ae e]):=by
 have A:=(acO m U Z).toG (X:=4) (o:=o);obtain⟨code,data⟩:=m;have c:iX (code,data)=.agg [.d (iC code),ag (data:Nat)]:=rfl;rw[c]at A|-;refine hdG Tryz.func18 rfl [.tmp 6,.tmp 7] λO bc s0 w0 g=>?_;by_cases h:e=0;.subst h;rw[l4 b9];simp only[go_sem];refine wq aN (λs b ds w h=>h.1.2) rfl ac1 adx c8 ?_;rintro _ rfl;simp only[go_sem];simp_all[Ou]
 .rw[s5 h];have a:¬(e:Int)=0:=a7;simp only[go_sem,a];simp_all[Ou]
def nV(src:Asm.Str):Asm.Str×Nat×Nat:=let r:=nO src
 if r.2.2≠0 then([],r.2.1,r.2.2)else let m:=fN r.1
 if m.2≠0 then([],r.2.1,m.2)else(xJ m.1,r.2.1,0)
def EP(r:Asm.Str×Nat×Nat):AV:=.tup [sv r.1,ae (r.2.1:Nat),ae (r.2.2:Nat)]
def sE(ho:mL o){src}(az:szP (nO src).1<=2000):cn Tryz.prog 4 o 6 [sv src] (·=EP (nV src)):=by
 have A:=Xm ho src;unfold nV;obtain⟨r,V⟩:∃r,nO src=r:=⟨_,rfl⟩;rw[V]at az A|-;obtain⟨p,l,e⟩:=r;simp only at az|-;have hT:=Tj ho (e:=e) (λ_=>az);have b:z ((if e≠0 then(([],0),e)else fN p):(List Nat×Nat)×Nat).1.1<=16384/\((if e≠0 then(([],0),e)else fN p):(List Nat×Nat)×Nat).1.2<=32768:=by
  split;.simp
  .exact qm p
 obtain⟨X,q⟩:∃X,(if e≠0 then([],l,e)else if (fN p).2≠0 then([],l,(fN p).2)else(xJ (fN p).1,l,0):Asm.Str×Nat×Nat)=X:=⟨_,rfl⟩;rw[q];obtain⟨m,u⟩:∃m,(if e≠0 then(([],0),e)else fN p:(List Nat×Nat)×Nat)=m:=⟨_,rfl⟩;rw[u]at hT b;have n:=Tl (o:=o) (e:=m.2) b.1 b.2;have i:X=((if m.2≠0 then []else xJ m.1),l,m.2):=by
  rw[<-q,<-u];by_cases h:e=0;.grind
  .simp[h]
 rw[i];obtain⟨⟨code,data⟩,j⟩:=m;simp only at n;have P:cK p=.agg [aw (p.v.map λs=>[.str s]),aw (p.a.map arD),aw (p.f.map fnD)]:=rfl;have c:iX (code,data)=.agg [.d (iC code),ag (data:Nat)]:=rfl;unfold NO at A;unfold wu at hT;rw[P]at A hT;rw[c]at hT n;refine hdG Tryz.func6 rfl [.tmp 2,.tmp 3,.tmp 4] λO bc s0 w0 g=>?_;simp only[go_sem];refine dm rfl adx ?_;rintro _ rfl;simp only[go_sem];refine dm rfl abt ?_;rintro _ rfl;simp only[go_sem];refine dm rfl (by simp only[go_sem];exact n) ?_;rintro _ rfl;unfold EP;simp only[go_sem];simp_all[Tg]
end
open Go Go.Am Go.Asm Go.Mach
attribute[local congr]ite_cc
def jQ(t:Nat)(code:List Nat)(d:Nat):Nat:=8*(t+1)*(z code+d+1)
def F_A(t:Nat) code d(i:t<=1000)(hl:z code<=1000000)(hd:d<=32768):aR Tryz.prog 11 [ae t,iX (code,d)] (·=ae (jQ t code d)):=by
 refine hdP Tryz.func11 rfl [4] λg=>?_;have U:IntKind.i64.wrap ((t:Int)+1)=((t+1:Nat):Int):=by rw[wrap_i64]<;>omega
 have Z:IntKind.i64.wrap (8*((t+1:Nat):Int))=((8*(t+1):Nat):Int):=by rw[wrap_i64]<;>omega
 have a:IntKind.i64.wrap ((z code:Int)+(d:Int))=((z code+d:Nat):Int):=by rw[wrap_i64]<;>omega
 have b:IntKind.i64.wrap (((z code+d:Nat):Int)+1)=((z code+d+1:Nat):Int):=by rw[wrap_i64]<;>omega
 have e:IntKind.i64.wrap (((8*(t+1):Nat):Int)*((z code+d+1:Nat):Int))=(jQ t code d:Nat):=by have hb:8*(t+1)*(z code+d+1)<=8008*1032769:=Nat.mul_le_mul a7 a7;unfold jQ;rw[<-O9,wrap_i64]<;>omega
 unfold iX iC;simp only[go_sem,j6,U,Z,a,b,e]
def aT:Str:=[102,117,110,99,32,109,97,105,110,40,41,32,123,32,112,117,116,40,54,53,41,59,32,125]
def CH:Str:=[102,117,110,99,32,109,97,105,110,40,41,32,123,32,112,117,116,40,54,53,41,32,125]
def Tx:nV CH=([],22,3):=by have h:(nO CH).2=(22,3):=c9;grind[nV]
def aB:Str:=[83,69,69,68,6,0,0,0,1,0,0,0,1,0,240,1,65,0,16,1,0,0,16,17,0,0,16,16,0,0,16,24,0,0,0,26]
def aC:List Nat:=[32505857,17825857,286261248,269484032,403701760,436207616]
def a_c:nV aT=(aB,0,0):=c9
def a_r:kl aB=S (aC,1):=c8
def a_z:szP (nO aT).1<=2000:=c9
def a_x:Lu okI aC 1 [] (jQ 0 aC 1)=(1,[65],6):=c9
def e_c:fN ⟨[],[],[]⟩=(([],0),7):=c8
def w_z:szP (nO CH).1<=2000:=c9
def acr{P}{X}{o}{f}{R}(h:cn P X o f [.agg [aw [],aw [],aw []]] R):cn P X o f [.agg [.d .nsl,.d .nsl,.d .nsl]] R:=⟨h.1,λJ w vs h0 U Z=>h.2 J w vs h0 U (by
 simp only[RVs,RV]at Z|-;obtain⟨u,W,rfl,⟨L,rfl,hl,hc⟩,al⟩:=Z;refine⟨_,W,rfl,⟨L,rfl,hl,λi c hi=>?_⟩,al⟩;have hn:([.d .nsl,.d .nsl,.d .nsl]:List C)[i]?=S (.d .nsl):=by match i,hi with|0,_=>rfl;|1,_=>rfl;|2,_=>rfl
 have hs:c=aw []:=by match i,hi with|0,hi=>grind;|1,hi=>grind;|2,hi=>grind
 obtain⟨v,hv,x,I,V⟩:=hc i _ hn;cases I;cases V;exact⟨_,hv,_,hs,.sl0⟩)⟩
def Ty{o}(a:mL o):cn Tryz.prog 4 o 4 [] (·=bv T):=by
 refine hdG Tryz.func4 rfl [.tmp 0] λO bc s0 w0 g=>?_;simp only[go_sem];refine dm rfl (by simp only[go_sem];exact sE a (src:=aT) a_z) ?_;rintro _ rfl;rw[a_c];unfold EP;simp only[go_sem];refine kr rfl (by simp only[go_sem];exact zG aB a8) ?_;rintro _ rfl;rw[a_r];unfold CO iX;simp only[go_sem];refine cG aP mixed aN [6] [([4],[0],[],F),([4],[0],[],F),([23],[0],[],F),([22,24],[0],[],F),([],[],[0],F),([6,25],[],[],T)] 1 rfl c9 rfl a8 ?_;simp only[go_sem];iterate 2 (refine au gdD (λ_ _ _ _ J=>by simp only[go_sem]at J|-;exact J) ?_)
 refine au (v:=ae (jQ 0 aC 1:Nat)) A6 (λj ga l b J=>?_) ?_;.simp only[go_sem]at J|-;refine kr rfl (by simp only[go_sem];exact F_A 0 aC 1 a8 a8 a8) ?_;exact sT
 refine au (v:=TX (1,[65],6)) A6 (λj ga l b J=>?_) ?_;.simp only[go_sem]at J|-;refine kr rfl (by simp only[go_sem];exact JA aC 1 [] (jQ 0 aC 1) a8 c9 a8 a8) ?_;rintro _ rfl;rw[a_x];exact h9
 unfold TX;(refine cw gdD Z4 ?_);refine cH A6 ?_;intro b e;simp only[go_sem];refine e _ ?_;clear e b;simp only[go_sem];refine dm rfl (by simp only[go_sem];exact sE a (src:=CH) w_z) ?_;rintro _ rfl;rw[Tx];unfold EP;simp only[go_sem];refine dm rfl (by simp only[go_sem];exact acr (Jn a (p:=⟨[],[],[]⟩) c9)) ?_;rintro _ rfl;rw[e_c];unfold wu iX;exact gO
end Go.Proofs.YtfdbpgoicedpcaaGreatDoor.Low
namespace Go.Src
attribute [local congr] Go.Am.ite_cc
open Go.Asm (Str)
def Hy(l:List Str):Bool:=decide (z l<=200)&&l.all λs=>decide ((z s:Int)<=60)
def Tz(left:Int):List Fn->Option Int|[]=>S left|f::l=>if Hy f.p&&Hy f.l&&decide ((z f.name:Int)<=60)then Tz (ff f.body (left-z f.p-z f.l) 60) l else N
def acs(p:Prog)(d:Int):Bool:=if (Hy p.v&&decide (z p.a<=200)&&decide (z p.f<=70))=F then F else if (p.a.all λa=>decide ((z a.1:Int)<=60))=F then F else match Tz (d-z p.v-z p.a-z p.f) p.f with|some n=>decide (0<=n)|none=>F
structure InP (p:Prog):Prop where
 v:p.v.length<=1000000000000000000
 a:p.a.length<=1000000000000000000
 f:p.f.length<=1000000000000000000
 fs:∀f∈p.f,(f.p.length<=1000000000000000000/\f.l.length<=1000000000000000000)/\f.body.length<=1000000000000000000/\ua f.body
def Jq:∀l left n,Tz left l=S n->n<0\/n+((l.map λf=>z f.p+z f.l+aI f.body).sum)<=left
 |[],left,n,h=>by cases h;simp;|f::l,left,n,h=>by
  rw[Tz]at h;split at h;.have a:=Jq l _ n h;simp only[s7,H2];have b:=sF f.body (left-z f.p-z f.l) 60;omega
  .cases h
def adO{p}{d:Nat}(h:acs p d=T):z p.v+z p.a+z p.f+(p.f.map λf=>z f.p+z f.l+aI f.body).sum<=d:=by
 unfold acs at h;split at h;.cases h
 split at h;.cases h
 split at h;.rename_i n b;have c:=of_decide_eq_true h;rcases Jq _ _ _ b with U|U<;>omega
 .cases h
end Go.Src
namespace Go.Proofs.YtfdbpgoicedpcaaGreatDoor
open Go Go.Am Go.Asm
open Go.Src (Ex Stm szE aO szS aI inE uZ inS ua qN eJ qO ff)
attribute[local congr]ite_cc
def EW:∀al l left b,aI l<=al->z l<=1000000000000000000->ua l->(-4000000000000000000<=left/\left<=1000000)->(0<=b/\b<=60)->aR Tryz.prog 36 [eU l,ae left,ae b] (·=ae (ff l left b)):=by intro al;induction al using Nat.strongRecOn with|ind al w=>
 intro l left b A hl E bl u;refine hdP Tryz.func36 rfl [6] λg=>?_;obtain⟨X,x⟩:∃X,ff l left b=X:=⟨_,rfl⟩;rw[x];unfold eU;simp only[go_sem];refine ez (λk K=>∃c:Int,ff (l.drop k) c b=X/\(-4000000000000000000<=c/\c<=1000000)/\K.f 0=.one (aw (l.map smD))/\K.f 1=ae c/\K.f 2=ae b/\K.f 7=ae k) (z l) ⟨left,x,bl,?_⟩ ?_;.exact gO
 rintro k f G I hk⟨c,hc,L,q0,j,q2,q7⟩;simp only at q0 j q2 q7;have hw:=ah (k:=k) a7;by_cases af:k<z l;case neg=>have Q:¬(k:Int)<(z l:Int):=a7;rw[y8 a7,ff]at hc;simp only[go_sem,q0,j,q7,Q,j6,hc]
 have Q:(k:Int)<(z l:Int):=a7;by_cases bk:0<=c;case neg=>rw[Src.qn a7]at hc;subst hc;simp only[go_sem,q0,j,q7,Q,j6,bk]
 have v:IntKind.i64.wrap (c-1)=c-1:=wrap_i64 _ a7 a7;have o:IntKind.i64.wrap (b-1)=b-1:=wrap_i64 _ a7 a7;obtain⟨e,t⟩:=getq af;rw[eO t,ff,l4 a7]at hc;have i:=Src.Ox E t;have az:=Src.nd (l8 t);obtain⟨kind,name,e,a,el⟩:=e;have y:smD (.mk kind name e a el)=[.int .i64 kind,.str name,.sl (e.map exD),.sl (a.map smD),.sl (el.map smD)]:=by simp only[smD,aL,dy]
 have p:=getD_at (f:=smD) t;rw[y]at p;rw[qO]at hc;rw[szS]at az;rw[inS]at i;by_cases hd:b<=0;.rw[s5 (.inl hd),Src.qn a7]at hc;simp only[go_sem,q0,j,q2,q7,Q,j6,bk,v,hd,<-hc]
 by_cases hn:60<(z name:Int);.rw[s5 (.inr hn),Src.qn a7]at hc;simp only[go_sem,q0,j,q2,q7,Q,j6,bk,v,hd,p,hn,<-hc]
 rw[l4 a7]at hc;have O:=Src.wx e (c-1) (b-1);have b2:=Src.wy e (c-1) (b-1) a7;have c1:=Src.sF a (eJ e (c-1) (b-1)) (b-1);have c2:=Src.wz a (eJ e (c-1) (b-1)) (b-1) a7;have d1:=Src.sF el (ff a (eJ e (c-1) (b-1)) (b-1)) (b-1);have U:=Src.wz el (ff a (eJ e (c-1) (b-1)) (b-1)) (b-1) a7;simp only[go_sem,q0,j,q2,q7,Q,j6,bk,v,o,hd,p,hn];refine cD rfl (by simp only[go_sem];exact EU (aO e) e (c-1) (b-1) (l7 _) i.1.1 i.1.2 a7 a7) ?_;rintro _ rfl;simp only[go_sem,q0,q2,q7,p,o];refine cD rfl (by simp only[go_sem];exact w (aI a) a7 a _ (b-1) (l7 _) i.2.1.1 i.2.1.2 a7 a7) ?_;rintro _ rfl;simp only[go_sem,q0,q2,q7,p,o];refine cD rfl (by simp only[go_sem];exact w (aI el) a7 el _ (b-1) (l7 _) i.2.2.1 i.2.2.2 a7 a7) ?_;exact Y0
def eA{H:Type}{p}{l:List H}{k}{x}{X}(h:(l.drop k).all p=X)(I:l[k]?=S x):(p x=T->(l.drop (k+1)).all p=X)/\(p x=F->X=F):=by rw[eO I,D1]at h;grind
def lA(l:List Str):AV:=.one (aw (l.map λs=>[.str s]))
def CI l(hl:z l<=1000000000000000000):aR Tryz.prog 35 [lA l] (·=bv (Src.Hy l)):=by
 refine hdP Tryz.func35 rfl [2] λg=>?_;unfold Src.Hy lA;obtain⟨X,a⟩:∃X,(l.all λs=>decide ((z s:Int)<=60))=X:=⟨_,rfl⟩;rw[a];simp only[go_sem];refine ez (λk K=>((l.drop k).all λs=>decide ((z s:Int)<=60))=X/\K.f 0=.one (aw (l.map λs=>[.str s]))/\K.f 3=ae k) (z l) ⟨a,?_⟩ ?_;.exact gO
 rintro k f u v w⟨j,q0,i⟩;simp only at q0 i;by_cases o:k<z l;case neg=>
  have Q:¬(k:Int)<(z l:Int):=a7;rw[y8 a7]at j;have a:X=T:=j.symm;have e:decide ((z l:Int)<=200)=decide (z l<=200):=by congr 1;exact propext ⟨λh=>by omega,λh=>by omega⟩
  simp only[go_sem,q0,i,Q,j6,a,I3,e]
 have Q:(k:Int)<(z l:Int):=a7;obtain⟨s,p⟩:=getq o;obtain⟨U,Z⟩:=eA j p;have r:=getD_at (f:=λs:Str=>[D.str s]) p;by_cases hn:60<(z s:Int);.simp only[go_sem,q0,i,Q,j6,r,hn,Z (G0 a7),D3]
 .simp only[go_sem,q0,i,Q,j6,r,hn,ah (k:=k) a7];refine cj o ⟨U (E4 a7),?_⟩;exact X7
end Go.Proofs.YtfdbpgoicedpcaaGreatDoor


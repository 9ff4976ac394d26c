/- A part; no conditions. -/
import Derived.Test.YtfdbpgoicedpcaaGreatDoorPart9
set_option linter.all false
open List renaming length -> z
open Option renaming some -> S, none -> N
open Bool renaming true -> T, false -> F
set_option maxHeartbeats 64000000
set_option maxRecDepth 100000
namespace Go.Proofs.YtfdbpgoicedpcaaGreatDoor
section
open Go Go.Am Go.Asm
open Go.Src (PR mR Ex Stm)
attribute[local congr]ite_cc
def jK(p:Src.Prog):List C:=(kG p).map .d
variable{src:Str}{g:Nat->Nat}{p:Src.Prog}
def Sf{A}{fin c k gr gc}{ob}(hl:z A<=100000)(a6:∀t∈A,t.num<=4294967295)(d:4*z A+7<=k)(j:c<100)(bl:∀i,200<=i->ob i=N)(ho:ob 125=S (rdC A 0 fin))(b:∃x y X,ob c=S [x,y,X])(r:g 125=gr)(a:g c=gc):dS Tryz.prog 42 [aj 125 gr 0,mV (.ptr c gc 0)] g ob (λ_ g' Y=>g'=g/\∃p m,mR A k 0=.ok p m/\Y=upd (upd ob 125 (S (rdC A m fin))) c (S (jK p))) (NoR A fin (mR A k 0) g ob):=by
 obtain⟨x,y,X,b⟩:=b;subst r a;refine hdX 1000 Tryz.func42 rfl [] λO bc s0 w0=>?_;have q:(c=125)=False:=by simp;omega
 simp only[go_sem];refine Km aa rfl (by simp only[go_sem];exact Xj hl a6 d 200 g ob a7 bl ho) ?_;rintro _ g' Y⟨rfl,p,m,e,rfl,rfl⟩;unfold cK kG;simp only[go_sem,mV,q,b];exact⟨_,ai.refl _,rfl,p,m,e,rfl⟩
structure RdG (src:Str) (c:Nat) (g:Nat->Nat) (ob:Obs) (s:St):Prop where
 f0:s.f 0=sv src
 f1:s.f 1=.one (.clo 42 [.ptr c (g c) 0])f4:s.f 4=aj 104 (nxC 4 (g 104)) 0
 f5:s.f 5=aj 105 (nxC 30 (g 105)) 0
 gn:s.gen=upd (upd g 104 (nxC 4 (g 104))) 105 (nxC 30 (g 105))on:s.obj=upd (upd ob 104 (some [ag 0])) 105 (some [ag 0])
structure RdE (c:Nat) (g:Nat->Nat) (ob:Obs) (s:St):Prop where
 f4:s.f 4=aj 104 (nxC 4 (g 104)) 0
 f5:s.f 5=aj 105 (nxC 30 (g 105)) 0
 g4:s.gen 104=nxC 4 (g 104)g5:s.gen 105=nxC 30 (g 105)o4:s.obj 104=some [ag 0]o5:s.obj 105=some [ag 0]gc:s.gen c=g c
 fr:∀i,i<100->i≠c->s.gen i=g i/\s.obj i=ob i
def VK(src:Str)(c:Nat)(g:Nat->Nat)(ob:Obs)(r:AV)(g':Nat->Nat)(Y:Obs):Prop:=(∀i,i<100->i≠c->g' i=g i/\Y i=ob i)/\g' c=g c/\match Src.zZ src with|(.ok p,_)=>r=.tup [ae 0,ae 0]/\Y c=S (jK p)|(.err e,k)=>r=.tup [ae (k:Nat),ae (e:Nat)]
def Xl{o}(ho:mL o){c}{ob}(hc:c<100)(bl:∀i,100<=i->ob i=N)(af:∃x y X,ob c=S [x,y,X]):DC Tryz.prog 4 o 41 [sv src,.one (.clo 42 [.ptr c (g c) 0])] g ob (VK src c g ob):=by
 obtain⟨cx,cy,cz,af⟩:=af;have bk:(c=104)=False:=by simp;omega
 have q:(c=105)=False:=by simp;omega
 have bn:(c=125)=False:=by simp;omega
 refine⟨⟨_,Tryz.func41,c8,c8⟩,λO al β a fa w vs b8 H bz hv=>?_⟩;refine kR (n:=0) (callsIn_of_wp_defers Tryz.func41 c8 trivial ?_);have V:=pq (al:=Tryz.f41.ntmps) b9 bz hv;refine AO (B:=100) aP mixed aW c8 c8 V ⟨⟨b8,H⟩,rfl,Tr.refl⟩ (K:=RdG src c g ob) ?_ ?_;.simp only[go_sem];exact⟨rfl,rfl,rfl,rfl,rfl,rfl⟩
 rintro s1 l a1 c1 w1 k1 b1 r;refine AO (B:=100) aP mixed aW c8 c8 b1 r (K:=λs=>RdG src c g ob s/\s.f 6=.one (.d (mQ (Src.rY src).1))/\s.f 7=ae ((Src.rY src).2.1:Nat)/\s.f 8=ae ((Src.rY src).2.2:Nat)) ?_ ?_;.obtain⟨f,g1,av⟩:=s1;obtain⟨q0,q1,q4,q5,rfl,rfl⟩:=k1;simp only at q0 q1 q4 q5;simp only[go_sem,q0];refine lN aW (λs β ds w h=>h.1.2) rfl (by simp only[go_sem];exact acJ ho src) c8 ?_;rintro _ rfl;unfold acI;simp only[go_sem];refine⟨?_,?_,?_,?_,rfl,rfl⟩<;>(simp only[go_sem,q0,q1,q4,q5])
 rintro s2 bf a2 b3 w2⟨k2,P,k7,k8⟩Q cm;refine GC (B:=100) aP mixed aW c8 c8 Q cm (K:=λs=>RdG src c g ob s/\s.f 6=.one (.d (mQ (Src.rY src).1))/\(Src.rY src).2.2=0)
  (K2:=λs=>(Src.rY src).2.2≠0/\s.f 4=aj 104 (s.gen 104) 0/\s.f 5=aj 105 (s.gen 105) 0/\s.obj 104=S [ag ((Src.rY src).2.1:Nat)]/\s.obj 105=S [ag ((Src.rY src).2.2:Nat)]/\∀i,i<100->s.gen i=g i/\s.obj i=ob i) ?_ ?_ ?_
 .obtain⟨f,g1,av⟩:=s2;obtain⟨q0,q1,q4,q5,rfl,rfl⟩:=k2;simp only at q0 q1 q4 q5 P k7 k8;by_cases he:(Src.rY src).2.2=0;.rw[he]at k8;simp only[go_sem,k8,P,he];refine .inl ⟨?_,?_,?_,?_,rfl,rfl⟩<;>(simp only[go_sem,q0,q1,q4,q5])
  .have b6:¬((Src.rY src).2.2:Int)=0:=a7;simp only[go_sem,k8,P,k7,he,b6,q4,q5];grind
 case refine_3=>
  rintro s3 az a3 ca w3⟨he,z4,z5,y4,y5,ar⟩L I;obtain rfl:ca=[]:=I.2.1;have hE:oq Tt s3 [.cell 4 3,.cell 5 29] (bx λj=>pack j=.tup [ae ((Src.rY src).2.1:Nat),ae ((Src.rY src).2.2:Nat)]):=by obtain⟨f3,g3,b'⟩:=s3;simp only at z4 z5 y4 y5;simp only[go_sem,z4,z5,y4,y5];rfl
  obtain⟨v,j,U,Z,h3,_⟩:=eV (fn:=Tryz.f41) aP L c8 hE;refine⟨v,U,v,_,_,_,az,rfl,⟨λi hi _=>ar i hi,(ar c hc).1,?_⟩,h3,L.obj,L.inj,?_⟩;.grind[Src.zZ]
  .have b:=I.2.2;exact⟨b.size,b.old,b.keep,b.os⟩
 rintro s3 az a3 ca w3⟨k3,P,he⟩L I;obtain rfl:ca=[]:=I.2.1;refine Ko (B:=100) (f:=71) (bd:=[.ptr 104 (nxC 4 (g 104)) 0,.ptr 105 (nxC 30 (g 105)) 0]) aP aW rfl rfl rfl (λd h=>by cases h;simp) rfl rfl L I (K:=λs=>RdG src c g ob s/\s.f 6=.one (.d (mQ (Src.rY src).1))) ?_ ?_;.obtain⟨f,g1,av⟩:=s3;obtain⟨q0,q1,q4,q5,rfl,rfl⟩:=k3;simp only at q0 q1 q4 q5 P;simp only[go_sem,q4,q5,P];refine⟨?_,?_,?_,?_,rfl,rfl⟩<;>(simp only[go_sem,q0,q1,q4,q5])
 rintro s4 c2 a4 w4 vs⟨k4,P⟩cv b7 bs;obtain⟨f4,g4,cd⟩:=s4;obtain⟨q0,q1,q4,q5,rfl,rfl⟩:=k4;simp only at q0 q1 q4 q5 P;obtain⟨hl,a6⟩:=Src.PY (s:=src);unfold VK Src.zZ;rw[l4 (by simp[he])];obtain⟨A,G⟩:∃A,(Src.rY src).1=A:=⟨_,rfl⟩;rw[G]at P hl a6|-;obtain⟨pr,bo⟩:∃pr,mR A (4*z A+7) 0=pr:=⟨_,rfl⟩;rw[bo];refine Kn (B:=100) aP mixed (vM) (λch s=>(∃m,ch=zf (oI A (z src) m)/\(pr=.no m\/∃p,pr=.ok p m/\m<z A))/\RdE c g ob s)
  (λe s=>e=.ret/\(∃p m,pr=.ok p m/\¬m<z A/\s.obj c=S (jK p))/\RdE c g ob s) c8 c8 cv ⟨rfl,Tr.refl⟩ ?_ ?_
 .simp only[go_sem,q0,q1,P];refine bB vM rfl c8 (by simp only[go_sem];exact Sf (k:=4*z A+7) (A:=A) (fin:=z src) (c:=c) a7 a6 a7 hc abO c8 ⟨cx,cy,cz,by grind[upd]⟩ c8 (by grind[upd])) ?_ ?_;.rintro ch g' Y⟨rfl,m,hp,rfl,rfl⟩;rw[bo]at hp;refine⟨⟨m,rfl,.inl hp⟩,?_⟩;refine⟨by simp only[go_sem,q4],by simp only[go_sem,q5],c8,c8,c8,c8,by simp only[go_sem,bk,q,bn],λi hi b0=>?_⟩;grind[upd]
  .rintro _ g' Y⟨rfl,p,m,hp,rfl⟩;rw[bo]at hp;have e5:(125=c)=False:=by simp;omega
   have e4:(104=c)=False:=by simp;omega
   have e6:(105=c)=False:=by simp;omega
   unfold rdC mQ;simp only[go_sem];refine aZ c9 ?_;by_cases hm:m<z A
   .have b2:(m:Int)<(z A:Int):=a7;simp only[go_sem,e5,b2,j6];refine cN vM rfl (by simp only[go_sem];exact Cq (n:=m) (A:=A) (fin:=z src) (by simp[upd,e5,rdC,mQ])) ?_ ?_;case refine_2=>exactλ_ _ _ h=>h.elim
    rintro ch g' Y⟨rfl,rfl,rfl⟩;refine⟨⟨m,rfl,.inr ⟨p,hp,hm⟩⟩,?_⟩;refine⟨by simp only[go_sem,q4],by simp only[go_sem,q5],c8,c8,by simp only[go_sem,e4],by simp only[go_sem,e6],by simp only[go_sem,bk,q,bn],λi hi b0=>?_⟩;grind[upd]
   .have b2:¬(m:Int)<(z A:Int):=a7;simp only[go_sem,e4,e5,e6,b2,j6,q4,q5];refine⟨⟨p,m,hp,hm,by grind⟩,?_⟩;refine⟨by simp only[go_sem,q4],by simp only[go_sem,q5],c8,c8,c8,c8,by simp only[go_sem,bk,q,bn],λi hi b0=>?_⟩;grind[upd]
 rintro e s' E W ad w' b4 cu⟨rfl,b5⟩;rcases b4 with⟨rfl,⟨p,m,hp,hm,c4⟩,z4,z5,e4,e5,o4,o5,gc,hF⟩|⟨ch,rfl,⟨m,rfl,hp⟩,z4,z5,e4,e5,o4,o5,gc,hF⟩
 .show LeavesIn _ _ _ _ W.tmps _ _ _ _;refine GD (B:=200) aP mixed Tryz.func71 c8 c8 rfl rfl rfl rfl rfl rfl b9 b9 c8 c8 c8 (aP 20 rfl).desc cu (bg.keep b5.keep _ bs) b9
   (K:=λg' Y=>g'=s'.gen/\Y=s'.obj) ?_ ?_;.intro bc s0 w0;exact gO
  .rintro _ _ cb w6⟨rfl,rfl⟩an cc;have hE:oq Tt ⟨s'.f,s'.gen,s'.obj⟩ [.cell 4 3,.cell 5 29] (bx λj=>pack j=.tup [ae 0,ae 0]):=by simp only[go_sem,z4,z5,e4,e5,o4,o5];rfl
   obtain⟨v,j,U,Z,h3,_⟩:=eV (fn:=Tryz.f41) aP an c8 hE;refine⟨v,U,v,_,_,_,cb,rfl,⟨λi hi b0=>hF i hi b0,gc,?_⟩,h3,an.obj,an.inj,?_⟩;.grind
   .have b:=(b7.2.2.trans b5).trans cc;exact⟨b.size,b.old,b.keep,b.os⟩
 show LeavesIn _ _ _ _ W.tmps _ _ _ _;refine GA (B:=200) aP mixed Tryz.func71 c8 c8 rfl rfl rfl rfl rfl rfl b9 b9 c8 c8 c8 (aP 20 rfl).desc cu (bg.keep b5.keep _ bs) b9
  (K:=λg' Y=>g' 104=nxC 4 (g 104)/\g' 105=nxC 30 (g 105)/\Y 104=S [ag (oI A (z src) m:Nat)]/\Y 105=S [ag 3]/\g' c=g c/\∀i,i<100->i≠c->g' i=g i/\Y i=ob i) ?_ ?_
 .intro bc s0 w0;simp only[go_sem];refine Cb aa rfl (aP 160 rfl).desc c8 ?_;have cf:(c=203)=False:=by simp;omega
  simp only[go_sem,e4,e5,o4,o5,mV,cf,gc];grind
 .rintro g' Y cb w6⟨x4,J,y4,y5,c0,ar⟩an cc;have hE:oq Tt ⟨s'.f,g',Y⟩ [.cell 4 3,.cell 5 29] (bx λj=>pack j=.tup [ae (oI A (z src) m:Nat),ae 3]):=by simp only[go_sem,z4,z5,x4,J,y4,y5];rfl
  obtain⟨v,j,U,Z,h3,_⟩:=eV (fn:=Tryz.f41) aP an c8 hE;refine⟨v,U,v,_,_,_,cb,rfl,⟨ar,c0,?_⟩,h3,an.obj,an.inj,?_⟩
  .rcases hp with hp|⟨p,hp,hm⟩;.rw[hp];exact Z
   .rw[hp];simp only[s5 hm];exact Z
  .have b:=(b7.2.2.trans b5).trans cc;exact⟨b.size,b.old,b.keep,b.os⟩
def NN:Src.Prog:=⟨[],[],[]⟩
def nO(src:Str):Src.Prog×Nat×Nat:=match Src.zZ src with|(.err e,k)=>(NN,k,e)|(.ok p,_)=>if Src.ct p=T then(p,0,0)else(NN,0,2)
def NO(r:Src.Prog×Nat×Nat):AV:=.tup [cK r.1,ae (r.2.1:Nat),ae (r.2.2:Nat)]
def KK{e k}(h:Src.zZ src=(.err e,k)):e≠0:=by grind[Src.zZ]
def NP{k}(h:Src.zZ src=(.ok p,k)):Src.szP p<=20001:=by
 unfold Src.zZ at h;split at h;.cases h
 .split at h
  .rename_i a;split at h;.cases h
   .cases h;exact Src.VV a
  .cases h
def Ct(h:Src.szP p<=20001):szP p<=1000000000:=by
 have e:szP p=Src.szP p:=by unfold szP Src.szP Src.FR;show _+(p.f.map Src.szF).sum=_;omega
 omega
def Xm{o}(ho:mL o)(src:Str):cn Tryz.prog 4 o 16 [sv src] (·=NO (nO src)):=by refine hdG Tryz.func16 rfl [.cell 2 26,.tmp 3,.tmp 4] λO bc s0 w0 g=>?_;simp only[go_sem];refine vK aN (λs t ds w h=>h.1) rfl (by simp only[go_sem];exact Xl ho (c:=5) a8 abO ⟨_,_,_,by simp[upd];exact⟨rfl,rfl,rfl⟩⟩) ?_;rintro r u v⟨f1,gc,U⟩;have d:=(f1 2 a8 a8).1;have j:=(f1 2 a8 a8).2;simp[upd]at d j gc;unfold nO;cases l:Src.zZ src with
 |mk x k=>rw[l]at U;cases x with|err e=>
 obtain rfl:=U;have q:¬(e:Int)=0:=by have:=KK l;omega
 simp only[go_sem,d,j,q];exact⟨_,⟨_,⟨_,_,rfl,uT [.nsl,.nsl,.nsl],_,_,rfl,mn _,_,_,rfl,mn _,rfl⟩,rfl⟩,rfl⟩;|ok p=>
 obtain⟨rfl,b⟩:=U;unfold jK kG at b;have a:=Jc ho p (Ct (NP l));obtain⟨X,n⟩:∃X,Src.ct p=X:=⟨_,rfl⟩;rw[n]at a;simp only[go_sem,gc,b];refine dm rfl adu ?_;rintro _ rfl;cases X;.simp only[go_sem,d,j];refine⟨_,⟨_,⟨_,_,rfl,uT [.nsl,.nsl,.nsl],_,_,rfl,mn _,_,_,rfl,mn _,rfl⟩,rfl⟩,?_⟩;simp only[n];rfl
 .simp only[go_sem,d,j,gc,b];refine⟨_,⟨_,⟨_,_,rfl,uT (kG p),_,_,rfl,mn _,_,_,rfl,mn _,rfl⟩,rfl⟩,?_⟩;simp only[n];rfl
end
section
open Go Go.Am Go.Asm
open Go.Src (Th bb cQ bH bQ bG)
attribute[local congr]ite_cc
variable{g:Nat->Nat}{ob:Obs}{M:List C}{B:Nat}{l:List Th}{s:St}{R:AV->(Nat->Nat)->Obs->Prop}{j q:List AV}
def bS.nil(h:∀i,i<B->s.gen i=g i/\s.obj i=ob i)(a:fT B s j q)(V:R (pack q) g ob):bS B [] g ob R s j:=⟨⟨λi b _=>h i b,λ_ h=>by simp at h⟩,q,a,by rw[DE,DF];exact V⟩
def KL(xs:List D):BN B s (.agg (xs.map .d)) (.agg (xs.map .d)):=.agg b9 λi c a=>by rw[A4]at a;cases b:xs[i]?with|none=>grind;|some x=>rw[b]at a;cases a;exact⟨_,rfl,.d x⟩
def thD(t:Nat×Nat):List D:=[.int .i64 (t.1:Nat),.int .i64 (t.2:Nat)]
def kH(M:List C)(l:List Th):Prop:=∀s:Str,mget M (.str s)=(bb l s).map λt=>.d (.iptr (thD t))
def nP(M:List C):Prop:=∀c∈M,∃x,c=.d x
def nQ{k x}:∀{M},nP M->nP (mset M k (.d x))
 |.d E::c::r,h=>by
  simp only[mset];split
  .intro y a;rcases A0.1 a with rfl|a;.simp
   rcases A0.1 a with rfl|a;.simp
   .exact h y (by simp[a])
  .intro y a;rcases A0.1 a with rfl|a;.simp
   rcases A0.1 a with rfl|a;.exact h y b9
   .exact nQ (λX b=>h X (by simp[b])) y a;|[],h=>by simp[mset,nP];|[.d E],h=>by simp[mset,nP];|.osl _ _ _ _ _::_,h=>by obtain⟨x,I⟩:=h _ (I7 ..);cases I;|.ptr _ _ _::_,h=>by obtain⟨x,I⟩:=h _ (I7 ..);cases I;|.mp _ _ _::_,h=>by obtain⟨x,I⟩:=h _ (I7 ..);cases I;|.clo _ _::_,h=>by obtain⟨x,I⟩:=h _ (I7 ..);cases I;|.lsl _::_,h=>by obtain⟨x,I⟩:=h _ (I7 ..);cases I;|.raw _::_,h=>by obtain⟨x,I⟩:=h _ (I7 ..);cases I
def nP.low(h:nP M):∀c∈M,og B c:=λc a=>by obtain⟨x,rfl⟩:=h c a;trivial
def kH.put{a}{t}(h:kH M l)(c:bb l a=N):kH (mset M (.str a) (.d (.iptr (thD t)))) (l++[(a,t)]):=λs=>by
 rw[se,Src.oQ];simp only[nD,bb];by_cases b:a=s;.grind
 .simp only[b,K7,B4,B1];rw[h s];grind
def kH.old{a}{t x}(h:kH M l)(b:bb l a=S x):kH M (l++[(a,t)]):=λs=>by rw[h s,Src.oQ];cases c:bb l s with|some y=>rfl;|none=>grind[bb]
def Cu{ar}{g g'}(h:∀i∈ar,g' i=g i):kS ar g g'=g:=by funext i;unfold kS;grind
def NQ{a b}{ob Y}:iA [a,b] ob Y=upd (upd ob a (Y a)) b (Y b):=by funext i;simp only[iA,upd,A0,A9,D8];grind
def wh(x:Option (Nat×Nat)):AV:=match x with|some t=>.agg ((thD t).map .d)|none=>.agg [ag 0,ag (-1)]
def Xn{B io ii go gi}{u v}{lo li}(hB:∀i,B<=i->ob i=N)(m:io<B)(an:ii<B)(ho:ob io=S u)(hi:ob ii=S v)(mo:kH u lo)(mi:kH v li)(d:Str)(n:g io=go)(f:g ii=gi):dS Tryz.prog 141 [.agg [.mp io go 208,.mp ii gi 208],sv d] g ob (λr g' Y=>g'=g/\Y=ob/\r=wh (bG lo li d)) (λ_ _ _=>False):=by
 subst n f;refine hdM B [] Tryz.func141 rfl [.cell 4 250] b9 hB λO bc s0 w0=>?_;have n1:∀k,(io=B+k)=False:=λk=>by grind
 have n2:∀k,(ii=B+k)=False:=λk=>by grind
 have a:=mi d;have o:=mo d;unfold bG;cases e:bb li d with|some t=>rw[e]at a;simp only[A5,thD]at a;simp only[go_sem,n2,hi,C3,a];exact qo;|none=>rw[e]at a;simp only[G7]at a;cases b:bb lo d with|some t=>rw[b]at o;simp only[A5,thD]at o;simp only[go_sem,n1,n2,hi,D0,C3,a,ho,o];exact qo;|none=>rw[b]at o;simp only[G7]at o;simp only[go_sem,n1,n2,hi,D0,C3,a,ho,o];refine⟨_,ai.refl _,?_⟩;simp only[go_sem];exact bS.nil (λi hi=>⟨by grind[upd],by grind[upd]⟩) ⟨_,_,rfl,KL [.int .i64 0,.int .i64 (-1)],rfl⟩ ⟨rfl,rfl,rfl⟩
def bS.two{B a b}{f m}(h:∀i,i<B->i≠a->i≠b->s.gen i=g i/\s.obj i=ob i)(ga:s.gen a=g a)(X:s.gen b=g b)(o:s.obj a=S f)(d:s.obj b=S m)(l:∀c∈f,og B c)(r:∀c∈m,og B c)(p:fT B s j q)(V:R (pack q) g (upd (upd ob a (S f)) b (S m))):bS B [a,b] g ob R s j:=by
 refine⟨⟨λi hi n=>h i hi (λe=>n ac3) (λe=>n ac3),λi hi k t=>?_⟩,q,p,?_⟩;.grind
 .rw[Cu adE,NQ,o,d];exact V
def KM{x}:∀c∈[C.d x],og B c:=λc a=>by rw[C8.1 a];trivial
def ace(b h:Nat)(l:List Th)(a:Str)(t:Nat×Nat)(u:Bool)(g:Nat->Nat)(ob:Obs)(g':Nat->Nat)(Y:Obs):Prop:=g'=g/\∃o,kH o (l++[(a,t)])/\nP o/\Y=upd (upd ob b (S o)) h (S [bO (u&&(bb l a).isNone)])
def zg{B b j h}{u}(hB:∀i,B<=i->ob i=N)(U:b<B)(Z:j<B)(r:h<B)(X:b≠j)(c:b≠h)(e:j≠h)(hm:ob b=S M)(p:ob j=S [.mp b (g b) 208])(a:ob h=S [bO u])(mo:kH M l)(hd:nP M)(n:Str) t:dS Tryz.prog 207 [sv n,.agg ((thD t).map .d),mV (.ptr j (g j) 0),mV (.ptr h (g h) 0)] g ob (λ_ g' Y=>ace b h l n t u g ob g' Y) (λ_ _ _=>False):=by
 refine hdM B [b,h] Tryz.func207 rfl [] ZN hB λO bc s0 w0=>?_;have n1:∀k,(b=B+k)=False:=λk=>by grind
 have n2:∀k,(j=B+k)=False:=λk=>by grind
 have n3:∀k,(h=B+k)=False:=λk=>by grind
 have o:=mo n;unfold thD;cases hf:bb l n with|some x=>exact j9;|none=>rw[hf]at o;simp only[G7]at o;simp only[go_sem,n1,n2,mV,p,hm,D0,o];refine⟨_,ai.refl _,?_⟩;simp only[go_sem];refine bS.two (f:=mset M (.str n) (.d (.iptr (thD t)))) (m:=[bO u]) (λi hi ha hb=>⟨by grind[upd],by grind[upd]⟩) (by grind[upd]) (by grind[upd]) (by simp[upd,thD]) (by grind[upd]) (nQ hd).low KM rfl ⟨rfl,_,mo.put hf,nQ hd,by grind⟩
def Ew{B b j h}{u}(hB:∀i,B<=i->ob i=N)(U:b<B)(Z:j<B)(r:h<B)(X:b≠j)(c:b≠h)(e:j≠h)(hm:ob b=S M)(p:ob j=S [.mp b (g b) 208])(a:ob h=S [bO u])(mo:kH M l)(hd:nP M)(n:Str) k:dS Tryz.prog 208 [sv n,ae (k:Nat),mV (.ptr j (g j) 0),mV (.ptr h (g h) 0)] g ob (λ_ g' Y=>ace b h l n (1,k) u g ob g' Y) (λ_ _ _=>False):=by
 refine hdM B [b,h] Tryz.func208 rfl [] ZN hB λO bc s0 w0=>?_;have n1:∀k,(b=B+k)=False:=λk=>by grind
 have n2:∀k,(j=B+k)=False:=λk=>by grind
 have n3:∀k,(h=B+k)=False:=λk=>by grind
 have o:=mo n;cases hf:bb l n with|some x=>exact j9;|none=>rw[hf]at o;simp only[G7]at o;simp only[go_sem,n1,n2,mV,p,hm,D0,o];refine⟨_,ai.refl _,?_⟩;simp only[go_sem];refine bS.two (f:=mset M (.str n) (.d (.iptr (thD (1,k))))) (m:=[bO u]) (λi hi ha hb=>⟨by grind[upd],by grind[upd]⟩) (by grind[upd]) (by grind[upd]) (by simp[upd,thD]) (by grind[upd]) (nQ hd).low KM rfl ⟨rfl,_,mo.put hf,nQ hd,by grind⟩
end
open Go Go.Am Go.Asm
open Go.Src (Th bb cQ bH bQ bG thV thA thF thL)
attribute[local congr]ite_cc
def mr{H β:Type}{f:Nat->H->β}{l:List H}{k}{x}(h:l[k]?=S x):(l.take (k+1)).mapIdx f=(l.take k).mapIdx f++[f k x]:=by have a:=(l9.1 h).1;rw[C1,h,I8,List.mapIdx_concat,E5,UR a7]
structure GlI (B:Nat) (l:List Th) (g:Nat->Nat) (ob:Obs) (f:Nat) (p:List C) (K:St):Prop where
 f1:K.f 1=aj (B+1) (K.gen (B+1)) 0
 f4:K.f 4=aj (B+4) (K.gen (B+4)) 0
 f5:K.f 5=aj (B+5) (K.gen (B+5)) 0
 f6:K.f 6=.one (.clo f [.ptr (B+4) (K.gen (B+4)) 0,.ptr (B+5) (K.gen (B+5)) 0])o1:K.obj (B+1)=some p
 o5:K.obj (B+5)=some [bO (cQ [] l)]fr:∀i,i<B\/B+100<=i->K.gen i=g i/\K.obj i=ob i
def GlR(b B:Nat)(l:List Th)(g:Nat->Nat)(ob:Obs)(r:AV)(g':Nat->Nat)(Y:Obs):Prop:=r=.tup [.one (.mp b (g' b) 208),bv (cQ [] l)]/\(∃M,Y b=S M/\kH M l/\nP M)/\∀i,i<B\/B+100<=i->g' i=g i/\Y i=ob i
def mu{l}{t}:cQ [] (l++[t])=(cQ [] l&&(bb l t.1).isNone):=by rw[Src.vv];rfl
variable{g:Nat->Nat}
def KN{ob}{p}(bl:∀i,1100<=i->ob i=N)(az:szP p<=1000000000):dS Tryz.prog 137 [cK p] g ob (GlR 1013 1000 (bH p) g ob) (λ_ _ _=>False):=by
 refine hdX 1000 Tryz.func137 rfl [.tmp 2,.tmp 3] λO bc s0 w0=>?_;obtain⟨vs,u,fs⟩:=p;unfold szP at az;simp only at az;obtain⟨L,hL⟩:∃L,bH ⟨vs,u,fs⟩=L:=⟨_,rfl⟩;rw[hL];unfold bH at hL;unfold cK kG;simp only[go_sem,j6];refine aF (λm K=>∃k:Nat,m+k=z vs/\GlI 1000 (thV (vs.take k)) g ob 207 (jK ⟨vs,u,fs⟩) K/\K.obj 1004=S [.mp 1013 (K.gen 1013) 208]/\(∃M,K.obj 1013=S M/\kH M (thV (vs.take k))/\nP M)/\K.f 16=.one (aw (vs.map λs=>[.str s]))/\K.f 17=ae (z vs)/\K.f 18=ae k) (z vs) ?_ ?_;.exact w5
 rintro m f n J⟨k,hk,⟨l,q4,q5,d,o1,o5,fr⟩,o4,⟨M,oM,W,q⟩,E,e,a⟩;simp only[Nat.reduceAdd]at l q4 q5 d o1 o5 fr o4 oM E e a;have y:=ah (k:=k) a7;by_cases G:k<z vs
 .have Q:(k:Int)<(z vs:Int):=a7;have bk:(0:Int)<=(k:Int):=a7;obtain⟨v,he⟩:=getq G;simp only[go_sem,d,E,e,a,Q,bk,he];refine bB aa rfl c8 (by simp only[go_sem];exact zg (B:=1100) (b:=1013) (j:=1004) (h:=1005) adE a8 a8 a8 a8 a8 a8 oM o4 o5 W q v (2,k)) ?_ ?_;.simp
  rintro _ g' Y⟨rfl,o,r,t,rfl⟩;simp only[go_sem,a,y];have H:thV (vs.take (k+1))=thV (vs.take k)++[(v,2,k)]:=mr he;refine ak (m-1) a7 ⟨k+1,a7,⟨?_,?_,?_,?_,?_,?_,?_⟩,?_⟩<;>(simp only[go_sem,l,q4,q5,d,o1,o4,E,e]);.rw[H,mu]
  .grind
  grind
 have Q:¬(k:Int)<(z vs:Int):=a7;obtain rfl:k=z vs:=a7;unfold jK kG at o1;simp only[s7,x7]at o1;simp only[go_sem,l,o1,e,a,Q,j6];refine aF (λm K=>∃k:Nat,m+k=z u/\GlI 1000 (thV vs++thA (u.take k)) g ob 207 (jK ⟨vs,u,fs⟩) K/\K.obj 1004=S [.mp 1013 (K.gen 1013) 208]/\(∃M,K.obj 1013=S M/\kH M (thV vs++thA (u.take k))/\nP M)/\K.f 30=.one (aw (u.map arD))/\K.f 31=ae (z u)/\K.f 32=ae k) (z u) ?_ ?_
 .rw[s6 (l7 _)]at o5 W;have w:thV vs++thA []=thV vs:=by simp[thA]
  refine⟨0,rfl,⟨?_,?_,?_,?_,?_,?_,?_⟩,?_⟩<;>(simp only[go_sem,l,q4,q5,d,o1,o4,o5,w]);.rfl
  .exact fr
  grind
 clear l q4 q5 d o1 o5 fr o4 oM E e a W q y G Q hk M;rintro m f n J⟨k,hk,⟨l,q4,q5,d,o1,o5,fr⟩,o4,⟨M,oM,W,q⟩,E,e,a⟩;simp only[Nat.reduceAdd]at l q4 q5 d o1 o5 fr o4 oM E e a;have y:=ah (k:=k) a7;by_cases G:k<z u
 .have Q:(k:Int)<(z u:Int):=a7;have bk:(0:Int)<=(k:Int):=a7;obtain⟨⟨v,X⟩,he⟩:=getq G;simp only[go_sem,d,E,e,a,Q,bk,he,arD];refine bB aa rfl c8 (by simp only[go_sem];exact zg (B:=1100) (b:=1013) (j:=1004) (h:=1005) Z6 abP abP abP abP abP abP (by grind[upd]) (by grind[upd]) (by simp[upd];exact o5) W q v (3,k)) ?_ ?_;.simp
  rintro _ g' Y⟨rfl,o,r,t,rfl⟩;simp only[go_sem,a,y];have H:thV vs++thA (u.take (k+1))=(thV vs++thA (u.take k))++[(v,3,k)]:=by rw[s9];congr 1;exact mr he
  refine ak (m-1) a7 ⟨k+1,a7,⟨?_,?_,?_,?_,?_,?_,?_⟩,?_⟩<;>(simp only[go_sem,l,q4,q5,d,o1,o4,E,e]);.rw[H,mu]
  .grind
  grind
 have Q:¬(k:Int)<(z u:Int):=a7;obtain rfl:k=z u:=a7;unfold jK kG at o1;simp only[s7,x7]at o1;simp only[go_sem,l,o1,e,a,Q,j6];refine aF (λm K=>∃k:Nat,m+k=z fs/\GlI 1000 (thV vs++thA u++thF (fs.take k)) g ob 207 (jK ⟨vs,u,fs⟩) K/\K.obj 1004=S [.mp 1013 (K.gen 1013) 208]/\(∃M,K.obj 1013=S M/\kH M (thV vs++thA u++thF (fs.take k))/\nP M)/\K.f 45=.one (aw (fs.map fnD))/\K.f 46=ae (z fs)/\K.f 47=ae k) (z fs) ?_ ?_
 .rw[s6 (l7 _)]at o5 W;have w:thV vs++thA u++thF []=thV vs++thA u:=by simp[thF]
  refine⟨0,rfl,⟨?_,?_,?_,?_,?_,?_,?_⟩,?_⟩<;>(simp only[go_sem,l,q4,q5,d,o1,o4,o5,w]);.rfl
  .exact fr
  grind
 clear l q4 q5 d o1 o5 fr o4 oM E e a W q y G Q hk M;rintro m f n J⟨k,hk,⟨l,q4,q5,d,o1,o5,fr⟩,o4,⟨M,oM,W,q⟩,E,e,a⟩;simp only[Nat.reduceAdd]at l q4 q5 d o1 o5 fr o4 oM E e a;by_cases G:k<z fs
 .have Q:(k:Int)<(z fs:Int):=a7;have bk:(0:Int)<=(k:Int):=a7;obtain⟨x,he⟩:=getq G;simp only[go_sem,d,E,e,a,Q,bk,he,fnD];refine bB aa rfl c8 (by simp only[go_sem];exact zg (B:=1100) (b:=1013) (j:=1004) (h:=1005) Z6 abP abP abP abP abP abP (by grind[upd]) (by grind[upd]) (by simp[upd];exact o5) W q x.name (4,k)) ?_ ?_;.simp
  rintro _ g' Y⟨rfl,o,r,t,rfl⟩;simp only[go_sem,a,ah (k:=k) a7];have H:thV vs++thA u++thF (fs.take (k+1))=(thV vs++thA u++thF (fs.take k))++[(x.name,4,k)]:=by rw[s9 (thV vs++thA u)];congr 1;exact mr he
  refine ak (m-1) a7 ⟨k+1,a7,⟨?_,?_,?_,?_,?_,?_,?_⟩,?_⟩<;>(simp only[go_sem,l,q4,q5,d,o1,o4,E,e]);.rw[H,mu]
  .grind
  grind
 have Q:¬(k:Int)<(z fs:Int):=a7;obtain rfl:k=z fs:=a7;exact ti
def NR{ob}{x}(bl:∀i,2100<=i->ob i=N)(az:z x.p+z x.l<=1000000000):dS Tryz.prog 138 [fnV x] g ob (GlR 2011 2000 (bQ x) g ob) (λ_ _ _=>False):=by
 refine hdX 2000 Tryz.func138 rfl [.tmp 2,.tmp 3] λO bc s0 w0=>?_;obtain⟨nm,y,V,wd,body⟩:=x;simp only at az;obtain⟨L,hL⟩:∃L,bQ ⟨nm,y,V,wd,body⟩=L:=⟨_,rfl⟩;rw[hL];unfold bQ at hL;unfold fnV fnD;simp only[go_sem,j6];refine aF (λm K=>∃k:Nat,m+k=z y/\GlI 2000 (thL 0 (y.take k)) g ob 208 ((fnD ⟨nm,y,V,wd,body⟩).map .d) K/\K.obj 2004=S [.mp 2011 (K.gen 2011) 208]/\(∃M,K.obj 2011=S M/\kH M (thL 0 (y.take k))/\nP M)/\K.f 14=.one (aw (y.map λs=>[.str s]))/\K.f 15=ae (z y)/\K.f 16=ae k) (z y) ?_ ?_;.exact w5
 rintro m f J av⟨k,hk,⟨G,q4,q5,H,o1,o5,fr⟩,o4,⟨M,oM,W,q⟩,E,e,a⟩;simp only[Nat.reduceAdd]at G q4 q5 H o1 o5 fr o4 oM E e a;have hw:=ah (k:=k) a7;by_cases af:k<z y
 .have Q:(k:Int)<(z y:Int):=a7;have bk:(0:Int)<=(k:Int):=a7;obtain⟨v,he⟩:=getq af;simp only[go_sem,H,E,e,a,Q,bk,he];refine bB aa rfl c8 (by simp only[go_sem];exact Ew (B:=2100) (b:=2011) (j:=2004) (h:=2005) adE a8 a8 a8 a8 a8 a8 oM o4 o5 W q v k) ?_ ?_;.simp
  rintro _ g' Y⟨rfl,o,r,t,rfl⟩;simp only[go_sem,a,hw];have hT:thL 0 (y.take (k+1))=thL 0 (y.take k)++[(v,1,k)]:=by have:=mr (f:=λi n=>((n,1,0+i):Th)) he;simpa[thL]using this
  refine ak (m-1) a7 ⟨k+1,a7,⟨?_,?_,?_,?_,?_,?_,?_⟩,?_⟩<;>(simp only[go_sem,G,q4,q5,H,o1,o4,E,e]);.rw[hT,mu]
  .grind
  grind
 have Q:¬(k:Int)<(z y:Int):=a7;obtain rfl:k=z y:=a7;unfold fnD at o1;simp only[s7,x7]at o1;simp only[go_sem,G,o1,e,a,Q,j6];refine aF (λm K=>∃k:Nat,m+k=z V/\GlI 2000 (thL 0 y++thL (z y) (V.take k)) g ob 208 ((fnD ⟨nm,y,V,wd,body⟩).map .d) K/\K.obj 2004=S [.mp 2011 (K.gen 2011) 208]/\(∃M,K.obj 2011=S M/\kH M (thL 0 y++thL (z y) (V.take k))/\nP M)/\K.f 27=.one (aw (V.map λs=>[.str s]))/\K.f 28=ae (z V)/\K.f 29=ae k) (z V) ?_ ?_
 .rw[s6 (l7 _)]at o5 W;have w:thL 0 y++thL (z y) []=thL 0 y:=by simp[thL]
  refine⟨0,rfl,⟨?_,?_,?_,?_,?_,?_,?_⟩,?_⟩<;>(simp only[go_sem,G,q4,q5,H,o1,o4,o5,w]);.rfl
  .exact fr
  grind
 clear G q4 q5 H o1 o5 fr o4 oM E e a W q hw af Q hk M;rintro m f J av⟨k,hk,⟨G,q4,q5,H,o1,o5,fr⟩,o4,⟨M,oM,W,q⟩,E,e,a⟩;simp only[Nat.reduceAdd]at G q4 q5 H o1 o5 fr o4 oM E e a;by_cases af:k<z V
 .have Q:(k:Int)<(z V:Int):=a7;have bk:(0:Int)<=(k:Int):=a7;have Z:IntKind.i64.wrap ((z y:Int)+(k:Int))=((z y+k:Nat):Int):=by rw[wrap_i64]<;>omega
  obtain⟨v,he⟩:=getq af;unfold fnD at o1;simp only[s7,x7]at o1;simp only[go_sem,G,o1,H,E,e,a,Q,bk,he,j6,Z];refine bB aa rfl c8 (by simp only[go_sem];exact Ew (B:=2100) (b:=2011) (j:=2004) (h:=2005) adE a8 a8 a8 a8 a8 a8 oM o4 o5 W q v (z y+k)) ?_ ?_;.simp
  rintro _ g' Y⟨rfl,o,r,t,rfl⟩;simp only[go_sem,a,ah (k:=k) a7];have hT:thL 0 y++thL (z y) (V.take (k+1))=(thL 0 y++thL (z y) (V.take k))++[(v,1,z y+k)]:=by rw[s9];congr 1;exact mr he
  refine ak (m-1) a7 ⟨k+1,a7,⟨?_,?_,?_,?_,?_,?_,?_⟩,?_⟩<;>(simp only[go_sem,G,q4,q5,H,o1,o4,E,e]);.rfl
  .rw[hT,mu]
  .grind
  grind
 have Q:¬(k:Int)<(z V:Int):=a7;obtain rfl:k=z V:=a7;exact ti
end Go.Proofs.YtfdbpgoicedpcaaGreatDoor


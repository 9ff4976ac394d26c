/- A part of the proof; no conditions. -/
import Derived.Test.YtlacbjnmkhndiaaGreatDoorPart26
set_option linter.unusedSimpArgs false
set_option linter.unusedVariables false
set_option linter.defProp false
open List renaming length -> z
open Option renaming some -> S, none -> N
open Bool renaming true -> T, false -> F
set_option maxHeartbeats 64000000
set_option maxRecDepth 100000
namespace Go.Proofs.YtlacbjnmkhndiaaGreatDoor
section
attribute [local congr] Go.Am.ite_cc
open Go Go.Am Go.Asm Go.Mach
def BG(w:Nat)(o:w<4294967296):ax Tryz.prog 152 [iv .u32 w] (·=CX w):=by
 refine hdR Tryz.func152 rfl [.cell 2 120,.tmp 3] λg=>?_;have d:((w:Nat):Int).tdiv 16777216=((w/16777216:Nat):Int):=rfl;have e:((w:Nat):Int).tdiv 1048576=((w/1048576:Nat):Int):=rfl;have i:((w:Nat):Int).tdiv 65536=((w/65536:Nat):Int):=rfl;have j:∀x:Nat,((x:Nat):Int).tmod 16=((x%16:Nat):Int):=λ_=>rfl;have l:((w:Nat):Int).tmod 65536=((w%65536:Nat):Int):=rfl;have a:∀x:Nat,x<4294967296->IntKind.i64.wrap ((x:Nat):Int)=((x:Nat):Int):=λx I=>by rw[wrap_i64]<;>omega
 have b:=dK (n:=w/16777216) a7;have c:=dK (n:=w/1048576) a7;have u3:=dK (n:=w/65536) a7;have u4:=dK (n:=w/1048576%16) a7;have u5:=dK (n:=w/65536%16) a7;have W:=dK (n:=w%65536) a7;simp only[go_sem,d,e,i,j,l,b,c,u3,u4,u5,W,a (w/16777216) a7,a (w/1048576%16) a7,a (w/65536%16) a7,a (w%65536) a7,fe];refine bJ rfl (by simp only[go_sem];exact Ge (w/16777216:Nat) (w/1048576%16:Nat) (w/65536%16:Nat) (w%65536:Nat)) ?_;rintro _ rfl;unfold CX;cases p:eI (w/16777216:Nat) (w/1048576%16:Nat) (w/65536%16:Nat) (w%65536:Nat)
 .simp only[go_sem,fe]
  exact⟨_,zI,rfl⟩
 .simp only[go_sem,fe]
  exact⟨_,zI,rfl⟩
def LG(s:Str)(k:Nat)(h:k+4<=z s)(A:z s<=1000000000):ax Tryz.prog 34 [sv s,iv .i64 k] (·=iv .u32 (fq s k:Nat)):=by
 refine hdP Tryz.func34 rfl [4] λg=>?_;have n:=lh (s:=s) (k:=k) a7;have hb:=lh (s:=s) (k:=k+1) a7;have Z:=lh (s:=s) (k:=k+2) a7;have hd:=lh (s:=s) (k:=k+3) a7;unfold fq;generalize s.getD k 0=a at n|-;generalize s.getD (k+1) 0=b at hb|-;generalize s.getD (k+2) 0=c at Z|-;generalize s.getD (k+3) 0=d at hd|-;have l:=a.toNat_lt;have W:=b.toNat_lt;have j:=c.toNat_lt;have m:=d.toNat_lt;have e:IntKind.i64.wrap ((k:Int)+1)=((k+1:Nat):Int):=by rw[wrap_i64]<;>omega
 have f:IntKind.i64.wrap ((k:Int)+2)=((k+2:Nat):Int):=by rw[wrap_i64]<;>omega
 have i:IntKind.i64.wrap ((k:Int)+3)=((k+3:Nat):Int):=by rw[wrap_i64]<;>omega
 have o:(0:Int)<=(k:Int):=a7;have p:(0:Int)<=((k+1:Nat):Int):=a7;have q:(0:Int)<=((k+2:Nat):Int):=a7;have r:(0:Int)<=((k+3:Nat):Int):=a7;have t:IntKind.u32.wrap (256*((b.toNat:Nat):Int))=((256*b.toNat:Nat):Int):=by rw[IntKind.wrap_u32];omega
 have u:IntKind.u32.wrap (65536*((c.toNat:Nat):Int))=((65536*c.toNat:Nat):Int):=by rw[IntKind.wrap_u32];omega
 have v:IntKind.u32.wrap (16777216*((d.toNat:Nat):Int))=((16777216*d.toNat:Nat):Int):=by rw[IntKind.wrap_u32];omega
 have w:IntKind.u32.wrap (((a.toNat:Nat):Int)+((256*b.toNat:Nat):Int))=((a.toNat+256*b.toNat:Nat):Int):=by rw[IntKind.wrap_u32];omega
 have x:IntKind.u32.wrap (((a.toNat+256*b.toNat:Nat):Int)+((65536*c.toNat:Nat):Int))=((a.toNat+256*b.toNat+65536*c.toNat:Nat):Int):=by rw[IntKind.wrap_u32];omega
 have y:IntKind.u32.wrap (((a.toNat+256*b.toNat+65536*c.toNat:Nat):Int)+((16777216*d.toNat:Nat):Int))=((a.toNat+256*b.toNat+65536*c.toNat+16777216*d.toNat:Nat):Int):=by rw[IntKind.wrap_u32];omega
 simp only[go_sem];refine jn c8 ?_;simp only[go_sem,e,f,i,o,p,q,r,B3,n,hb,Z,hd,dK (show a.toNat<4294967296 by omega),dK (show b.toNat<4294967296 by omega),dK (show c.toNat<4294967296 by omega),dK (show d.toNat<4294967296 by omega),t,u,v,w,x,y];rfl
def LH{x:UInt8}{n:Nat}(h:¬x=UInt8.ofNat n)(a:n<256):¬((x.toNat:Nat):Int)=(n:Nat):=λe=>h (P9.1 (by rw[Mt];omega))
def BH(s:Str)(hs:z s<=1000000000):ax Tryz.prog 12 [sv s] (·=Bx (ki s)):=by
 refine hdR Tryz.func12 rfl [.cell 2 31,.tmp 3] λg=>?_;have m:ki s=N->Bx (ki s)=.tup [eZ ([],0),iv .i64 7]:=λh=>by rw[h];rfl
 by_cases U:z s<12
 .have hi:(z s:Int)<12:=a7
  rw[m (by unfold ki;rw[l8 (.inl U)])];simp only[go_sem,hi,fe];exact⟨_,jL,rfl⟩
 have hi:¬(z s:Int)<12:=a7;obtain⟨x0,g0⟩:=getq (l:=s) (k:=0) a7;obtain⟨x1,g1⟩:=getq (l:=s) (k:=1) a7;obtain⟨Z,g2⟩:=getq (l:=s) (k:=2) a7;obtain⟨x3,g3⟩:=getq (l:=s) (k:=3) a7;have ht:=TV g0 g1 g2 g3
 have b:¬(x0=83/\x1=69/\Z=69/\x3=68)->ki s=N:=λh=>by
  unfold ki;rw[l8 (.inr (.inl (by rw[ht];intro e;simp only[P7,L8]at e;exact h e)))]
 by_cases c0:x0=83
 case neg=>
  rw[m (b (by simp[c0]))];have c0:¬((x0.toNat:Nat):Int)=83:=LH (n:=83) c0 b9;simp only[go_sem,hi,g0,g1,g2,g3,c0,fe];exact⟨_,jL,rfl⟩
 by_cases V:x1=69
 case neg=>
  rw[m (b (by simp[V]))];have c0:((x0.toNat:Nat):Int)=83:=by rw[c0];rfl
  have V:¬((x1.toNat:Nat):Int)=69:=LH (n:=69) V b9;simp only[go_sem,hi,g0,g1,g2,g3,c0,V,fe];exact⟨_,jL,rfl⟩
 by_cases W:Z=69
 case neg=>
  rw[m (b (by simp[W]))];have c0:((x0.toNat:Nat):Int)=83:=by rw[c0];rfl
  have V:((x1.toNat:Nat):Int)=69:=by rw[V];rfl
  have W:¬((Z.toNat:Nat):Int)=69:=LH (n:=69) W b9;simp only[go_sem,hi,g0,g1,g2,g3,c0,V,W,fe];exact⟨_,jL,rfl⟩
 by_cases c3:x3=68
 case neg=>
  rw[m (b (by simp[c3]))];have c0:((x0.toNat:Nat):Int)=83:=by rw[c0];rfl
  have V:((x1.toNat:Nat):Int)=69:=by rw[V];rfl
  have W:((Z.toNat:Nat):Int)=69:=by rw[W];rfl
  have c3:¬((x3.toNat:Nat):Int)=68:=LH (n:=68) c3 b9;simp only[go_sem,hi,g0,g1,g2,g3,c0,V,W,c3,fe];exact⟨_,jL,rfl⟩
 have p:s.take 4=[83,69,69,68]:=by rw[ht,c0,V,W,c3]
 have c0:((x0.toNat:Nat):Int)=83:=by rw[c0];rfl
 have V:((x1.toNat:Nat):Int)=69:=by rw[V];rfl
 have W:((Z.toNat:Nat):Int)=69:=by rw[W];rfl
 have c3:((x3.toNat:Nat):Int)=68:=by rw[c3];rfl
 have hI:=Ae (s:=s) a7 p;have hW:=LG s;have b4:∀k,k+4<=z s-12->True:=λ_ _=>trivial;have I:∀k,12+4*k+4<=z s->(fU (s.drop 12))[k]?=S (fq s (12+4*k)):=λk hk=>rZ hk;have x:z (fU (s.drop 12))=(z s-12)/4:=by rw[qa,F7]
 have hn:=rY s 4;have hd:=rY s 8;have t:=hW 4 a7 hs;have O:=hW 8 a7 hs;rw[hI];rw[hI]at m;clear hI b ht p;generalize fq s 4=n at *;generalize fq s 8=d at *;generalize fU (s.drop 12)=xs at *;simp only[go_sem,hi,g0,g1,g2,g3,c0,V,W,c3];refine bJ rfl (by simp only[go_sem];exact t) ?_;rintro _ rfl;simp only[go_sem];refine bJ rfl (by simp only[go_sem];exact O) ?_;rintro _ rfl;have k1:IntKind.i64.wrap ((n:Nat):Int)=((n:Nat):Int):=by rw[wrap_i64]<;>omega
 have k2:IntKind.i64.wrap (4*(n:Int))=((4*n:Nat):Int):=by rw[wrap_i64]<;>omega
 have k3:IntKind.i64.wrap (12+((4*n:Nat):Int))=((12+4*n:Nat):Int):=by rw[wrap_i64]<;>omega
 have k4:IntKind.i64.wrap ((d:Nat):Int)=((d:Nat):Int):=by rw[wrap_i64]<;>omega
 by_cases b1:16384<n
 .rw[l8 (.inl b1)]
  have b1:(16384:Int)<(n:Int):=a7;simp only[go_sem,b1,fe];exact⟨_,jL,rfl⟩
 have y:¬(16384:Int)<(n:Int):=a7;by_cases b2:32768<d
 .rw[l8 (.inr (.inl b2))]
  have b2:(32768:Int)<(d:Int):=a7;simp only[go_sem,y,b2,fe];exact⟨_,jL,rfl⟩
 have A:¬(32768:Int)<(d:Int):=a7;by_cases b3:z s=12+4*n
 case neg=>
  rw[l8 (.inr (.inr b3))];have b3:¬(z s:Int)=((12+4*n:Nat):Int):=a7;simp only[go_sem,y,A,k1,k2,k3,b3,fe];exact⟨_,jL,rfl⟩
 have Q:(z s:Int)=((12+4*n:Nat):Int):=a7;rw[j8 a7];have L:z xs=n:=a7;simp only[go_sem,y,A,k1,k2,k3,Q,k4,fe]
 refine eF (λal K=>∃(k:Nat)(u:C),al+k=n/\K.f 0=sv s/\K.f 4=iv .u32 n/\K.f 7=iv .i64 (k:Nat)/\K.f 2=.one (.ptr 2 (nxC 32 (g 2)) 0)/\K.gen 2=nxC 32 (g 2)/\K.obj 2=S [.d .nsl,.d (.int .i64 0)]/\K.f 6=.one (.ptr 6 (K.gen 6) 0)/\K.obj 6=S [u,.d (.int .i64 d)]/\
  ((k=0/\u=.d .nsl)\/(0<k/\u=.osl 69 (K.gen 69) 1 0 k/\K.obj 69=S (ji (xs.take k))))) n ?_ ?_
 .refine⟨0,.d .nsl,rfl,?_⟩
  simp only[go_sem];exact .inl trivial
 rintro al f g' ob ⟨k,u,hk,q0,q4,q7,q2,q,r,q6,i,H⟩;simp only at q0 q4 q7 q2 q r q6 i H;have hw:=ac (k:=k) a7;by_cases af:k<n
 .have G:(k:Int)<(n:Int):=a7
  have k5:IntKind.i64.wrap (4*(k:Int))=((4*k:Nat):Int):=by rw[wrap_i64]<;>omega
  have P:IntKind.i64.wrap (12+((4*k:Nat):Int))=((12+4*k:Nat):Int):=by rw[wrap_i64]<;>omega
  have E:=hW (12+4*k) a7 hs;have B:=I k a7;have c:=rY s (12+4*k);generalize fq s (12+4*k)=w at E B c;have av:xs.take (k+1)=xs.take k++[w]:=by rw[D0,B];rfl
  have Y:z (xs.take k)=k:=by rw[D1];omega
  simp only[go_sem,q0,q4,q7,k1,G];refine fL aA mixed [68,69,6] [([6],[0],[],F),([61],[0],[],F),([0],[],[],F),([7],[],[],F),([64],[],[],F),([65],[],[],F),([63,66],[],[],F),([67],[],[0],F),([62,68],[],[1],F),([6],[],[],F),([70,69],[],[],T)] 3 c8 rfl b9 ?_;simp only[go_sem]
  iterate 6 (apply aI;· (intro fa ga oa X J;simp only[go_sem,q0,q7,q6,i,k5,P]at J|-;exact J))
  refine aI (v:=iv .u32 (w:Nat)) (λfa ga oa X J=>?_) ?_
  .simp only[go_sem]at J|-
   refine fD (k:=bx X) rfl (by simp only[go_sem];exact E) VG ?_;exact SF
  (apply cJ;· (intro fa ga oa X J;simp only[go_sem,aW]at J|-;exact J))
  rcases H with⟨bf,rfl⟩|⟨bf,rfl,o⟩
  ·(apply cJ;· (intro fa ga oa X J;simp only[go_sem,aW]at J|-;exact⟨⟨b9,b9⟩,J⟩))
   (apply aI;· (intro fa ga oa X J;simp only[go_sem,q6,i]at J|-;exact J))
   apply cL;intro X a';simp only[go_sem,q6,i];refine a' _ ?_;clear a' X;simp only[go_sem,q7,hw];refine cH (al-1) a7 ⟨k+1,.osl 69 (nxC 40 (g' 69)) 1 0 1,a7,?_⟩;simp only[go_sem,q0,q4,q2,q,r,q6];subst bf;refine .inr ⟨a7,rfl,?_⟩;rw[av];rfl
  .have b0:z (ji (xs.take k))=k:=by unfold ji;rw[j6,Y]
   (apply cJ;· (intro fa ga oa X J;simp only[go_sem,o,aW]at J|-;exact⟨a7,⟨b9,a7⟩,J⟩))
   (apply aI;· (intro fa ga oa X J;simp only[go_sem,q6,i]at J|-;exact J))
   apply cL;intro X a';simp only[go_sem,q6,i];refine a' _ ?_;clear a' X;simp only[go_sem,q7,hw];refine cH (al-1) a7 ⟨k+1,.osl 69 (nxC (apC 39 (g' 69) 0) (g' 69)) 1 0 (k+1),a7,?_⟩;simp only[go_sem,q0,q4,q2,q,r,q6];refine .inr ⟨a7,?_⟩;rw[av,s6 a7];unfold ji;simp
 .have G:¬(k:Int)<(n:Int):=a7
  obtain rfl:k=n:=a7;rw[s6 a7]at H;simp only[go_sem,q0,q4,q7,k1,G,q6,i,q2,q,r];refine⟨_,Ic (code:=xs) (d:=d) (n:=0) ?_,rfl⟩;rcases H with⟨bf,rfl⟩|⟨bf,rfl,o⟩
  .obtain rfl:xs=[]:=y7 a7
   exact .d .nsl
  .exact qh (cells:=ji xs) (off:=0) rfl (by simp[upd,o]) xs (λn=>.int .u32 (n:Nat)) (λ_=>rfl) L (λj a h=>by rw[C7];unfold ji;rw[x8,h];rfl) (by unfold ji;rw[j6];omega)
def Im(code:List Nat)(d:Nat)(hd:d<=32768):ax Tryz.prog 36 [eZ (code,d)] (·=stV (Mach.start d)):=by
 refine hdR Tryz.func36 rfl [.cell 2 91] λg=>?_;have k:(d:Int)<=32768:=a7;unfold eZ;by_cases a:d=0
 .subst a
  simp only[go_sem];exact⟨_,oV (m:=Mach.start 0) (.d .nsl) rfl,rfl⟩
 .have h:(0:Int)<(d:Int):=a7
  simp only[go_sem,h,k];refine⟨l7 _,a7,a7,_,oV (m:=Mach.start d) ?_ rfl,rfl⟩;exact uq (code:=List.replicate d 0) VF VF a8
def BI:Option Nat->AV
 |some x=>.tup [iv .u32 (x:Nat),bv T]
 |none=>.tup [iv .u32 0,bv F]
def Da(l:List Nat)(b c:Nat)(hl:z l<=1000000)(Z:c<65536):ax Tryz.prog 154 [.one (.d (kM l)),iv .u32 b,iv .i64 c] (·=BI (l[(b+c)%4294967296]?)):=by
 refine hdP Tryz.func154 rfl [6,7] λg=>?_;have i:=dK (n:=c) a7;have e:=CW b c;have o:(b+c)%4294967296<4294967296:=O0 _ b9;generalize (b+c)%4294967296=a at e o|-;have j:=w64 (n:=a) a7;have k:=w64 (n:=z l) a7;have p:(0:Int)<=(a:Int):=a7;unfold kM;by_cases h:a<z l
 .obtain⟨x,I⟩:=getq h
  have hn:¬(z l:Int)<=(a:Int):=a7;have q:(l.map λx=>[D.int .u32 (x:Nat)])[a]?=S [.int .u32 (x:Nat)]:=by rw[x8,I];rfl
  rw[I];simp only[go_sem,i,e,j,k,hn,p,q,j6,BI]
 .have r:(z l:Int)<=(a:Int):=a7
  rw[E5 a7];simp only[go_sem,i,e,j,k,r,j6,BI]
section
def okW(w:Nat):Bool:=okI (w/16777216) (w/1048576%16) (w/65536%16) (w%65536)
def nY(w:Nat):List D:=if okW w=T then [.int .i64 (w/16777216:Nat),.int .i64 (w/1048576%16:Nat),.int .i64 (w/65536%16:Nat),.int .i64 (w%65536:Nat)]else [.int .i64 0,.int .i64 0,.int .i64 0,.int .i64 0]
def zP(w:Nat):z (nY w)=4:=by unfold nY;split<;>rfl
def ED(w:Nat):∀x∈nY w,ge x=x:=λx I=>by
 unfold nY at I;split at I<;>simp only[A3,A9,E6]at I<;>rcases I with rfl|rfl|rfl|rfl<;>rfl
def fb(l:List Nat):List C:=l.flatMap λw=>(nY w).map .d
def vB(l:List Nat):List C:=l.map λw=>.d (.bool (okW w))
def EE(l:List Nat):vB l=l.flatMap λw=>([D.bool (okW w)]).map .d:=by
 unfold vB
 induction l with
 |nil=>rfl
 |cons a l b=>simpa using b
def iK:∀l:List Nat,z (fb l)=4*z l
 |[]=>rfl
 |w::l=>by
   have a:=iK l;unfold fb at a|-;rw[G2,j7,j6,zP,a];simp only[j9];omega
def BJ(l:List Nat)(w:Nat):fb (l++[w])=fb l++(nY w).map .d:=by unfold fb;rw[N3];simp
def EF(l:List Nat)(w:Nat):vB (l++[w])=vB l++[.d (.bool (okW w))]:=by unfold vB;simp
variable{pre rest:List C}
def Wy{p:Nat}(h:z pre=p)(e f Z g a b c d:C):((((pre++e::f::Z::g::rest).set p a).set (p+1) b).set (p+1+1) c).set (p+1+1+1) d=(pre++[a,b,c,d])++rest:=by
 subst h;rw[show z pre+1+1=z pre+2 from rfl,show z pre+2+1=z pre+3 from rfl];simp
def Wz{p:Nat}(h:z pre=p)(b a:C):(pre++b::rest).set p a=(pre++[a])++rest:=by
 subst h;simp
def Pv(w:Nat):AV:=.tup [.agg ((nY w).map .d),iv .i64 (if okW w=T then 0 else 7)]
def LI(w:Nat):CX w=Pv w:=by
 unfold CX Pv nY okW okI;split<;>rfl
def Pw(code:List Nat)(d:Nat)(hl:z code<=1000000)(H:∀w∈code,w<4294967296):ax Tryz.prog 91 [eZ (code,d)] (·=.tup [.one (.d (.sl (code.map nY))),.one (.d (.sl (code.map λw=>[.bool (okW w)])))]):=by
 refine hdR Tryz.func91 rfl [.tmp 2,.tmp 3] λg=>?_;have o:(0:Int)<=(z code:Int):=a7;unfold eZ eO;simp only[go_sem,j6,o];refine⟨l7 _,a7,a7,l7 _,a7,a7,?_⟩
 refine eF (λn K=>∃k:Nat,n+k=z code/\K.f 1=.one (.ptr 1 (nxC 32 (g 1)) 0)/\K.gen 1=nxC 32 (g 1)/\K.obj 1=S [.d (.sl (code.map λn=>[.int .u32 (n:Nat)])),.d (.int .i64 (d:Nat))]/\K.f 6=iv .i64 k/\
  K.f 4=.one (.osl 12 (K.gen 12) 4 0 (z code))/\K.obj 12=S (fb (code.take k)++(List.replicate n [C.d (.int .i64 0),.d (.int .i64 0),.d (.int .i64 0),.d (.int .i64 0)]).flatten)/\
  K.f 5=.one (.osl 16 (K.gen 16) 1 0 (z code))/\K.obj 16=S (vB (code.take k)++(List.replicate n [C.d (.bool F)]).flatten)) (z code) ?_ ?_
 .refine⟨0,rfl,?_⟩
  simp only[go_sem]
  try exact⟨rfl,rfl⟩
 rintro n f v y ⟨k,hk,q1,i,j,q6,q4,e,q5,h⟩;simp only at q1 i j q6 q4 e q5 h;have hw:=ac (k:=k) a7;cases n with
 |zero=>
   obtain rfl:k=z code:=a7;have u:¬(z code:Int)<(z code:Int):=a7;rw[s6 (l7 _)]at e h;simp only[L1,List.flatten_nil,s7]at e h;simp only[go_sem,q1,i,j,q6,q4,q5,u,j6];exact⟨_,⟨_,⟨_,_,rfl,xL (dN (cells:=fb code) rfl code nY (by simp[upd,e]) rfl (λa _=>ED a) (λa _=>zP a) rfl),_,_,rfl,xL (dN (cells:=vB code) rfl code (λw=>[.bool (okW w)]) (by simp[upd,h]) (EE code) (λa _ x I=>by simp only[E0]at I;subst I;rfl) (λ_ _=>rfl) rfl),rfl⟩,rfl⟩,rfl⟩
 |succ m=>
   have p:k<z code:=a7;have G:(k:Int)<(z code:Int):=a7;have bf:(0:Int)<=(k:Int):=a7;obtain⟨w,E⟩:=getq p;have q:(code.map λn=>[D.int .u32 (n:Nat)])[k]?=S [.int .u32 (w:Nat)]:=by rw[x8,E];rfl
   have hD:=BG w (H w (l6 E));rw[LI]at hD;have an:code.take (k+1)=code.take k++[w]:=by rw[D0,E];rfl
   have Y:z (code.take k)=k:=by rw[D1];omega
   have cf:z (fb (code.take k))=k*4:=by rw[iK,Y];omega
   have ad:z (vB (code.take k))=k:=by unfold vB;rw[j6,Y]
   have c':=λx a b c d=>Wy (rest:=(List.replicate m [C.d (.int .i64 0),.d (.int .i64 0),.d (.int .i64 0),.d (.int .i64 0)]).flatten) cf x x x x a b c d;have a1:=Wz (rest:=(List.replicate m [C.d (.bool F)]).flatten) ad (C.d (.bool F));rw[F6,E8]at e h;have b6:=BJ (code.take k) w;have t:=EF (code.take k) w;rw[<-an]at b6 t;generalize fb (code.take k)=A at e cf c' b6;generalize vB (code.take k)=B at h ad a1 t;unfold Pv nY at hD;unfold nY at b6;simp only[go_sem,q1,i,j,q6,G,bf,q,j6];cases l:okW w
   .rw[l,j8 a8]at hD
    rw[l,j8 a8]at b6;rw[l]at t;simp only[l9,w9,D7,A8]at hD b6;exact oL
   .rw[l,l8 rfl]at hD
    rw[l,l8 rfl]at b6;rw[l]at t;simp only[l9,w9,B1]at hD b6;exact oL
end
end
section
open Go Go.Am Go.Asm Go.Mach
section
structure WC (cs:List C) (code:List Nat) (inp:Str) (m:M) (b A u:C):Prop where
 len:cs.length=28
 c0:cs[0]?=some (.d (.int .i64 (m.pc:Nat)))
 rl:m.reg.length=16
 rg:∀a,a<16->cs[1+a]?=some (.d (.int .u32 (m.r a:Nat)))
 c17:cs[17]?=some (b)
 c18:cs[18]?=some (.d (.int .i64 (m.rd:Nat)))
 c19:cs[19]?=some (.d (.str []))
 c20:cs[20]?=some (.d (.int .i64 (m.steps:Nat)))
 c21:cs[21]?=some (.d (.int .i64 (m.fin:Nat)))
 c22:cs[22]?=some (A)
 c23:cs[23]?=some (.d (.sl (code.map nY)))
 c24:cs[24]?=some (.d (.sl (code.map λw=>[.bool (okW w)])))
 c25:cs[25]?=some (.d (eO code))
 c26:cs[26]?=some (.d (.str inp))
 c27:cs[27]?=some (u)
section
variable{cs:List C}{code:List Nat}{inp:Str}{m:M}{b A u:C}
def WC.setReg(h:WC cs code inp m b A u){a:Nat}(c:a<16)(x:Nat):WC (cs.set (1+a) (.d (.int .u32 (x:Nat)))) code inp {m with reg:=m.reg.set a x} b A u:=by
 have hl:=h.len;refine⟨by simp[h.len],by rw[au a7];exact h.c0,by simp[h.rl],λk e=>?_,by rw[au a7];exact h.c17,by rw[au a7];exact h.c18,by rw[au a7];exact h.c19,by rw[au a7];exact h.c20,by rw[au a7];exact h.c21,by rw[au a7];exact h.c22,by rw[au a7];exact h.c23,by rw[au a7];exact h.c24,by rw[au a7];exact h.c25,by rw[au a7];exact h.c26,by rw[au a7];exact h.c27⟩;rw[Cd h.rl c];by_cases f:k=a
 .subst f;rw[l8 rfl,jJ a7]
 .rw[j8 f,au a7];exact h.rg k e
def WC.setPc(h:WC cs code inp m b A u)(n:Nat):WC (cs.set 0 (.d (.int .i64 (n:Nat)))) code inp {m with pc:=n} b A u:=
 ⟨by simp[h.len],jJ Xb,h.rl,λk a=>by rw[au a7];exact h.rg k a,by rw[au a7];exact h.c17,by rw[au a7];exact h.c18,by rw[au a7];exact h.c19,by rw[au a7];exact h.c20,by rw[au a7];exact h.c21,by rw[au a7];exact h.c22,by rw[au a7];exact h.c23,by rw[au a7];exact h.c24,by rw[au a7];exact h.c25,by rw[au a7];exact h.c26,by rw[au a7];exact h.c27⟩
def WC.setRd(h:WC cs code inp m b A u)(n:Nat):WC (cs.set 18 (.d (.int .i64 (n:Nat)))) code inp {m with rd:=n} b A u:=
 ⟨by simp[h.len],by rw[au a7];exact h.c0,h.rl,λk a=>by rw[au a7];exact h.rg k a,by rw[au a7];exact h.c17,jJ Xb,by rw[au a7];exact h.c19,by rw[au a7];exact h.c20,by rw[au a7];exact h.c21,by rw[au a7];exact h.c22,by rw[au a7];exact h.c23,by rw[au a7];exact h.c24,by rw[au a7];exact h.c25,by rw[au a7];exact h.c26,by rw[au a7];exact h.c27⟩
def WC.setSteps(h:WC cs code inp m b A u)(n:Nat):WC (cs.set 20 (.d (.int .i64 (n:Nat)))) code inp {m with steps:=n} b A u:=
 ⟨by simp[h.len],by rw[au a7];exact h.c0,h.rl,λk a=>by rw[au a7];exact h.rg k a,by rw[au a7];exact h.c17,by rw[au a7];exact h.c18,by rw[au a7];exact h.c19,jJ Xb,by rw[au a7];exact h.c21,by rw[au a7];exact h.c22,by rw[au a7];exact h.c23,by rw[au a7];exact h.c24,by rw[au a7];exact h.c25,by rw[au a7];exact h.c26,by rw[au a7];exact h.c27⟩
def WC.setFin(h:WC cs code inp m b A u)(n:Nat):WC (cs.set 21 (.d (.int .i64 (n:Nat)))) code inp {m with fin:=n} b A u:=
 ⟨by simp[h.len],by rw[au a7];exact h.c0,h.rl,λk a=>by rw[au a7];exact h.rg k a,by rw[au a7];exact h.c17,by rw[au a7];exact h.c18,by rw[au a7];exact h.c19,by rw[au a7];exact h.c20,jJ Xb,by rw[au a7];exact h.c22,by rw[au a7];exact h.c23,by rw[au a7];exact h.c24,by rw[au a7];exact h.c25,by rw[au a7];exact h.c26,by rw[au a7];exact h.c27⟩
def WC.setOut(h:WC cs code inp m b A u)(c:C)(o:Str):WC (cs.set 22 (c)) code inp {m with out:=o} b c u:=
 ⟨by simp[h.len],by rw[au a7];exact h.c0,h.rl,λk a=>by rw[au a7];exact h.rg k a,by rw[au a7];exact h.c17,by rw[au a7];exact h.c18,by rw[au a7];exact h.c19,by rw[au a7];exact h.c20,by rw[au a7];exact h.c21,jJ Xb,by rw[au a7];exact h.c23,by rw[au a7];exact h.c24,by rw[au a7];exact h.c25,by rw[au a7];exact h.c26,by rw[au a7];exact h.c27⟩
end
def lQ(l:List Int):List C:=l.map λn=>.d (.int .i64 n)
structure Wn (gr:Nat) (code:List Nat) (inp:Str) (m:M) (g:Nat->Nat) (ob:Obs):Prop where
 gen:g 13=gr
 obj:∃cs mi A p,ob 13=some cs/\WC cs code inp m (.osl mi (g mi) 1 0 m.mem.length) A (.osl 47 (g 47) 1 0 code.length)/\(mi=24\/mi=27)/\ob mi=some (ji m.mem)/\ob 47=some (lQ p)/\p.length=code.length/\
  (A=.osl 38 (g 38) 1 0 m.out.length/\ob 38=some (mE m.out))
end
end
section
attribute [local congr] Go.Am.ite_cc
open Go Go.Am Go.Asm Go.Mach
section
def FrW(g:Nat->Nat)(ob:Obs)(g':Nat->Nat)(Y:Obs):Prop:=∀i,i<3000->i≠13->i≠24->i≠27->i≠47->i≠38->g' i=g i/\Y i=ob i
variable{gr:Nat}{code:List Nat}{inp:Str}{g g':Nat->Nat}{ob Y:Obs}{m:M}
def Wn.cells{m m':M}(h:Wn gr code inp m g ob){cf:List C}(hg:∀i,(i=13\/i=24\/i=27\/i=47\/i=38)->g' i=g i)(ho:∀i,(i=24\/i=27\/i=47\/i=38)->Y i=ob i)
 (Z:Y 13=S cf)(a:m'.mem=m.mem)(I:m'.out=m.out)(V:∀cs b A u,ob 13=S cs->WC cs code inp m b A u->WC cf code inp m' b A u):Wn gr code inp m' g' Y:=by
 obtain⟨U,cs,mi,A,p,c,d,e,f,j,k,l⟩:=h;have Q:g' mi=g mi/\Y mi=ob mi:=⟨hg mi a7,ho mi a7⟩
 refine⟨by rw[hg 13 b9];exact U,cf,mi,A,p,Z,?_,e,by rw[Q.2,a];exact f,by rw[ho 47 b9];exact j,k,by rw[hg 38 b9,ho 38 b9,I];exact l⟩;rw[Q.1,a,hg 47 b9];exact V cs _ _ _ c d
def Wn.same(h:Wn gr code inp m g ob)(hg:∀i,(i=13\/i=24\/i=27\/i=47\/i=38)->g' i=g i)(ho:∀i,(i=13\/i=24\/i=27\/i=47\/i=38)->Y i=ob i):Wn gr code inp m g' Y:=by
 obtain⟨b,_,_,_,a,_⟩:=id h.obj;exact h.cells (cf:=b) hg (λi d=>ho i a7) (by rw[ho 13 b9];exact a) rfl rfl λc _ _ _ e r=>by rw[a]at e;cases e;exact r
def Wn.done{m m':M}{cs cf:List C}(h:Wn gr code inp m g ob)(ho:ob 13=S cs)(a:∀i,(i<3000\/i=38)->g' i=g i)(q:∀i,(i≠13/\(i<3000\/i=38))->Y i=ob i)
 (Z:Y 13=S cf)(f:m'.mem=m.mem)(I:m'.out=m.out)(V:∀b A u,WC cs code inp m b A u->WC cf code inp m' b A u):FrW g ob g' Y/\Wn gr code inp m' g' Y:=
 ⟨λi d G _ _ _ _=>⟨a i (.inl d),q i ⟨G,.inl d⟩⟩,h.cells (λi d=>a i a7) (λi d=>q i a7) Z f I λc b A u e r=>by rw[ho]at e;cases e;exact V b A u r⟩
def Nn{g:Nat->Nat}{ob:Obs}(h:Wn gr code inp m g ob)(a x:Nat)(b:a<16)(o:m.pc<=4294967296000000):
  fX Tryz.prog 153 [.one (.ptr 13 gr 0),iv .i64 a,iv .u32 x] g ob (λ_ g' Y=>FrW g ob g' Y/\Wn gr code inp (m.set a x) g' Y):=by
 refine hdF 4000 Tryz.func153 rfl [] ?_;obtain⟨e,j,mi,A,p,ho,V,-⟩:=id h;have an:=ac (k:=m.pc) a7;have hl:=V.len;have X:(0:Int)<=(a:Int):=a7;have u:(j.set (1+a) (.d (.int .u32 (x:Nat))))[0]?=S (.d (.int .i64 (m.pc:Nat))):=by rw[au a7];exact V.c0
 simp only[go_sem,e,ho,X,u,an];refine⟨a7,a7,?_⟩;exact⟨by simp only[C2];omega,bt (.inr rfl) (h.done ho (λi l=>by (try simp only[upd]);repeat (rw[j8 (by omega)]);try rfl) (λi l=>by (try simp only[upd]);repeat (rw[j8 (by omega)]);try rfl) (by simp[upd]<;>rfl) rfl rfl λ_ _ _ V=>(V.setReg b x).setPc (m.pc+1))⟩
def Po{g:Nat->Nat}{ob:Obs}(h:Wn gr code inp m g ob)(b:Bool)(c:Nat)(o:m.pc<=4294967296000000):
  fX Tryz.prog 155 [.one (.ptr 13 gr 0),bv b,iv .i64 c] g ob (λ_ g' Y=>FrW g ob g' Y/\Wn gr code inp {m with pc:=if b=T then c else m.pc+1} g' Y):=by
 refine hdF 4000 Tryz.func155 rfl [] ?_;obtain⟨d,e,mi,A,p,ho,V,-⟩:=id h;have an:=ac (k:=m.pc) a7;have hl:=V.len;cases b
 .simp only[go_sem,d,ho,V.c0,an]
  exact⟨a7,bt (.inr rfl) (h.done ho (λi a=>by (try simp only[upd]);repeat (rw[j8 (by omega)]);try rfl) (λi a=>by (try simp only[upd]);repeat (rw[j8 (by omega)]);try rfl) (by simp[upd]<;>rfl) rfl rfl λ_ _ _ V=>V.setPc (m.pc+1))⟩
 .simp only[go_sem,d,ho]
  exact⟨a7,bt (.inr rfl) (h.done ho (λi a=>by (try simp only[upd]);repeat (rw[j8 (by omega)]);try rfl) (λi a=>by (try simp only[upd]);repeat (rw[j8 (by omega)]);try rfl) (by simp[upd]<;>rfl) rfl rfl λ_ _ _ V=>V.setPc c)⟩
end
def FrW.from{g g':Nat->Nat}{ob av Y:Obs}{P:Prop}(h:FrW g av g' Y/\P)(ar:∀i,i≠13->i≠47->av i=ob i):FrW g ob g' Y/\P:=
 ⟨λi a b c d e f=>⟨(h.1 i a b c d e f).1,(h.1 i a b c d e f).2.trans (ar i b e)⟩,h.2⟩
def Pp{gr:Nat}{code:List Nat}{inp:Str}{m:M}{g:Nat->Nat}{ob:Obs}(h:Wn gr code inp m g ob)(H:∀x∈code,x<4294967296)(v:Mach.Good m)(P:z m.mem<=1000000)(b0:z code<=1000000)(b3:m.steps<1000000000000)(b7:m.rd<=1000000000000)(hf:m.fin=0):
  fX Tryz.prog 92 [.one (.ptr 13 gr 0)] g ob (λ_ g' Y=>FrW g ob g' Y/\Wn gr code inp (mV okI code inp m) g' Y):=by
 refine hdF 3000 Tryz.func92 rfl [] ?_;obtain⟨hg,cs,mi,A,p,ho,V,Q,cb,c7,bz,b2⟩:=id h;have hl:=V.len;have dc:¬(m.pc:Int)<0:=a7;have bn:(0:Int)<=(m.pc:Int):=a7;have an:=ac (k:=m.steps) a7;simp only[go_sem];refine bO c8 ?_;by_cases af:m.pc<z code
 case neg=>
  have a1:(z code:Int)<=(m.pc:Int):=a7;rw[show mV okI code inp m = {m with fin:=7} by unfold mV;rw[E5 a7]];simp only[go_sem,hg,ho,V.c0,V.c23,dc,j6,a1];exact⟨a7,bt (.inl rfl) (h.done ho (λi hi=>by (try simp only[upd]);repeat (rw[j8 (by omega)]);try rfl) (λi hi=>by (try simp only[upd]);repeat (rw[j8 (by omega)]);try rfl) (by simp[upd]<;>rfl) rfl rfl λ_ _ _ V=>V.setFin 7)⟩
 have a1:¬(z code:Int)<=(m.pc:Int):=a7;obtain⟨w,hw⟩:=getq af;have gm:=H w (l6 hw);simp only[go_sem,hg,ho,V.c0,V.c23,V.c20,dc,j6,a1,an];refine⟨a7,?_⟩;refine bO c8 ?_;have b1:=V.setSteps (m.steps+1);generalize ef:cs.set 20 (.d (.int .i64 (m.steps+1:Nat)))=f at b1|-;have ch:=b1.len;obtain⟨n0,bk⟩:=getq (l:=p) (k:=m.pc) a7;have eh:(lQ p)[m.pc]?=S (.d (.int .i64 n0)):=by unfold lQ;rw[x8,bk];rfl
 have ek:z (lQ p)=z code:=by unfold lQ;rw[j6,bz]
 have bd:=b1.c0;have cc:=b1.c27;simp only[go_sem,hg,bd,cc,c7,bn,C7,L3,eh];refine⟨af,af,a7,?_⟩
 have U:Wn gr code inp {m with steps:=m.steps+1} g (upd (upd ob 13 (S f)) 47 (S ((lQ p).set m.pc (.d (.int .i64 (IntKind.i64.wrap (n0+1))))))):=
  ⟨hg,f,mi,A,p.set m.pc (IntKind.i64.wrap (n0+1)),by simp[upd],b1,Q,by rcases Q with rfl|rfl<;>simpa[upd]using cb,by simp[upd,lQ,Mu],by rw[C2,bz],by simpa[upd]using b2⟩
 have ar:∀i,i≠13->i≠47->(upd (upd ob 13 (S f)) 47 (S ((lQ p).set m.pc (.d (.int .i64 (IntKind.i64.wrap (n0+1))))))) i=ob i:=λi a b=>by simp only[upd];rw[j8 b,j8 a]
 have t:(upd (upd ob 13 (S f)) 47 (S ((lQ p).set m.pc (.d (.int .i64 (IntKind.i64.wrap (n0+1))))))) 13=S f:=by simp[upd]
 have K:(upd (upd ob 13 (S f)) 47 (S ((lQ p).set m.pc (.d (.int .i64 (IntKind.i64.wrap (n0+1))))))) mi=S (ji m.mem):=by rcases Q with rfl|rfl<;>simpa[upd]using cb
 have W:A=.osl 38 (g 38) 1 0 (z m.out)/\(upd (upd ob 13 (S f)) 47 (S ((lQ p).set m.pc (.d (.int .i64 (IntKind.i64.wrap (n0+1))))))) 38=S (mE m.out):=by simpa[upd]using b2
 obtain⟨bs,cd,c'⟩:∃bs,(upd (upd ob 13 (S f)) 47 (S ((lQ p).set m.pc (.d (.int .i64 (IntKind.i64.wrap (n0+1))))))) 47=S (lQ bs)/\z bs=z code:=⟨p.set m.pc (IntKind.i64.wrap (n0+1)),by simp[upd,lQ,Mu],by rw[C2,bz]⟩
 generalize upd (upd ob 13 (S f)) 47 (S ((lQ p).set m.pc (.d (.int .i64 (IntKind.i64.wrap (n0+1))))))=av at U ar t K W cd|-;have b6:Mach.Good {m with steps:=m.steps+1}:=⟨v.len,v.reg,v.mem,by have:=v.pc;show m.pc<=4294967296+(m.steps+1);omega,v.out,v.fin⟩
 have hs:mV okI code inp m=if okW w=T then doM code inp {m with steps:=m.steps+1} (w/16777216) (w/1048576%16) (w/65536%16) (w%65536)else {m with steps:=m.steps+1,fin:=6}:=by
  unfold mV okW;rw[hw]
 rw[hs];have al:nY w=nY w:=rfl
 conv at al=>rhs;unfold nY
 have dh:=b1.c23;have dp:=b1.c24;clear ef hs eh c7 bz bk ek V b2 cb ho;refine fL aA mixed [3002] [([0],[0],[],F),([56],[0],[],F),([57],[0],[],F),([58],[0],[],F),([0],[0],[],F),([60],[0],[],F),([61],[0],[],F),([62],[0],[],F),([63],[0],[],F),([59,64],[0],[],F),([65],[0],[],F),([],[],[0],F),([2,66],[],[],T)] 1 c8 rfl b9 ?_;simp only[go_sem];cases hR:okW w
 .rw[hR,j8 a8]at al
  rw[j8 a8]
  iterate 9 (apply aI;· (intro fa ga oa K' J;simp only[go_sem,hg,t,bd,dh]at J|-;exact J))
  iterate 2 (apply aI;· (intro fa ga oa K' J;simp only[go_sem,bn,hw,z7,al]at J|-;exact J))
  (apply cJ;· (intro fa ga oa K' J;simp only[go_sem]at J|-;exact J))
  apply cL;intro K' a';simp only[go_sem];refine a' _ ?_;clear a' K';simp only[go_sem];refine bO c8 ?_;simp only[go_sem,hg,t,bd,dp,bn,hw,z7,hR];exact⟨a7,bt (.inl rfl) (FrW.from (U.done (m':={m with steps:=m.steps+1,fin:=6}) t (λi hi=>by (try simp only[upd]);repeat (rw[j8 (by omega)]);try rfl) (λi hi=>by (try simp only[upd]);repeat (rw[j8 (by omega)]);try rfl) (by simp[upd]<;>rfl) rfl rfl λ_ _ _ V=>V.setFin 6) ar)⟩
 .rw[hR,l8 rfl]at al
  rw[l8 rfl];obtain⟨p1,p2,p3⟩:=Ey (show okI (w/16777216) (w/1048576%16) (w/65536%16) (w%65536)=T from hR);have ha:w/1048576%16<16:=a7;have hb:w/65536%16<16:=a7;have Z:w%65536<65536:=a7;generalize w/16777216=op at al p1 p2 p3|-;generalize w/1048576%16=a at al p3 ha|-;generalize w/65536%16=b at al p3 hb|-;generalize w%65536=c at al p3 Z|-
  iterate 9 (apply aI;· (intro fa ga oa K' J;simp only[go_sem,hg,t,bd,dh]at J|-;exact J))
  iterate 2 (apply aI;· (intro fa ga oa K' J;simp only[go_sem,bn,hw,z7,al]at J|-;exact J))
  (apply cJ;· (intro fa ga oa K' J;simp only[go_sem]at J|-;exact J))
  apply cL;intro K' a';simp only[go_sem];refine a' _ ?_;clear a' K';simp only[go_sem];refine bO c8 ?_;simp only[go_sem,hg,t,bd,dp,bn,hw,z7,hR];refine bO c8 ?_;have q:=b1.rg a ha;have X:(0:Int)<=(a:Int):=a7;have rb:=b1.rg b hb;have b8:(0:Int)<=(b:Int):=a7;have o:m.pc<=4294967296000000:=by have:=v.pc;omega
  have gx:=v.r a;have gn:=v.r b;have u:=λg2 bo(h2:Wn gr code inp {m with steps:=m.steps+1} g2 bo)(x:Nat)=>Nn h2 a x ha o;have az:=λg2 bo(h2:Wn gr code inp {m with steps:=m.steps+1} g2 bo)(y:Bool)=>Po h2 y c o;have b':IntKind.u32.wrap ((c:Nat):Int)=((c:Nat):Int):=dK a7;change f[1+a]?=S (.d (.int .u32 (m.r a:Nat)))at q;change f[1+b]?=S (.d (.int .u32 (m.r b:Nat)))at rb
  have fin:∀{g2:Nat->Nat}{bo:Obs}{m':M}{g':Nat->Nat}{Y:Obs},(∀i,i<3000->g2 i=g i)->(∀i,i<3000->bo i=av i)->FrW g2 bo g' Y->Wn gr code inp m' g' Y->FrW g ob g' Y/\Wn gr code inp m' g' Y:=λe1 e2 f1 f2=>
   FrW.from (av:=av) ⟨λi hi G cx cy cz c1=>by have:=f1 i hi G cx cy cz c1;rw[e1 i hi,e2 i hi]at this;exact this,f2⟩ ar
  by_cases o1:op=1
  .subst o1
   rw[show doM code inp {m with steps:=m.steps+1} 1 a b c=({m with steps:=m.steps+1}:M).set a c from rfl];simp only[go_sem,hg,t,q,X,b'];refine⟨a7,?_⟩;refine ck rfl (by simp only[go_sem];exact u _ _ (U.same (λi hi=>by (try simp only[upd]);repeat (rw[j8 (by omega)]);try rfl) (λi hi=>by (try simp only[upd]);repeat (rw[j8 (by omega)]);try rfl)) c) ?_;exact gD
  by_cases o2:op=2
  .subst o2
   rw[show doM code inp {m with steps:=m.steps+1} 2 a b c=({m with steps:=m.steps+1}:M).set a (m.r a%65536+c*65536)from rfl];have e1:((m.r a:Nat):Int).tmod 65536=((m.r a%65536:Nat):Int):=rfl;have e2:IntKind.u32.wrap ((c:Int)*65536)=((c*65536:Nat):Int):=by rw[IntKind.wrap_u32];omega
   have e3:IntKind.u32.wrap (((m.r a%65536:Nat):Int)+((c*65536:Nat):Int))=((m.r a%65536+c*65536:Nat):Int):=by rw[IntKind.wrap_u32];omega
   have e4:IntKind.u32.wrap ((m.r a%65536:Nat):Int)=((m.r a%65536:Nat):Int):=dK a7;simp only[go_sem,hg,t,q,X,b',e1,e2,e3,e4];refine⟨a7,?_⟩;refine ck rfl (by simp only[go_sem];exact u _ _ (U.same (λi hi=>by (try simp only[upd]);repeat (rw[j8 (by omega)]);try rfl) (λi hi=>by (try simp only[upd]);repeat (rw[j8 (by omega)]);try rfl)) (m.r a%65536+c*65536)) ?_;exact gD
  by_cases B:op=3
  .subst B
   rw[show doM code inp {m with steps:=m.steps+1} 3 a b c=({m with steps:=m.steps+1}:M).set a (m.r b)from rfl];simp only[go_sem,hg,t,q,X];refine⟨a7,?_⟩;refine bO c8 ?_;simp only[go_sem,hg,t,rb,b8];refine⟨a7,?_⟩;refine ck rfl (by simp only[go_sem];exact u _ _ (U.same (λi hi=>by (try simp only[upd]);repeat (rw[j8 (by omega)]);try rfl) (λi hi=>by (try simp only[upd]);repeat (rw[j8 (by omega)]);try rfl)) (m.r b)) ?_;exact gD
  by_cases e6:op=18
  .subst e6
   rw[show doM code inp {m with steps:=m.steps+1} 18 a b c = {m with steps:=m.steps+1,pc:=c}from rfl];simp only[go_sem,hg,t,q,X];exact⟨a7,a7,bt (.inr rfl) (FrW.from (U.done (m':={m with steps:=m.steps+1,pc:=c}) t (λi hi=>by (try simp only[upd]);repeat (rw[j8 (by omega)]);try rfl) (λi hi=>by (try simp only[upd]);repeat (rw[j8 (by omega)]);try rfl) (by simp[upd]<;>rfl) rfl rfl λ_ _ _ V=>V.setPc c) ar)⟩
  by_cases e7:op=19
  .subst e7
   rw[show doM code inp {m with steps:=m.steps+1} 19 a b c = {m with steps:=m.steps+1,pc:=if m.r a=0 then c else m.pc+1}from rfl];by_cases hz:m.r a=0
   .have e:((m.r a:Nat):Int)=0:=a7
    rw[l8 hz];exact r8
   .have e:¬((m.r a:Nat):Int)=0:=a7
    rw[j8 hz];exact ra
  by_cases e8:op=20
  .subst e8
   rw[show doM code inp {m with steps:=m.steps+1} 20 a b c = {m with steps:=m.steps+1,pc:=if m.r a=0 then m.pc+1 else c}from rfl];by_cases hz:m.r a=0
   .have e:((m.r a:Nat):Int)=0:=a7
    rw[l8 hz];exact ra
   .have e:¬((m.r a:Nat):Int)=0:=a7
    rw[j8 hz];exact r8
  by_cases cu:op=22
  .subst cu
   rw[show doM code inp {m with steps:=m.steps+1} 22 a b c = {m with steps:=m.steps+1,pc:=m.r a}from rfl];have e9:IntKind.i64.wrap ((m.r a:Nat):Int)=((m.r a:Nat):Int):=by rw[wrap_i64]<;>omega
   simp only[go_sem,hg,t,q,X,e9];exact⟨a7,a7,bt (.inr rfl) (FrW.from (U.done (m':={m with steps:=m.steps+1,pc:=m.r a}) t (λi hi=>by (try simp only[upd]);repeat (rw[j8 (by omega)]);try rfl) (λi hi=>by (try simp only[upd]);repeat (rw[j8 (by omega)]);try rfl) (by simp[upd]<;>rfl) rfl rfl λ_ _ _ V=>V.setPc (m.r a)) ar)⟩
  by_cases e':op=26
  .subst e'
   rw[show doM code inp {m with steps:=m.steps+1} 26 a b c = {m with steps:=m.steps+1,fin:=1}from rfl];simp only[go_sem,hg,t,q,X];exact⟨a7,a7,bt (.inr rfl) (FrW.from (U.done (m':={m with steps:=m.steps+1,fin:=1}) t (λi hi=>by (try simp only[upd]);repeat (rw[j8 (by omega)]);try rfl) (λi hi=>by (try simp only[upd]);repeat (rw[j8 (by omega)]);try rfl) (by simp[upd]<;>rfl) rfl rfl λ_ _ _ V=>V.setFin 1) ar)⟩
  by_cases fl:op=25
  .subst fl
   rw[show doM code inp {m with steps:=m.steps+1} 25 a b c=(if c<=m.r a then({m with steps:=m.steps+1,fin:=3}:M)else {m with steps:=m.steps+1,pc:=m.pc+1})from rfl];have ca:=ac (k:=m.pc) a7;by_cases hz:c<=m.r a
   .have e:((c:Nat):Int)<=((m.r a:Nat):Int):=a7
    rw[l8 hz];simp only[go_sem,hg,t,q,X,b',e];exact⟨a7,a7,bt (.inl rfl) (FrW.from (U.done (m':={m with steps:=m.steps+1,fin:=3}) t (λi hi=>by (try simp only[upd]);repeat (rw[j8 (by omega)]);try rfl) (λi hi=>by (try simp only[upd]);repeat (rw[j8 (by omega)]);try rfl) (by simp[upd]<;>rfl) rfl rfl λ_ _ _ V=>V.setFin 3) ar)⟩
   .have e:¬((c:Nat):Int)<=((m.r a:Nat):Int):=a7
    rw[j8 hz];simp only[go_sem,hg,t,q,X,b',e,bd,ca];exact⟨a7,a7,bt (.inr rfl) (FrW.from (U.done (m':={m with steps:=m.steps+1,pc:=m.pc+1}) t (λi hi=>by (try simp only[upd]);repeat (rw[j8 (by omega)]);try rfl) (λi hi=>by (try simp only[upd]);repeat (rw[j8 (by omega)]);try rfl) (by simp[upd]<;>rfl) rfl rfl λ_ _ _ V=>V.setPc (m.pc+1)) ar)⟩
  by_cases cv:op=21
  .subst cv
   rw[show doM code inp {m with steps:=m.steps+1} 21 a b c = {m with steps:=m.steps+1,reg:=m.reg.set a ((m.pc+1)%4294967296),pc:=c}from rfl];have e1:IntKind.u32.wrap ((m.pc:Nat):Int)=((m.pc%4294967296:Nat):Int):=w32 _;have e2:IntKind.u32.wrap (((m.pc%4294967296:Nat):Int)+1)=(((m.pc+1)%4294967296:Nat):Int):=by rw[IntKind.wrap_u32];omega
   simp only[go_sem,hg,t,q,X];refine⟨a7,?_⟩;refine bO c8 ?_;simp only[go_sem,hg,t,bd,X,e1,e2];refine⟨a7,a7,?_⟩;exact⟨by simp only[C2];omega,bt (.inr rfl) (FrW.from (U.done (m':={m with steps:=m.steps+1,reg:=m.reg.set a ((m.pc+1)%4294967296),pc:=c}) t (λi hi=>by (try simp only[upd]);repeat (rw[j8 (by omega)]);try rfl) (λi hi=>by (try simp only[upd]);repeat (rw[j8 (by omega)]);try rfl) (by simp[upd]<;>rfl) rfl rfl λ_ _ _ V=>(V.setReg ha _).setPc c) ar)⟩
  by_cases cf:op=23
  .subst cf
   have ds:¬(m.rd:Int)<0:=a7;have ec:(0:Int)<=(m.rd:Int):=a7;have et:=ac (k:=m.rd) a7;have c2:=b1.c18;have c4:=b1.c26;cases I:inp[m.rd]? with
   |none=>
     have c6:(z inp:Int)<=(m.rd:Int):=by have:=N0.1 I;omega
     rw[show doM code inp {m with steps:=m.steps+1} 23 a b c=({m with steps:=m.steps+1}:M).set a 256 by show (match inp[m.rd]? with|some x=>_|none=>_)=_;rw[I]];simp only[go_sem,hg,t,q,X];refine⟨a7,?_⟩;refine bO c8 ?_;simp only[go_sem,hg,t,c2,c4,ds,c6];refine ck rfl (by simp only[go_sem];exact u _ _ (U.same (λi hi=>by (try simp only[upd]);repeat (rw[j8 (by omega)]);try rfl) (λi hi=>by (try simp only[upd]);repeat (rw[j8 (by omega)]);try rfl)) 256) ?_;rintro r g' Y ⟨f1,f2⟩;simp only[go_sem];exact bt (.inl rfl) (fin (λi hi=>by (try simp only[upd]);repeat (rw[j8 (by omega)]);try rfl) (λi hi=>by (try simp only[upd]);repeat (rw[j8 (by omega)]);try rfl) f1 f2)
   |some x=>
     have gv:=(l5.1 I).1;have c6:¬(z inp:Int)<=(m.rd:Int):=a7;have hd:=x.toNat_lt;rw[show doM code inp {m with steps:=m.steps+1} 23 a b c=({m with steps:=m.steps+1,rd:=m.rd+1}:M).set a x.toNat by show (match inp[m.rd]? with|some x=>_|none=>_)=_;rw[I];rfl];simp only[go_sem,hg,t,q,X];refine⟨a7,?_⟩;refine bO c8 ?_;simp only[go_sem,hg,t,c2,c4,ds,c6];refine bO c8 ?_;simp only[go_sem,hg,t,c2,c4,ec,I,et,dK (show x.toNat<4294967296 by omega)];refine⟨a7,?_⟩;refine ck rfl (by simp only[go_sem];exact Nn (m:={m with steps:=m.steps+1,rd:=m.rd+1}) ((U.done (m':={m with steps:=m.steps+1,rd:=m.rd+1}) t (λi hi=>by (try simp only[upd]);repeat (rw[j8 (by omega)]);try rfl) (λi hi=>by (try simp only[upd]);repeat (rw[j8 (by omega)]);try rfl) (by simp[upd]<;>rfl) rfl rfl λ_ _ _ V=>V.setRd (m.rd+1)).2) a x.toNat ha o) ?_;rintro r g' Y ⟨f1,f2⟩;simp only[go_sem];refine bt (.inr rfl) (FrW.from (av:=av) ⟨λi hi G cx cy cz c1=>?_,f2⟩ ar);have:=f1 i hi G cx cy cz c1;simp only[upd]at this
     repeat rw[j8 (by omega)]at this
     exact this
  by_cases fm:op=16
  .subst fm
   have L:=b1.c17;have hF:=Da m.mem (m.r b) c P Z;have E:mi≠13/\mi≠3002:=a7;simp only[go_sem,hg,t,q,X];refine⟨a7,?_⟩;simp only[go_sem,hg,t,L];refine cO aA mixed c8 ?_;simp only[go_sem,hg,t,rb,b8];refine⟨a7,?_⟩
   have dd:∀{s:St}(x y:D),s.gen mi=g mi->s.obj mi=S (ji m.mem)->dC s [.one (.osl mi (g mi) 1 0 (z m.mem)),.one (.d x),.one (.d y)] [.one (.d (kM m.mem)),.one (.d (ge x)),.one (.d (ge y))]:=λx y e1 e2=>
    Px (xL (qh (cells:=ji m.mem) (off:=0) e1 e2 m.mem (λn=>.int .u32 (n:Nat)) (λ_=>rfl) rfl (λj a h=>by rw[C7];unfold ji;rw[x8,h];rfl) (by unfold ji;rw[j6];omega))) (ke _) (ke _)
   have e1:∀(x:Nat),(upd g 3002 x) mi=g mi:=λx=>by simp only[upd];rw[j8 E.2]
   cases I:m.mem[(m.r b+c)%4294967296]? with
   |none=>
     rw[I]at hF;unfold BI at hF;rw[show doM code inp {m with steps:=m.steps+1} 16 a b c = {m with steps:=m.steps+1,fin:=8} by show (match m.mem[(m.r b+c)%4294967296]? with|some x=>_|none=>_)=_;rw[I]];refine aP rfl hF WZ rfl ?_;exact o3
   |some x=>
     rw[I]at hF;unfold BI at hF;rw[show doM code inp {m with steps:=m.steps+1} 16 a b c=({m with steps:=m.steps+1}:M).set a x by show (match m.mem[(m.r b+c)%4294967296]? with|some x=>_|none=>_)=_;rw[I]];refine aP rfl hF WZ rfl ?_;exact k9
  by_cases fo:op=27
  .subst fo
   have L:=b1.c17;have dx:=b1.c25;have hF:=Da code (m.r b) c b0 Z;unfold eO at dx;unfold kM at hF;simp only[go_sem,hg,t,q,X];refine⟨a7,?_⟩;simp only[go_sem,hg,t,L,dx];refine cO aA mixed c8 ?_;simp only[go_sem,hg,t,rb,b8];refine⟨a7,?_⟩;cases I:code[(m.r b+c)%4294967296]? with
   |none=>
     rw[I]at hF;unfold BI at hF;rw[show doM code inp {m with steps:=m.steps+1} 27 a b c = {m with steps:=m.steps+1,fin:=8} by show (match code[(m.r b+c)%4294967296]? with|some x=>_|none=>_)=_;rw[I]];refine aP rfl hF (ci rfl) rfl ?_;exact o3
   |some x=>
     rw[I]at hF;unfold BI at hF;rw[show doM code inp {m with steps:=m.steps+1} 27 a b c=({m with steps:=m.steps+1}:M).set a x by show (match code[(m.r b+c)%4294967296]? with|some x=>_|none=>_)=_;rw[I]];refine aP rfl hF (ci rfl) rfl ?_;exact k9
  have dz:=ac (k:=m.pc) a7;by_cases bf:4<=op/\op<=15
  .have ev:=p3 bf
   have rc:=b1.rg c ev;change f[1+c]?=S (.d (.int .u32 (m.r c:Nat)))at rc;have fr:(0:Int)<=(c:Int):=a7;have hA:=zO op (m.r b) (m.r c) bf.1 bf.2 (v.r b) (v.r c)
   have hD:doM code inp {m with steps:=m.steps+1} op a b c=match applyN op (m.r b) (m.r c)with|some x=>({m with steps:=m.steps+1}:M).set a x|none=>{m with steps:=m.steps+1,fin:=2}:=by
    obtain rfl|rfl|rfl|rfl|rfl|rfl|rfl|rfl|rfl|rfl|rfl|rfl:op=4\/op=5\/op=6\/op=7\/op=8\/op=9\/op=10\/op=11\/op=12\/op=13\/op=14\/op=15:=a7
    all_goals rfl
   rw[hD];clear hD;generalize applyN op (m.r b) (m.r c)=res at hA|-;unfold Lv at hA;have k1:¬(op:Int)=1:=a7;have k2:¬(op:Int)=2:=a7;have k3:¬(op:Int)=3:=a7;have fs:¬(op:Int)=16:=a7;have ft:¬(op:Int)=17:=a7;have fu:¬(op:Int)=18:=a7;have fw:¬(op:Int)=19:=a7;have fx:¬(op:Int)=20:=a7;have fz:¬(op:Int)=21:=a7;have f':¬(op:Int)=22:=a7;have gb:¬(op:Int)=23:=a7;have gd:¬(op:Int)=24:=a7;have gh:¬(op:Int)=25:=a7;have gi:¬(op:Int)=26:=a7;have gj:¬(op:Int)=27:=a7;simp only[go_sem,hg,t,q,X,k1,k2,k3,fs,ft,fu,fw,fx,fz,f',gb,gd,gh,gi,gj];refine⟨a7,?_⟩;refine cO aA mixed c8 ?_;simp only[go_sem,hg,t,rb,rc,b8,fr];refine⟨a7,a7,?_⟩;cases res with
   |none=>
     refine aP rfl hA (ci rfl) rfl ?_;simp only[go_sem,hg,t];exact⟨a7,bt (.inl rfl) (FrW.from (U.done (m':={m with steps:=m.steps+1,fin:=2}) t (λi hi=>by (try simp only[upd]);repeat (rw[j8 (by omega)]);try rfl) (λi hi=>by (try simp only[upd]);repeat (rw[j8 (by omega)]);try rfl) (by simp[upd]<;>rfl) rfl rfl λ_ _ _ V=>V.setFin 2) ar)⟩
   |some x=>
     refine aP rfl hA (ci rfl) rfl ?_;exact k9
  by_cases gk:op=17
  .subst gk
   have L:=b1.c17;have E:mi≠13/\mi≠3002/\mi≠47/\mi≠38:=a7;have e2:=CW (m.r b) c;have b4:(m.r b+c)%4294967296<4294967296:=O0 _ b9;rw[show doM code inp {m with steps:=m.steps+1} 17 a b c=(if (m.r b+c)%4294967296<z m.mem then({m with steps:=m.steps+1,mem:=m.mem.set ((m.r b+c)%4294967296) (m.r a),pc:=m.pc+1}:M)else {m with steps:=m.steps+1,fin:=8})from rfl];generalize (m.r b+c)%4294967296=at' at e2 b4|-;have e3:=w64 (n:=at') a7;have e4:=w64 (n:=z m.mem) a7;have e0:(0:Int)<=(at':Int):=a7;simp only[go_sem,hg,t,q,X];refine⟨a7,?_⟩;refine bO c8 ?_;by_cases hz:at'<z m.mem
   .have e:¬(z m.mem:Int)<=(at':Int):=a7
    have b5:z (ji m.mem)=z m.mem:=by unfold ji;rw[j6]
    rw[l8 hz];simp only[go_sem,hg,t,rb,b8,b',e2,L,e3,e4,e,e0,K,E.2.1,B8 E.1,C7,L3,bd,dz];refine⟨a7,hz,a7,?_⟩;refine⟨a7,bt (.inr rfl) (FrW.from (av:=av) ⟨λi hi G cx cy cz c1=>⟨(λi hi=>by (try simp only[upd]);repeat (rw[j8 (by omega)]);try rfl) i hi,by simp only[upd];(repeat rw[j8 (by omega)])⟩,⟨by simp[upd,hg],f.set 0 (.d (.int .i64 (m.pc+1:Nat))),mi,A,bs,by simp[upd],?_,Q,?_,?_,c',?_⟩⟩ ar)⟩
    .have hp:=b1.setPc (m.pc+1)
     simp only[upd,C2]
     (repeat rw[j8 (by omega)])
     exact⟨hp.len,hp.c0,hp.rl,hp.rg,hp.c17,hp.c18,hp.c19,hp.c20,hp.c21,hp.c22,hp.c23,hp.c24,hp.c25,hp.c26,hp.c27⟩
    .simp only[upd];(repeat rw[j8 (by omega)]);simp[ji,Mu]
    .simp only[upd];(repeat rw[j8 (by omega)]);exact cd
    .simp only[upd];(repeat rw[j8 (by omega)]);exact W
   .have e:(z m.mem:Int)<=(at':Int):=a7
    rw[j8 hz];simp only[go_sem,hg,t,rb,b8,b',e2,L,e3,e4,e,E.2.1,K];exact⟨a7,a7,bt (.inl rfl) (FrW.from (U.done (m':={m with steps:=m.steps+1,fin:=8}) t (λi hi=>by (try simp only[upd]);repeat (rw[j8 (by omega)]);try rfl) (λi hi=>by (try simp only[upd]);repeat (rw[j8 (by omega)]);try rfl) (by simp[upd]<;>rfl) rfl rfl λ_ _ _ V=>V.setFin 8) ar)⟩
  by_cases bl:op=24
  .subst bl
   have d':=b1.c22;have ad:=v.out;rw[show doM code inp {m with steps:=m.steps+1} 24 a b c=(if 65536<=z m.out then({m with steps:=m.steps+1,fin:=4}:M)else {m with steps:=m.steps+1,out:=m.out++[UInt8.ofNat (m.r a)],pc:=m.pc+1})from rfl];have e1:((m.r a:Nat):Int).tmod 256=((m.r a%256:Nat):Int):=rfl;have e2:IntKind.u32.wrap ((m.r a%256:Nat):Int)=((m.r a%256:Nat):Int):=dK a7;have e3:IntKind.u8.wrap ((m.r a%256:Nat):Int)=((m.r a%256:Nat):Int):=by rw[IntKind.wrap_u8];omega
   have gl:(UInt8.ofNat (m.r a)).toNat=m.r a%256:=by rw[Mt]
   obtain⟨rfl,x3⟩:=W;have cm:z (mE m.out)=z m.out:=by unfold mE;rw[j6]
   by_cases O:65536<=z m.out
   .have a6:(65536:Int)<=(z m.out:Int):=a7
    rw[l8 O];simp only[go_sem,hg,t,q,X,d',x3,a6];exact⟨a7,a7,bt (.inl rfl) (FrW.from (U.done (m':={m with steps:=m.steps+1,fin:=4}) t (λi hi=>by (try simp only[upd]);repeat (rw[j8 (by omega)]);try rfl) (λi hi=>by (try simp only[upd]);repeat (rw[j8 (by omega)]);try rfl) (by simp[upd]<;>rfl) rfl rfl λ_ _ _ V=>V.setFin 4) ar)⟩
   .have a6:¬(65536:Int)<=(z m.out:Int):=a7
    rw[j8 O];have e5:∀x,(f.set 22 x)[0]?=S (.d (.int .i64 (m.pc:Nat))):=λx=>by rw[au a7];exact bd
    simp only[go_sem,hg,t,q,X,d',x3,a6,e1,e2,e3,aW,e5,dz];have E:mi≠13/\mi≠3002/\mi≠47/\mi≠38:=a7;refine⟨a7,a7,⟨b9,a7⟩,a7,by simp only[C2];omega,bt (.inr rfl) (FrW.from (av:=av) ⟨λi hi G cx cy cz c1=>⟨by simp only[upd];(repeat rw[j8 (by omega)]),by simp only[upd];(repeat rw[j8 (by omega)])⟩,⟨by simp[upd,hg],(f.set 22 (.osl 38 (nxC (apC 5 (g 38) 0) (g 38)) 1 0 (z m.out+1))).set 0 (.d (.int .i64 (m.pc+1:Nat))),mi,(.osl 38 (nxC (apC 5 (g 38) 0) (g 38)) 1 0 (z m.out+1)),bs,by simp[upd],?_,Q,?_,?_,c',?_,?_⟩⟩ ar)⟩
    .have hp:=(b1.setOut (.osl 38 (nxC (apC 5 (g 38) 0) (g 38)) 1 0 (z m.out+1)) (m.out++[UInt8.ofNat (m.r a)])).setPc (m.pc+1)
     simp only[upd]
     (repeat rw[j8 (by omega)])
     exact hp
    .simp only[upd];(repeat rw[j8 (by omega)]);exact K
    .simp only[upd];(repeat rw[j8 (by omega)]);exact cd
    .simp[upd]
    .simp only[upd,B1]
     rw[j8 b9];simp[mE,gl];exact s6 a8
  exfalso;omega
end
end Go.Proofs.YtlacbjnmkhndiaaGreatDoor

/- A part of the proof; no conditions. -/
import Derived.Test.YtednjibjomfhfaaGreatDoorPart16
import Derived.Shelf.SlicesE.Clone
set_option linter.all false
open List renaming length -> z
open Option renaming some -> S, none -> N
open Bool renaming true -> T, false -> F
set_option maxHeartbeats 64000000
set_option maxRecDepth 100000
namespace Go.Mach
section
open Go.Asm (Str)
section
variable{s:Str}
def VF{a b c d:UInt8}(e:s[0]?=S a)(U:s[1]?=S b)(Y:s[2]?=S c)(f:s[3]?=S d):s.take 4=[a,b,c,d]:=by
 match s with
 |W::X::g::h::r=>
   simp at e U Y f;subst e U Y f;rfl
 |[]=>simp at e
 |[_]=>simp at U
 |[_,_]=>simp at Y
 |[_,_,_]=>simp at f
def fS(s:Str)(k:Nat):Nat:=w4 (s.getD k 0) (s.getD (k+1) 0) (s.getD (k+2) 0) (s.getD (k+3) 0)
def ma{k:Nat}(h:k<z s):s[k]?=S (s.getD k 0):=by rw[D5,y8 h];rfl
def tJ(s:Str)(k:Nat):fS s k<4294967296:=by
 unfold fS w4;have a:=(s.getD k 0).toNat_lt;have b:=(s.getD (k+1) 0).toNat_lt;have c:=(s.getD (k+2) 0).toNat_lt;have hd:=(s.getD (k+3) 0).toNat_lt;omega
def tK{o k:Nat}(h:o+4*k+4<=z s):(gU (s.drop o))[k]?=S (fS s (o+4*k)):=by
 unfold fS;refine wD _ _ ?_ ?_ ?_ ?_<;>rw[G6]
 .exact ma a6
 .rw[show o+(4*k+1)=o+4*k+1 by omega];exact ma a6
 .rw[show o+(4*k+2)=o+4*k+2 by omega];exact ma a6
 .rw[show o+(4*k+3)=o+4*k+3 by omega];exact ma a6
def Ef(h:12<=z s):gU ((s.take 12).drop 4)=[fS s 4,fS s 8]:=by
 have c:z ((s.take 12).drop 4)=8:=by rw[D4,C2];omega
 have f:=qS ((s.take 12).drop 4);rw[c]at f;have hl:z (s.take 12)=12:=by rw[C2];omega
 have e:∀j,j<12->(s.take 12).getD j 0=s.getD j 0:=λj g=>by
  rw[D5,D5,Hl,l7 g]
 have W:=tK (s:=s.take 12) (o:=4) (k:=0) a6;have d:=tK (s:=s.take 12) (o:=4) (k:=1) a6;unfold fS at W d;rw[e _ a7,e _ a7,e _ a7,e _ a7]at W d
 match I:gU ((s.take 12).drop 4),f with
 |[a,b],_=>
   rw[I]at W d;simp at W d;rw[W,d];rfl
def Cq(h:12<=z s)(Y:s.take 4=[83,69,69,68]):
  kN s=if 16384<fS s 4\/32768<fS s 8\/z s≠12+4*fS s 4 then N else S (gU (s.drop 12),fS s 8):=by
 unfold kN;rw[Ef h];simp only;by_cases b:65548<z s
 .rw[l7 (.inr (.inr b)),l7 a6]
 .rw[j8 (by rw[TW,TW];exact⟨a6,λh=>h Y,b⟩)]
  by_cases a:32768<fS s 8\/z s≠12+4*fS s 4
  .rw[l7 a,l7 (.inr a)]
  .rw[j8 a,j8 a6]
end
end
end Go.Mach
namespace Go.Proofs.YtednjibjomfhfaaGreatDoor
section
open Go Go.Am Go.Asm Go.Mach Go.Shelf
end
section
open Go Go.Am Go.Asm Go.Mach
def okI(op a b c:Nat):Bool:=fA (op:Nat) (a:Nat) (b:Nat) (c:Nat)
def GG{op a b c:Nat}(h:okI op a b c=T):1<=op/\op<=27/\(4<=op/\op<=15->c<16):=by
 unfold okI fA at h;rw[l4]at h;obtain⟨U,Y⟩:=h;unfold kB at U;rw[l4,s7,s7,B6]at U;refine⟨U.1,U.2,λd=>?_⟩
 have e:Asm.shape op=(T,T,2):=by
  unfold Asm.shape;rw[j8 a6,j8 a6,l7 d]
 rw[B6]at Y;unfold rH inW at Y;rw[e]at Y;simp at Y;omega
end
end Go.Proofs.YtednjibjomfhfaaGreatDoor
namespace Go.Mach
section
open Go.Asm (Str)
section
section
variable{okI:Nat->Nat->Nat->Nat->Bool}{code:List Nat}{p:Str}
def NY(m m':M):Prop:=z m'.mem=z m.mem/\m'.steps<=m.steps+1/\m'.rd<=m.rd+1
def NZ{m m1:M}(h:z m1.mem=z m.mem/\m1.steps<=m.steps+1/\m1.rd=m.rd)(op a b c:Nat):NY m (doM code p m1 op a b c):=by
 obtain⟨U,Y,d⟩:=h;have e:NY m m1:=⟨U,Y,a6⟩
 have I:∀{pc f:Nat}{r:List Nat}{o:Str},NY m {m1 with pc:=pc,fin:=f,reg:=r,out:=o}:=⟨U,Y,by show m1.rd<=_;omega⟩
 unfold doM;refine dO (λ_=>I) λ_=>?_;refine dO (λ_=>I) λ_=>?_;refine dO (λ_=>I) λ_=>?_;refine dO (λ_=>?_) λ_=>?_
 .cases m1.mem[(m1.r b+c)%4294967296]?<;>exact I
 refine dO (λ_=>?_) λ_=>?_
 .cases code[(m1.r b+c)%4294967296]?<;>exact I
 refine dO (λ_=>dO (λ_=>⟨by show z (m1.mem.set _ _)=_;rw[D1];exact U,Y,by show m1.rd<=_;omega⟩) λ_=>I) λ_=>?_;refine dO (λ_=>I) λ_=>?_;refine dO (λ_=>I) λ_=>?_;refine dO (λ_=>I) λ_=>?_;refine dO (λ_=>I) λ_=>?_;refine dO (λ_=>I) λ_=>?_;refine dO (λ_=>?_) λ_=>?_
 .cases p[m1.rd]? with
  |none=>exact I
  |some x=>exact⟨U,Y,by show m1.rd+1<=_;omega⟩
 refine dO (λ_=>dO (λ_=>I) λ_=>I) λ_=>?_;refine dO (λ_=>dO (λ_=>I) λ_=>I) λ_=>?_;refine dO (λ_=>I) λ_=>?_;cases applyN op (m1.r b) (m1.r c)<;>exact I
def GW(m:M):NY m (nT okI code p m):=by
 unfold nT;cases code[m.pc]? with
 |none=>exact⟨rfl,by show m.steps<=_;omega,by show m.rd<=_;omega⟩
 |some w=>exact dO (λ_=>NZ (m:=m) (m1:={m with steps:=m.steps+1}) ⟨rfl,l0 _,rfl⟩ _ _ _ _) λ_=>⟨rfl,by show m.steps+1<=_;omega,by show m.rd<=_;omega⟩
end
end
end
end Go.Mach
namespace Go.Proofs.YtednjibjomfhfaaGreatDoor
section
open Go Go.Am Go.Asm Go.Mach
def stD(m:M):List D:=.int .i64 (m.pc:Nat)::(m.reg.map λx=>.int .u32 (x:Nat))++[lF m.mem,.int .i64 (m.rd:Nat),.str m.out,.int .i64 (m.steps:Nat),.int .i64 (m.fin:Nat)]
def stV(m:M):AV:=.agg ((stD m).map .d)
def ND{s:St}{A B:List D}{b:C}{x:D}(e:∀y∈A,ir y=y)(hB:∀y∈B,ir y=y)(f:Frz s b x):mf s (.agg (A.map .d++b::B.map .d)) (.agg ((A++x::B).map .d)):=by
 refine⟨A++x::B,a8,λi c a=>?_,rfl⟩;by_cases U:i<z A
 .rw[G1 (by simpa using U),y7]at a
  rw[G1 U];cases I:A[i]? with
  |none=>rw[I]at a;cases a
  |some y=>
    rw[I]at a;cases a;exact⟨y,rfl,by have:=Frz.d (s:=s) y;rwa [e y (l5 I)]at this⟩
 .obtain⟨k,rfl⟩:∃k,i=z A+k:=⟨i-z A,a6⟩
  rw[E3 a8,j5,So]at a;rw[E3 a6,So];cases k with
  |zero=>simp at a;subst a;exact⟨x,rfl,f⟩
  |succ k=>
    rw[v7,y7]at a;rw[v7];cases I:B[k]? with
    |none=>rw[I]at a;cases a
    |some y=>
      rw[I]at a;cases a;exact⟨y,rfl,by have:=Frz.d (s:=s) y;rwa [hB y (l5 I)]at this⟩
def pV{s:St}{m:M}{b:C}{l:List C}(c:Frz s b (lF m.mem))(hl:l=((.int .i64 (m.pc:Nat)::m.reg.map λx=>D.int .u32 (x:Nat)):List D).map .d++b::([.int .i64 (m.rd:Nat),.str m.out,.int .i64 (m.steps:Nat),.int .i64 (m.fin:Nat)]:List D).map .d):mf s (.agg l) (stV m):=by
 rw[hl];refine ND (λy a=>?_) (λy a=>?_) c
 .rcases y9.1 a with rfl|a
  .rfl
  .obtain⟨x,_,rfl⟩:=G3.1 a;rfl
 .simp only[y9,List.mem_nil_iff,E7]at a
  rcases a with rfl|rfl|rfl|rfl<;>rfl
def stC(m:M)(b:C):List C:=((.int .i64 (m.pc:Nat)::m.reg.map λx=>D.int .u32 (x:Nat)):List D).map .d++b::([.int .i64 (m.rd:Nat),.str m.out,.int .i64 (m.steps:Nat),.int .i64 (m.fin:Nat)]:List D).map .d
def Fk{m:M}(h:z m.reg=16)(b:C):z (stC m b)=22:=by simp[stC,h]
def xX:∀(L pre cells:List C),z cells=z L->setAt (pre++cells) (z pre) L=pre++L
 |[],pre,cells,h=>by
   obtain rfl:=r0 Xm;rfl
 |c::L,pre,x::cells,h=>by
   unfold setAt;have:=xX L (pre++[c]) cells Xm;rw[l6,l6,j4]at this;rw[show (pre++x::cells).set (z pre) c=pre++([c]++cells) by simp];exact this
def pW{L cells:List C}(h:z cells=z L):setAt cells 0 L=L:=xX L [] cells h
def Ri(r:Nat×Str×Nat):AV:=.agg [.d (.int .i64 (r.1:Nat)),.d (.str r.2.1),.d (.int .i64 (r.2.2:Nat))]
def JG{s:St}{a c:Int}{b:Str}:mf s (.agg [.d (.int .i64 a),.d (.str b),.d (.int .i64 c)]) (.agg [.d (.int .i64 a),.d (.str b),.d (.int .i64 c)]):=by
 refine⟨[.int .i64 a,.str b,.int .i64 c],rfl,λi c r=>?_,rfl⟩
 match i,r with
 |0,r=>cases r;exact⟨_,rfl,.d _⟩
 |1,r=>cases r;exact⟨_,rfl,.d _⟩
 |2,r=>cases r;exact⟨_,rfl,.d _⟩
def DD:Option (List Nat×Nat)->AV
 |some m=>.tup [ik m,iv .i64 0]
 |none=>.tup [ik ([],0),iv .i64 7]
def JH{s:St}{q:C}{code:List Nat}{d n:Nat}(a:Frz s q (gw code)):rq s [.agg [q,.d (.int .i64 (d:Nat))],iv .i64 (n:Nat)] (.tup [ik (code,d),iv .i64 (n:Nat)]):=by
 refine⟨_,⟨ik (code,d),_,rfl,⟨[gw code,.int .i64 (d:Nat)],rfl,λi c r=>?_,rfl⟩,_,_,rfl,⟨_,.d _,rfl⟩,rfl⟩,rfl⟩
 match i,r with
 |0,r=>cases r;exact⟨_,rfl,a⟩
 |1,r=>cases r;exact⟨_,rfl,.d _⟩
end
section
open Go Go.Am Go.Asm Go.Mach
attribute[local congr]ite_cc
def DM(w:Nat)(j:w<4294967296):aF Tryz.prog 126 [iv .u32 w] (·=Fj w):=by
 refine hdR Tryz.func126 rfl [.cell 2 135,.tmp 3] λg=>?_;have d1:((w:Nat):Int).tdiv 16777216=((w/16777216:Nat):Int):=rfl;have d:((w:Nat):Int).tdiv 1048576=((w/1048576:Nat):Int):=rfl;have d3:((w:Nat):Int).tdiv 65536=((w/65536:Nat):Int):=rfl;have e:∀x:Nat,((x:Nat):Int).tmod 16=((x%16:Nat):Int):=λ_=>rfl;have i:((w:Nat):Int).tmod 65536=((w%65536:Nat):Int):=rfl;have a:∀x:Nat,x<4294967296->IntKind.i64.wrap ((x:Nat):Int)=((x:Nat):Int):=λx I=>by rw[wrap_i64]<;>omega
 have b:=eE (n:=w/16777216) a6;have c:=eE (n:=w/1048576) a6;have u3:=eE (n:=w/65536) a6;have u4:=eE (n:=w/1048576%16) a6;have u5:=eE (n:=w/65536%16) a6;have J:=eE (n:=w%65536) a6;simp only[go_sem,d1,d,d3,e,i,b,c,u3,u4,u5,J,a (w/16777216) a6,a (w/1048576%16) a6,a (w/65536%16) a6,a (w%65536) a6,fK];refine bT rfl (by simp only[go_sem];exact HZ (w/16777216:Nat) (w/1048576%16:Nat) (w/65536%16:Nat) (w%65536:Nat)) ?_;rintro _ rfl;unfold Fj;cases l:fA (w/16777216:Nat) (w/1048576%16:Nat) (w/65536%16:Nat) (w%65536:Nat)
 .simp only[go_sem,fK]
  exact⟨_,Bw,rfl⟩
 .simp only[go_sem,fK]
  exact⟨_,Bw,rfl⟩
def NO(s:Str)(k:Nat)(h:k+4<=z s)(E:z s<=1000000000):aF Tryz.prog 24 [sv s,iv .i64 k] (·=iv .u32 (fS s k:Nat)):=by
 refine hdP Tryz.func24 rfl [4] λg=>?_;have n:=ma (s:=s) (k:=k) a6;have hb:=ma (s:=s) (k:=k+1) a6;have o:=ma (s:=s) (k:=k+2) a6;have hd:=ma (s:=s) (k:=k+3) a6;unfold fS;generalize s.getD k 0=a at n|-;generalize s.getD (k+1) 0=b at hb|-;generalize s.getD (k+2) 0=c at o|-;generalize s.getD (k+3) 0=d at hd|-;have j:=a.toNat_lt;have U:=b.toNat_lt;have l:=c.toNat_lt;have m:=d.toNat_lt;have e:IntKind.i64.wrap ((k:Int)+1)=((k+1:Nat):Int):=by rw[wrap_i64]<;>omega
 have f:IntKind.i64.wrap ((k:Int)+2)=((k+2:Nat):Int):=by rw[wrap_i64]<;>omega
 have i:IntKind.i64.wrap ((k:Int)+3)=((k+3:Nat):Int):=by rw[wrap_i64]<;>omega
 have q:(0:Int)<=(k:Int):=a6;have r:(0:Int)<=((k+1:Nat):Int):=a6;have t:(0:Int)<=((k+2:Nat):Int):=a6;have u:(0:Int)<=((k+3:Nat):Int):=a6;have v:IntKind.u32.wrap (256*((b.toNat:Nat):Int))=((256*b.toNat:Nat):Int):=by rw[IntKind.wrap_u32];omega
 have w:IntKind.u32.wrap (65536*((c.toNat:Nat):Int))=((65536*c.toNat:Nat):Int):=by rw[IntKind.wrap_u32];omega
 have x:IntKind.u32.wrap (16777216*((d.toNat:Nat):Int))=((16777216*d.toNat:Nat):Int):=by rw[IntKind.wrap_u32];omega
 have y:IntKind.u32.wrap (((a.toNat:Nat):Int)+((256*b.toNat:Nat):Int))=((a.toNat+256*b.toNat:Nat):Int):=by rw[IntKind.wrap_u32];omega
 have A:IntKind.u32.wrap (((a.toNat+256*b.toNat:Nat):Int)+((65536*c.toNat:Nat):Int))=((a.toNat+256*b.toNat+65536*c.toNat:Nat):Int):=by rw[IntKind.wrap_u32];omega
 have B:IntKind.u32.wrap (((a.toNat+256*b.toNat+65536*c.toNat:Nat):Int)+((16777216*d.toNat:Nat):Int))=((a.toNat+256*b.toNat+65536*c.toNat+16777216*d.toNat:Nat):Int):=by rw[IntKind.wrap_u32];omega
 simp only[go_sem];refine jN b9 ?_;simp only[go_sem,e,f,i,q,r,t,u,B6,n,hb,o,hd,eE (show a.toNat<4294967296 by omega),eE (show b.toNat<4294967296 by omega),eE (show c.toNat<4294967296 by omega),eE (show d.toNat<4294967296 by omega),v,w,x,y,A,B];rfl
def NP{x:UInt8}{n:Nat}(h:¬x=UInt8.ofNat n)(a:n<256):¬((x.toNat:Nat):Int)=(n:Nat):=λe=>h (P0.1 (by rw[L6];omega))
def DN(s:Str)(hs:z s<=1000000000):aF Tryz.prog 8 [sv s] (·=DD (kN s)):=by
 refine hdR Tryz.func8 rfl [.cell 2 36,.tmp 3] λg=>?_;have m:kN s=N->DD (kN s)=.tup [ik ([],0),iv .i64 7]:=λh=>by rw[h];rfl
 by_cases U:z s<12
 .have hi:(z s:Int)<12:=a6
  rw[m (by unfold kN;rw[l7 (.inl U)])];simp only[go_sem,hi,fK];exact⟨_,ku,rfl⟩
 have hi:¬(z s:Int)<12:=a6;obtain⟨x0,g0⟩:=getq (l:=s) (k:=0) a6;obtain⟨x1,g1⟩:=getq (l:=s) (k:=1) a6;obtain⟨W,g2⟩:=getq (l:=s) (k:=2) a6;obtain⟨P,g3⟩:=getq (l:=s) (k:=3) a6;have ht:=VF g0 g1 g2 g3
 have b:¬(x0=83/\x1=69/\W=69/\P=68)->kN s=N:=λh=>by
  unfold kN;rw[l7 (.inr (.inl (by rw[ht];intro e;simp only[PD,LB]at e;exact h e)))]
 by_cases c0:x0=83
 case neg=>
  rw[m (b (by simp[c0]))];have c0:¬((x0.toNat:Nat):Int)=83:=NP (n:=83) c0 a7;simp only[go_sem,hi,g0,g1,g2,g3,c0,fK];exact⟨_,ku,rfl⟩
 by_cases c1:x1=69
 case neg=>
  rw[m (b (by simp[c1]))];have c0:((x0.toNat:Nat):Int)=83:=by rw[c0];rfl
  have c1:¬((x1.toNat:Nat):Int)=69:=NP (n:=69) c1 a7;simp only[go_sem,hi,g0,g1,g2,g3,c0,c1,fK];exact⟨_,ku,rfl⟩
 by_cases c2:W=69
 case neg=>
  rw[m (b (by simp[c2]))];have c0:((x0.toNat:Nat):Int)=83:=by rw[c0];rfl
  have c1:((x1.toNat:Nat):Int)=69:=by rw[c1];rfl
  have c2:¬((W.toNat:Nat):Int)=69:=NP (n:=69) c2 a7;simp only[go_sem,hi,g0,g1,g2,g3,c0,c1,c2,fK];exact⟨_,ku,rfl⟩
 by_cases c3:P=68
 case neg=>
  rw[m (b (by simp[c3]))];have c0:((x0.toNat:Nat):Int)=83:=by rw[c0];rfl
  have c1:((x1.toNat:Nat):Int)=69:=by rw[c1];rfl
  have c2:((W.toNat:Nat):Int)=69:=by rw[c2];rfl
  have c3:¬((P.toNat:Nat):Int)=68:=NP (n:=68) c3 a7;simp only[go_sem,hi,g0,g1,g2,g3,c0,c1,c2,c3,fK];exact⟨_,ku,rfl⟩
 have b7:s.take 4=[83,69,69,68]:=by rw[ht,c0,c1,c2,c3]
 have c0:((x0.toNat:Nat):Int)=83:=by rw[c0];rfl
 have c1:((x1.toNat:Nat):Int)=69:=by rw[c1];rfl
 have c2:((W.toNat:Nat):Int)=69:=by rw[c2];rfl
 have c3:((P.toNat:Nat):Int)=68:=by rw[c3];rfl
 have hI:=Cq (s:=s) a6 b7;have hW:=NO s;have A:∀k,k+4<=z s-12->True:=λ_ _=>trivial;have I:∀k,12+4*k+4<=z s->(gU (s.drop 12))[k]?=S (fS s (12+4*k)):=λk hk=>tK hk;have x:z (gU (s.drop 12))=(z s-12)/4:=by rw[qS,D4]
 have hn:=tJ s 4;have hd:=tJ s 8;have y:=hW 4 a6 hs;have V:=hW 8 a6 hs;rw[hI];rw[hI]at m;clear hI b ht b7;generalize fS s 4=n at *;generalize fS s 8=d at *;generalize gU (s.drop 12)=xs at *;simp only[go_sem,hi,g0,g1,g2,g3,c0,c1,c2,c3];refine bT rfl X7 ?_;rintro _ rfl;simp only[go_sem];refine bT rfl (by simp only[go_sem];exact V) ?_;rintro _ rfl;have k1:IntKind.i64.wrap ((n:Nat):Int)=((n:Nat):Int):=by rw[wrap_i64]<;>omega
 have k2:IntKind.i64.wrap (4*(n:Int))=((4*n:Nat):Int):=by rw[wrap_i64]<;>omega
 have k3:IntKind.i64.wrap (12+((4*n:Nat):Int))=((12+4*n:Nat):Int):=by rw[wrap_i64]<;>omega
 have k4:IntKind.i64.wrap ((d:Nat):Int)=((d:Nat):Int):=by rw[wrap_i64]<;>omega
 by_cases b1:16384<n
 .rw[l7 (.inl b1)]
  have b1:(16384:Int)<(n:Int):=a6;simp only[go_sem,b1,fK];exact⟨_,ku,rfl⟩
 have u:¬(16384:Int)<(n:Int):=a6;by_cases b2:32768<d
 .rw[l7 (.inr (.inl b2))]
  have b2:(32768:Int)<(d:Int):=a6;simp only[go_sem,u,b2,fK];exact⟨_,ku,rfl⟩
 have L:¬(32768:Int)<(d:Int):=a6;by_cases B:z s=12+4*n
 case neg=>
  rw[l7 (.inr (.inr B))];have B:¬(z s:Int)=((12+4*n:Nat):Int):=a6;simp only[go_sem,u,L,k1,k2,k3,B,fK];exact⟨_,ku,rfl⟩
 have X:(z s:Int)=((12+4*n:Nat):Int):=a6;rw[j8 a6];have G:z xs=n:=a6;simp only[go_sem,u,L,k1,k2,k3,X,k4,fK]
 refine fj (λav K=>∃(k:Nat)(q:C),av+k=n/\K.f 0=sv s/\K.f 4=iv .u32 n/\K.f 7=iv .i64 (k:Nat)/\K.f 2=.one (.ptr 2 (nxC 37 (g 2)) 0)/\K.gen 2=nxC 37 (g 2)/\K.obj 2=S [.d .nsl,.d (.int .i64 0)]/\K.f 6=.one (.ptr 6 (K.gen 6) 0)/\K.obj 6=S [q,.d (.int .i64 d)]/\
  ((k=0/\q=.d .nsl)\/(0<k/\q=.osl 69 (K.gen 69) 1 0 k/\K.obj 69=S (jF (xs.take k))))) n ?_ ?_
 .refine⟨0,.d .nsl,rfl,?_⟩
  simp only[go_sem];exact .inl trivial
 rintro av f g' ob ⟨k,q,hk,q0,q4,q7,q2,p,t,q6,i,Q⟩;simp only at q0 q4 q7 q2 p t q6 i Q;have hw:=ab (k:=k) a6;by_cases af:k<n
 .have H:(k:Int)<(n:Int):=a6
  have k5:IntKind.i64.wrap (4*(k:Int))=((4*k:Nat):Int):=by rw[wrap_i64]<;>omega
  have r:IntKind.i64.wrap (12+((4*k:Nat):Int))=((12+4*k:Nat):Int):=by rw[wrap_i64]<;>omega
  have E:=hW (12+4*k) a6 hs;have O:=I k a6;have c:=tJ s (12+4*k);generalize fS s (12+4*k)=w at E O c;have bl:xs.take (k+1)=xs.take k++[w]:=by rw[B4,O];rfl
  have Z:z (xs.take k)=k:=by rw[C2];omega
  simp only[go_sem,q0,q4,q7,k1,H];refine fV aR mixed [68,69,6] [([6],[0],[],F),([61],[0],[],F),([0],[],[],F),([7],[],[],F),([64],[],[],F),([65],[],[],F),([63,66],[],[],F),([67],[],[0],F),([62,68],[],[1],F),([6],[],[],F),([70,69],[],[],T)] 3 b9 rfl a7 ?_;simp only[go_sem]
  iterate 6 (apply aM;· (intro fa ga oa Y J;simp only[go_sem,q0,q7,q6,i,k5,r]at J|-;exact J))
  refine aM (v:=iv .u32 (w:Nat)) (λfa ga oa Y J=>?_) ?_
  .simp only[go_sem]at J|-
   refine fY (k:=bx Y) rfl (by simp only[go_sem];exact E) Wt ?_;exact oC
  (apply cX;· (intro fa ga oa Y J;simp only[go_sem,aZ]at J|-;exact J))
  rcases Q with⟨an,rfl⟩|⟨an,rfl,o⟩
  ·(apply cX;· (intro fa ga oa Y J;simp only[go_sem,aZ]at J|-;exact⟨⟨a7,a7⟩,J⟩))
   (apply aM;· (intro fa ga oa Y J;simp only[go_sem,q6,i]at J|-;exact J))
   apply db;intro Y b0;simp only[go_sem,q6,i];refine b0 _ ?_;clear b0 Y;simp only[go_sem,q7,hw];refine cZ (av-1) a6 ⟨k+1,.osl 69 (nxC 58 (g' 69)) 1 0 1,a6,?_⟩;simp only[go_sem,q0,q4,q2,p,t,q6];subst an;refine .inr ⟨a6,rfl,?_⟩;rw[bl];rfl
  .have b4:z (jF (xs.take k))=k:=by unfold jF;rw[j5,Z]
   (apply cX;· (intro fa ga oa Y J;simp only[go_sem,o,aZ]at J|-;exact⟨a6,⟨a7,a6⟩,J⟩))
   (apply aM;· (intro fa ga oa Y J;simp only[go_sem,q6,i]at J|-;exact J))
   apply db;intro Y b0;simp only[go_sem,q6,i];refine b0 _ ?_;clear b0 Y;simp only[go_sem,q7,hw];refine cZ (av-1) a6 ⟨k+1,.osl 69 (nxC (apC 57 (g' 69) 0) (g' 69)) 1 0 (k+1),a6,?_⟩;simp only[go_sem,q0,q4,q2,p,t,q6];refine .inr ⟨a6,?_⟩;rw[bl,s6 a6];unfold jF;simp
 .have H:¬(k:Int)<(n:Int):=a6
  obtain rfl:k=n:=a6;rw[s6 a6]at Q;simp only[go_sem,q0,q4,q7,k1,H,q6,i,q2,p,t];refine⟨_,JH (code:=xs) (d:=d) (n:=0) ?_,rfl⟩;rcases Q with⟨an,rfl⟩|⟨an,rfl,o⟩
  .obtain rfl:xs=[]:=r0 a6
   exact .d .nsl
  .exact rm (cells:=jF xs) (off:=0) rfl (by simp[upd,o]) xs (λn=>.int .u32 (n:Nat)) (λ_=>rfl) G (λj a h=>by rw[B9];unfold jF;rw[y7,h];rfl) (by unfold jF;rw[j5];omega)
def JT(code:List Nat)(d:Nat)(hd:d<=32768):aF Tryz.prog 26 [ik (code,d)] (·=stV (Mach.start d)):=by
 refine hdR Tryz.func26 rfl [.cell 2 72] λg=>?_;have k:(d:Int)<=32768:=a6;unfold ik;by_cases a:d=0
 .subst a
  simp only[go_sem];exact⟨_,pV (m:=Mach.start 0) (.d .nsl) rfl,rfl⟩
 .have e:(0:Int)<(d:Int):=a6
  simp only[go_sem,e,k];refine⟨l0 _,a6,a6,_,pV (m:=Mach.start d) ?_ rfl,rfl⟩;exact vN (code:=List.replicate d 0) Wq Wq a8
def DO:Option Nat->AV
 |some x=>.tup [iv .u32 (x:Nat),bv T]
 |none=>.tup [iv .u32 0,bv F]
def Fl(l:List Nat)(b c:Nat)(hl:z l<=1000000)(s:c<65536):aF Tryz.prog 128 [.one (.d (lF l)),iv .u32 b,iv .i64 c] (·=DO (l[(b+c)%4294967296]?)):=by
 refine hdP Tryz.func128 rfl [6,7] λg=>?_;have i:=eE (n:=c) a6;have e:=Fi b c;have m:(b+c)%4294967296<4294967296:=M8 _ a7;generalize (b+c)%4294967296=a at e m|-;have j:=w64 (n:=a) a6;have k:=w64 (n:=z l) a6;have o:(0:Int)<=(a:Int):=a6;unfold lF;by_cases h:a<z l
 .obtain⟨x,I⟩:=getq h
  have hn:¬(z l:Int)<=(a:Int):=a6;have q:(l.map λx=>[D.int .u32 (x:Nat)])[a]?=S [.int .u32 (x:Nat)]:=by rw[y7,I];rfl
  rw[I];simp only[go_sem,i,e,j,k,hn,o,q,j5,DO]
 .have r:(z l:Int)<=(a:Int):=a6
  rw[E0 a6];simp only[go_sem,i,e,j,k,r,j5,DO]
section
def okW(w:Nat):Bool:=okI (w/16777216) (w/1048576%16) (w/65536%16) (w%65536)
def px(w:Nat):List D:=if okW w=T then [.int .i64 (w/16777216:Nat),.int .i64 (w/1048576%16:Nat),.int .i64 (w/65536%16:Nat),.int .i64 (w%65536:Nat)]else [.int .i64 0,.int .i64 0,.int .i64 0,.int .i64 0]
def BE(w:Nat):z (px w)=4:=by unfold px;split<;>rfl
def GL(w:Nat):∀x∈px w,ir x=x:=λx I=>by
 unfold px at I;split at I<;>simp only[y9,A4,E7]at I<;>rcases I with rfl|rfl|rfl|rfl<;>rfl
def fG(l:List Nat):List C:=l.flatMap λw=>(px w).map .d
def xk(l:List Nat):List C:=l.map λw=>.d (.bool (okW w))
def GM(l:List Nat):xk l=l.flatMap λw=>([D.bool (okW w)]).map .d:=by
 unfold xk
 induction l with
 |nil=>rfl
 |cons a l b=>simpa using b
def jh:∀l:List Nat,z (fG l)=4*z l
 |[]=>rfl
 |w::l=>by
   have a:=jh l;unfold fG at a|-;rw[A1,j4,j5,BE,a];simp only[j6];omega
def DP(l:List Nat)(w:Nat):fG (l++[w])=fG l++(px w).map .d:=by unfold fG;rw[J9];simp
def GN(l:List Nat)(w:Nat):xk (l++[w])=xk l++[.d (.bool (okW w))]:=by unfold xk;simp
variable{pre rest:List C}
def XH{p:Nat}(h:z pre=p)(e f W P a b c d:C):((((pre++e::f::W::P::rest).set p a).set (p+1) b).set (p+1+1) c).set (p+1+1+1) d=(pre++[a,b,c,d])++rest:=by
 subst h;rw[show z pre+1+1=z pre+2 from rfl,show z pre+2+1=z pre+3 from rfl];simp
def XI{p:Nat}(h:z pre=p)(b a:C):(pre++b::rest).set p a=(pre++[a])++rest:=by
 subst h;simp
def Rt(w:Nat):AV:=.tup [.agg ((px w).map .d),iv .i64 (if okW w=T then 0 else 7)]
def NQ(w:Nat):Fj w=Rt w:=by
 unfold Fj Rt px okW okI;split<;>rfl
def Ru(code:List Nat)(d:Nat)(hl:z code<=1000000)(o:∀w∈code,w<4294967296):aF Tryz.prog 83 [ik (code,d)] (·=.tup [.one (.d (.sl (code.map px))),.one (.d (.sl (code.map λw=>[.bool (okW w)])))]):=by
 refine hdR Tryz.func83 rfl [.tmp 2,.tmp 3] λg=>?_;have q:(0:Int)<=(z code:Int):=a6;unfold ik gw;simp only[go_sem,j5,q];refine⟨l0 _,a6,a6,l0 _,a6,a6,?_⟩
 refine fj (λn K=>∃k:Nat,n+k=z code/\K.f 1=.one (.ptr 1 (nxC 37 (g 1)) 0)/\K.gen 1=nxC 37 (g 1)/\K.obj 1=S [.d (.sl (code.map λn=>[.int .u32 (n:Nat)])),.d (.int .i64 (d:Nat))]/\K.f 6=iv .i64 k/\
  K.f 4=.one (.osl 12 (K.gen 12) 4 0 (z code))/\K.obj 12=S (fG (code.take k)++(List.replicate n [C.d (.int .i64 0),.d (.int .i64 0),.d (.int .i64 0),.d (.int .i64 0)]).flatten)/\
  K.f 5=.one (.osl 16 (K.gen 16) 1 0 (z code))/\K.obj 16=S (xk (code.take k)++(List.replicate n [C.d (.bool F)]).flatten)) (z code) ?_ ?_
 .refine⟨0,rfl,?_⟩
  simp only[go_sem]
  try exact⟨rfl,rfl⟩
 rintro n f G J ⟨k,hk,q1,i,j,q6,q4,e,q5,h⟩;simp only at q1 i j q6 q4 e q5 h;have hw:=ab (k:=k) a6;cases n with
 |zero=>
   obtain rfl:k=z code:=a6;have u:¬(z code:Int)<(z code:Int):=a6;rw[s6 (l0 _)]at e h;simp only[L1,List.flatten_nil,s5]at e h;simp only[go_sem,q1,i,j,q6,q4,q5,u,j5];exact⟨_,⟨_,⟨_,_,rfl,zy (eG (cells:=fG code) rfl code px (by simp[upd,e]) rfl (λa _=>GL a) (λa _=>BE a) rfl),_,_,rfl,zy (eG (cells:=xk code) rfl code (λw=>[.bool (okW w)]) (by simp[upd,h]) (GM code) (λa _ x I=>by simp only[C6]at I;subst I;rfl) (λ_ _=>rfl) rfl),rfl⟩,rfl⟩,rfl⟩
 |succ m=>
   have v:k<z code:=a6;have H:(k:Int)<(z code:Int):=a6;have an:(0:Int)<=(k:Int):=a6;obtain⟨w,E⟩:=getq v;have y:(code.map λn=>[D.int .u32 (n:Nat)])[k]?=S [.int .u32 (w:Nat)]:=by rw[y7,E];rfl
   have W:=DM w (o w (l5 E));rw[NQ]at W;have Q:code.take (k+1)=code.take k++[w]:=by rw[B4,E];rfl
   have Z:z (code.take k)=k:=by rw[C2];omega
   have dk:z (fG (code.take k))=k*4:=by rw[jh,Z];omega
   have bc:z (xk (code.take k))=k:=by unfold xk;rw[j5,Z]
   have cu:=λx a b c d=>XH (rest:=(List.replicate m [C.d (.int .i64 0),.d (.int .i64 0),.d (.int .i64 0),.d (.int .i64 0)]).flatten) dk x x x x a b c d;have bz:=XI (rest:=(List.replicate m [C.d (.bool F)]).flatten) bc (C.d (.bool F));rw[E6,D8]at e h;have b8:=DP (code.take k) w;have t:=GN (code.take k) w;rw[<-Q]at b8 t;generalize fG (code.take k)=A at e dk cu b8;generalize xk (code.take k)=B at h bc bz t;unfold Rt px at W;unfold px at b8;simp only[go_sem,q1,i,j,q6,H,an,y,j5];cases l:okW w
   .rw[l,j8 a8]at W
    rw[l,j8 a8]at b8;rw[l]at t;simp only[l9,v8,A3,B8]at W b8;exact oR
   .rw[l,l7 rfl]at W
    rw[l,l7 rfl]at b8;rw[l]at t;simp only[l9,v8,B5]at W b8;exact oR
end
end
section
open Go Go.Am Go.Asm Go.Mach
section
structure WC (cs:List C) (code:List Nat) (p:Str) (m:M) (b G q:C):Prop where
 len:cs.length=28
 c0:cs[0]?=some (.d (.int .i64 (m.pc:Nat)))
 rl:m.reg.length=16
 rg:∀a,a<16->cs[1+a]?=some (.d (.int .u32 (m.r a:Nat)))
 c17:cs[17]?=some (b)
 c18:cs[18]?=some (.d (.int .i64 (m.rd:Nat)))
 c19:cs[19]?=some (.d (.str []))
 c20:cs[20]?=some (.d (.int .i64 (m.steps:Nat)))
 c21:cs[21]?=some (.d (.int .i64 (m.fin:Nat)))
 c22:cs[22]?=some (G)
 c23:cs[23]?=some (.d (.sl (code.map px)))
 c24:cs[24]?=some (.d (.sl (code.map λw=>[.bool (okW w)])))
 c25:cs[25]?=some (.d (gw code))
 c26:cs[26]?=some (.d (.str p))
 c27:cs[27]?=some (q)
section
variable{cs:List C}{code:List Nat}{p:Str}{m:M}{b G q:C}
def WC.setReg(h:WC cs code p m b G q){a:Nat}(c:a<16)(x:Nat):WC (cs.set (1+a) (.d (.int .u32 (x:Nat)))) code p {m with reg:=m.reg.set a x} b G q:=by
 have hl:=h.len;refine⟨by simp[h.len],by rw[ar a6];exact h.c0,by simp[h.rl],λk e=>?_,by rw[ar a6];exact h.c17,by rw[ar a6];exact h.c18,by rw[ar a6];exact h.c19,by rw[ar a6];exact h.c20,by rw[ar a6];exact h.c21,by rw[ar a6];exact h.c22,by rw[ar a6];exact h.c23,by rw[ar a6];exact h.c24,by rw[ar a6];exact h.c25,by rw[ar a6];exact h.c26,by rw[ar a6];exact h.c27⟩;rw[Vi h.rl c];by_cases f:k=a
 .subst f;rw[l7 rfl,kr a6]
 .rw[j8 f,ar a6];exact h.rg k e
def WC.setPc(h:WC cs code p m b G q)(n:Nat):WC (cs.set 0 (.d (.int .i64 (n:Nat)))) code p {m with pc:=n} b G q:=
 ⟨by simp[h.len],kr Yd,h.rl,λk a=>by rw[ar a6];exact h.rg k a,by rw[ar a6];exact h.c17,by rw[ar a6];exact h.c18,by rw[ar a6];exact h.c19,by rw[ar a6];exact h.c20,by rw[ar a6];exact h.c21,by rw[ar a6];exact h.c22,by rw[ar a6];exact h.c23,by rw[ar a6];exact h.c24,by rw[ar a6];exact h.c25,by rw[ar a6];exact h.c26,by rw[ar a6];exact h.c27⟩
def WC.setRd(h:WC cs code p m b G q)(n:Nat):WC (cs.set 18 (.d (.int .i64 (n:Nat)))) code p {m with rd:=n} b G q:=
 ⟨by simp[h.len],by rw[ar a6];exact h.c0,h.rl,λk a=>by rw[ar a6];exact h.rg k a,by rw[ar a6];exact h.c17,kr Yd,by rw[ar a6];exact h.c19,by rw[ar a6];exact h.c20,by rw[ar a6];exact h.c21,by rw[ar a6];exact h.c22,by rw[ar a6];exact h.c23,by rw[ar a6];exact h.c24,by rw[ar a6];exact h.c25,by rw[ar a6];exact h.c26,by rw[ar a6];exact h.c27⟩
def WC.setSteps(h:WC cs code p m b G q)(n:Nat):WC (cs.set 20 (.d (.int .i64 (n:Nat)))) code p {m with steps:=n} b G q:=
 ⟨by simp[h.len],by rw[ar a6];exact h.c0,h.rl,λk a=>by rw[ar a6];exact h.rg k a,by rw[ar a6];exact h.c17,by rw[ar a6];exact h.c18,by rw[ar a6];exact h.c19,kr Yd,by rw[ar a6];exact h.c21,by rw[ar a6];exact h.c22,by rw[ar a6];exact h.c23,by rw[ar a6];exact h.c24,by rw[ar a6];exact h.c25,by rw[ar a6];exact h.c26,by rw[ar a6];exact h.c27⟩
def WC.setFin(h:WC cs code p m b G q)(n:Nat):WC (cs.set 21 (.d (.int .i64 (n:Nat)))) code p {m with fin:=n} b G q:=
 ⟨by simp[h.len],by rw[ar a6];exact h.c0,h.rl,λk a=>by rw[ar a6];exact h.rg k a,by rw[ar a6];exact h.c17,by rw[ar a6];exact h.c18,by rw[ar a6];exact h.c19,by rw[ar a6];exact h.c20,kr Yd,by rw[ar a6];exact h.c22,by rw[ar a6];exact h.c23,by rw[ar a6];exact h.c24,by rw[ar a6];exact h.c25,by rw[ar a6];exact h.c26,by rw[ar a6];exact h.c27⟩
def WC.setOut(h:WC cs code p m b G q)(c:C)(o:Str):WC (cs.set 22 (c)) code p {m with out:=o} b c q:=
 ⟨by simp[h.len],by rw[ar a6];exact h.c0,h.rl,λk a=>by rw[ar a6];exact h.rg k a,by rw[ar a6];exact h.c17,by rw[ar a6];exact h.c18,by rw[ar a6];exact h.c19,by rw[ar a6];exact h.c20,by rw[ar a6];exact h.c21,kr Yd,by rw[ar a6];exact h.c23,by rw[ar a6];exact h.c24,by rw[ar a6];exact h.c25,by rw[ar a6];exact h.c26,by rw[ar a6];exact h.c27⟩
end
def mP(l:List Int):List C:=l.map λn=>.d (.int .i64 n)
structure Wn (gr:Nat) (code:List Nat) (p:Str) (m:M) (g:Nat->Nat) (ob:Obs):Prop where
 gen:g 13=gr
 obj:∃cs mi G v,ob 13=some cs/\WC cs code p m (.osl mi (g mi) 1 0 m.mem.length) G (.osl 47 (g 47) 1 0 code.length)/\(mi=24\/mi=27)/\ob mi=some (jF m.mem)/\ob 47=some (mP v)/\v.length=code.length/\
  (G=.osl 38 (g 38) 1 0 m.out.length/\ob 38=some (nz m.out))
end
end
section
open Go Go.Am Go.Asm Go.Mach
attribute[local congr]ite_cc
section
def FrW(g:Nat->Nat)(ob:Obs)(g':Nat->Nat)(Z:Obs):Prop:=∀i,i<3000->i≠13->i≠24->i≠27->i≠47->i≠38->g' i=g i/\Z i=ob i
variable{gr:Nat}{code:List Nat}{p:Str}{g g':Nat->Nat}{ob Z:Obs}{m:M}
def Wn.cells{m m':M}(h:Wn gr code p m g ob){b6:List C}(hg:∀i,(i=13\/i=24\/i=27\/i=47\/i=38)->g' i=g i)(ho:∀i,(i=24\/i=27\/i=47\/i=38)->Z i=ob i)
 (d:Z 13=S b6)(a:m'.mem=m.mem)(I:m'.out=m.out)(V:∀cs b G q,ob 13=S cs->WC cs code p m b G q->WC b6 code p m' b G q):Wn gr code p m' g' Z:=by
 obtain⟨U,cs,mi,G,v,Y,e,f,j,k,l,n⟩:=h;have c:g' mi=g mi/\Z mi=ob mi:=⟨hg mi a6,ho mi a6⟩
 refine⟨by rw[hg 13 a7];exact U,b6,mi,G,v,d,?_,f,by rw[c.2,a];exact j,by rw[ho 47 a7];exact k,l,by rw[hg 38 a7,ho 38 a7,I];exact n⟩;rw[c.1,a,hg 47 a7];exact V cs _ _ _ Y e
def Wn.same(h:Wn gr code p m g ob)(hg:∀i,(i=13\/i=24\/i=27\/i=47\/i=38)->g' i=g i)(ho:∀i,(i=13\/i=24\/i=27\/i=47\/i=38)->Z i=ob i):Wn gr code p m g' Z:=by
 obtain⟨a,_,_,_,Y,_⟩:=id h.obj;exact h.cells (b6:=a) hg (λi b=>ho i a6) (by rw[ho 13 a7];exact Y) rfl rfl λc _ _ _ e r=>by rw[Y]at e;cases e;exact r
def Wn.done{m m':M}{cs b6:List C}(h:Wn gr code p m g ob)(ho:ob 13=S cs)(a:∀i,(i<3000\/i=38)->g' i=g i)(f:∀i,(i≠13/\(i<3000\/i=38))->Z i=ob i)
 (j:Z 13=S b6)(k:m'.mem=m.mem)(I:m'.out=m.out)(V:∀b G q,WC cs code p m b G q->WC b6 code p m' b G q):FrW g ob g' Z/\Wn gr code p m' g' Z:=
 ⟨λi d H _ _ _ _=>⟨a i (.inl d),f i ⟨H,.inl d⟩⟩,h.cells (λi d=>a i a6) (λi d=>f i a6) j k I λc b G q e r=>by rw[ho]at e;cases e;exact V b G q r⟩
def Pq{g:Nat->Nat}{ob:Obs}(h:Wn gr code p m g ob)(a x:Nat)(b:a<16)(q:m.pc<=4294967296000000):
  jl Tryz.prog 127 [.one (.ptr 13 gr 0),iv .i64 a,iv .u32 x] g ob (λ_ g' Z=>FrW g ob g' Z/\Wn gr code p (m.set a x) g' Z):=by
 refine hdF 4000 Tryz.func127 rfl [] ?_;obtain⟨e,j,mi,G,v,ho,V,-⟩:=id h;have l:=ab (k:=m.pc) a6;have hl:=V.len;have n:(0:Int)<=(a:Int):=a6;have u:(j.set (1+a) (.d (.int .u32 (x:Nat))))[0]?=S (.d (.int .i64 (m.pc:Nat))):=by rw[ar a6];exact V.c0
 simp only[go_sem,e,ho,n,u,l];refine⟨a6,a6,?_⟩;exact⟨by simp only[D1];omega,bH (.inr rfl) (h.done ho (λi o=>by (try simp only[upd]);repeat (rw[j8 (by omega)]);try rfl) (λi o=>by (try simp only[upd]);repeat (rw[j8 (by omega)]);try rfl) (by simp[upd]<;>rfl) rfl rfl λ_ _ _ V=>(V.setReg b x).setPc (m.pc+1))⟩
def Rm{g:Nat->Nat}{ob:Obs}(h:Wn gr code p m g ob)(b:Bool)(c:Nat)(q:m.pc<=4294967296000000):
  jl Tryz.prog 129 [.one (.ptr 13 gr 0),bv b,iv .i64 c] g ob (λ_ g' Z=>FrW g ob g' Z/\Wn gr code p {m with pc:=if b=T then c else m.pc+1} g' Z):=by
 refine hdF 4000 Tryz.func129 rfl [] ?_;obtain⟨d,j,mi,G,v,ho,V,-⟩:=id h;have e:=ab (k:=m.pc) a6;have hl:=V.len;cases b
 .simp only[go_sem,d,ho,V.c0,e]
  exact⟨a6,bH (.inr rfl) (h.done ho (λi a=>by (try simp only[upd]);repeat (rw[j8 (by omega)]);try rfl) (λi a=>by (try simp only[upd]);repeat (rw[j8 (by omega)]);try rfl) (by simp[upd]<;>rfl) rfl rfl λ_ _ _ V=>V.setPc (m.pc+1))⟩
 .simp only[go_sem,d,ho]
  exact⟨a6,bH (.inr rfl) (h.done ho (λi a=>by (try simp only[upd]);repeat (rw[j8 (by omega)]);try rfl) (λi a=>by (try simp only[upd]);repeat (rw[j8 (by omega)]);try rfl) (by simp[upd]<;>rfl) rfl rfl λ_ _ _ V=>V.setPc c)⟩
end
def FrW.from{g g':Nat->Nat}{ob ad Z:Obs}{P:Prop}(h:FrW g ad g' Z/\P)(L:∀i,i≠13->i≠47->ad i=ob i):FrW g ob g' Z/\P:=
 ⟨λi a b c d e f=>⟨(h.1 i a b c d e f).1,(h.1 i a b c d e f).2.trans (L i b e)⟩,h.2⟩
def Rn{gr:Nat}{code:List Nat}{p:Str}{m:M}{g:Nat->Nat}{ob:Obs}(h:Wn gr code p m g ob)(bo:∀x∈code,x<4294967296)(B:Mach.Good m)(bf:z m.mem<=1000000)(b4:z code<=1000000)(b7:m.steps<1000000000000)(an:m.rd<=1000000000000)(hf:m.fin=0):
  jl Tryz.prog 84 [.one (.ptr 13 gr 0)] g ob (λ_ g' Z=>FrW g ob g' Z/\Wn gr code p (nT okI code p m) g' Z):=by
 refine hdF 3000 Tryz.func84 rfl [] ?_;obtain⟨hg,cs,mi,G,v,ho,V,bd,cm,c',b5,cb⟩:=id h;have hl:=V.len;have e9:¬(m.pc:Int)<0:=a6;have b':(0:Int)<=(m.pc:Int):=a6;have bs:=ab (k:=m.steps) a6;simp only[go_sem];refine cA b9 ?_;by_cases af:m.pc<z code
 case neg=>
  have a1:(z code:Int)<=(m.pc:Int):=a6;rw[show nT okI code p m = {m with fin:=7} by unfold nT;rw[E0 a6]];simp only[go_sem,hg,ho,V.c0,V.c23,e9,j5,a1];exact⟨a6,bH (.inl rfl) (h.done ho (λi hi=>by (try simp only[upd]);repeat (rw[j8 (by omega)]);try rfl) (λi hi=>by (try simp only[upd]);repeat (rw[j8 (by omega)]);try rfl) (by simp[upd]<;>rfl) rfl rfl λ_ _ _ V=>V.setFin 7)⟩
 have a1:¬(z code:Int)<=(m.pc:Int):=a6;obtain⟨w,hw⟩:=getq af;have hk:=bo w (l5 hw);simp only[go_sem,hg,ho,V.c0,V.c23,V.c20,e9,j5,a1,bs];refine⟨a6,?_⟩;refine cA b9 ?_;have b2:=V.setSteps (m.steps+1);generalize d':cs.set 20 (.d (.int .i64 (m.steps+1:Nat)))=f at b2|-;have c7:=b2.len;obtain⟨n0,bk⟩:=getq (l:=v) (k:=m.pc) a6;have ec:(mP v)[m.pc]?=S (.d (.int .i64 n0)):=by unfold mP;rw[y7,bk];rfl
 have ef:z (mP v)=z code:=by unfold mP;rw[j5,b5]
 have bl:=b2.c0;have cu:=b2.c27;simp only[go_sem,hg,bl,cu,c',b',B9,K9,ec];refine⟨af,af,a6,?_⟩
 have U:Wn gr code p {m with steps:=m.steps+1} g (upd (upd ob 13 (S f)) 47 (S ((mP v).set m.pc (.d (.int .i64 (IntKind.i64.wrap (n0+1))))))):=
  ⟨hg,f,mi,G,v.set m.pc (IntKind.i64.wrap (n0+1)),by simp[upd],b2,bd,by rcases bd with rfl|rfl<;>simpa[upd]using cm,by simp[upd,mP,P9],by rw[D1,b5],by simpa[upd]using cb⟩
 have L:∀i,i≠13->i≠47->(upd (upd ob 13 (S f)) 47 (S ((mP v).set m.pc (.d (.int .i64 (IntKind.i64.wrap (n0+1))))))) i=ob i:=λi a b=>by simp only[upd];rw[j8 b,j8 a]
 have t:(upd (upd ob 13 (S f)) 47 (S ((mP v).set m.pc (.d (.int .i64 (IntKind.i64.wrap (n0+1))))))) 13=S f:=by simp[upd]
 have O:(upd (upd ob 13 (S f)) 47 (S ((mP v).set m.pc (.d (.int .i64 (IntKind.i64.wrap (n0+1))))))) mi=S (jF m.mem):=by rcases bd with rfl|rfl<;>simpa[upd]using cm
 have X:G=.osl 38 (g 38) 1 0 (z m.out)/\(upd (upd ob 13 (S f)) 47 (S ((mP v).set m.pc (.d (.int .i64 (IntKind.i64.wrap (n0+1))))))) 38=S (nz m.out):=by simpa[upd]using cb
 obtain⟨ca,cv,dc⟩:∃ca,(upd (upd ob 13 (S f)) 47 (S ((mP v).set m.pc (.d (.int .i64 (IntKind.i64.wrap (n0+1))))))) 47=S (mP ca)/\z ca=z code:=⟨v.set m.pc (IntKind.i64.wrap (n0+1)),by simp[upd,mP,P9],by rw[D1,b5]⟩
 generalize upd (upd ob 13 (S f)) 47 (S ((mP v).set m.pc (.d (.int .i64 (IntKind.i64.wrap (n0+1))))))=ad at U L t O X cv|-;have b8:Mach.Good {m with steps:=m.steps+1}:=⟨B.len,B.reg,B.mem,by have:=B.pc;show m.pc<=4294967296+(m.steps+1);omega,B.out,B.fin⟩
 have hs:nT okI code p m=if okW w=T then doM code p {m with steps:=m.steps+1} (w/16777216) (w/1048576%16) (w/65536%16) (w%65536)else {m with steps:=m.steps+1,fin:=6}:=by
  unfold nT okW;rw[hw]
 rw[hs];have bz:px w=px w:=rfl
 conv at bz=>rhs;unfold px
 have dd:=b2.c23;have dh:=b2.c24;clear d' hs ec c' b5 bk ef V cb cm ho;refine fV aR mixed [3002] [([0],[0],[],F),([56],[0],[],F),([57],[0],[],F),([58],[0],[],F),([0],[0],[],F),([60],[0],[],F),([61],[0],[],F),([62],[0],[],F),([63],[0],[],F),([59,64],[0],[],F),([65],[0],[],F),([],[],[0],F),([2,66],[],[],T)] 1 b9 rfl a7 ?_;simp only[go_sem];cases hR:okW w
 .rw[hR,j8 a8]at bz
  rw[j8 a8]
  iterate 9 (apply aM;· (intro fa ga oa K' J;simp only[go_sem,hg,t,bl,dd]at J|-;exact J))
  iterate 2 (apply aM;· (intro fa ga oa K' J;simp only[go_sem,b',hw,z8,bz]at J|-;exact J))
  (apply cX;· (intro fa ga oa K' J;simp only[go_sem]at J|-;exact J))
  apply db;intro K' b0;simp only[go_sem];refine b0 _ ?_;clear b0 K';simp only[go_sem];refine cA b9 ?_;simp only[go_sem,hg,t,bl,dh,b',hw,z8,hR];exact⟨a6,bH (.inl rfl) (FrW.from (U.done (m':={m with steps:=m.steps+1,fin:=6}) t (λi hi=>by (try simp only[upd]);repeat (rw[j8 (by omega)]);try rfl) (λi hi=>by (try simp only[upd]);repeat (rw[j8 (by omega)]);try rfl) (by simp[upd]<;>rfl) rfl rfl λ_ _ _ V=>V.setFin 6) L)⟩
 .rw[hR,l7 rfl]at bz
  rw[l7 rfl];obtain⟨p1,p2,p3⟩:=GG (show okI (w/16777216) (w/1048576%16) (w/65536%16) (w%65536)=T from hR);have ha:w/1048576%16<16:=a6;have hb:w/65536%16<16:=a6;have hc:w%65536<65536:=a6;generalize w/16777216=op at bz p1 p2 p3|-;generalize w/1048576%16=a at bz p3 ha|-;generalize w/65536%16=b at bz p3 hb|-;generalize w%65536=c at bz p3 hc|-
  iterate 9 (apply aM;· (intro fa ga oa K' J;simp only[go_sem,hg,t,bl,dd]at J|-;exact J))
  iterate 2 (apply aM;· (intro fa ga oa K' J;simp only[go_sem,b',hw,z8,bz]at J|-;exact J))
  (apply cX;· (intro fa ga oa K' J;simp only[go_sem]at J|-;exact J))
  apply db;intro K' b0;simp only[go_sem];refine b0 _ ?_;clear b0 K';simp only[go_sem];refine cA b9 ?_;simp only[go_sem,hg,t,bl,dh,b',hw,z8,hR];refine cA b9 ?_;have E:=b2.rg a ha;have av:(0:Int)<=(a:Int):=a6;have rb:=b2.rg b hb;have cd:(0:Int)<=(b:Int):=a6;have q:m.pc<=4294967296000000:=by have:=B.pc;omega
  have ht:=B.r a;have hn:=B.r b;have u:=λg2 b3(Y:Wn gr code p {m with steps:=m.steps+1} g2 b3)(x:Nat)=>Pq Y a x ha q;have b1:=λg2 b3(Y:Wn gr code p {m with steps:=m.steps+1} g2 b3)(y:Bool)=>Rm Y y c q;have cf:IntKind.u32.wrap ((c:Nat):Int)=((c:Nat):Int):=eE a6;change f[1+a]?=S (.d (.int .u32 (m.r a:Nat)))at E;change f[1+b]?=S (.d (.int .u32 (m.r b:Nat)))at rb
  have fin:∀{g2:Nat->Nat}{b3:Obs}{m':M}{g':Nat->Nat}{Z:Obs},(∀i,i<3000->g2 i=g i)->(∀i,i<3000->b3 i=ad i)->FrW g2 b3 g' Z->Wn gr code p m' g' Z->FrW g ob g' Z/\Wn gr code p m' g' Z:=λe1 e2 f1 f2=>
   FrW.from (ad:=ad) ⟨λi hi H cx cy cz c1=>by have:=f1 i hi H cx cy cz c1;rw[e1 i hi,e2 i hi]at this;exact this,f2⟩ L
  by_cases o1:op=1
  .subst o1
   rw[show doM code p {m with steps:=m.steps+1} 1 a b c=({m with steps:=m.steps+1}:M).set a c from rfl];simp only[go_sem,hg,t,E,av,cf];refine⟨a6,?_⟩;refine ct rfl (by simp only[go_sem];exact u _ _ (U.same (λi hi=>by (try simp only[upd]);repeat (rw[j8 (by omega)]);try rfl) (λi hi=>by (try simp only[upd]);repeat (rw[j8 (by omega)]);try rfl)) c) ?_;exact gD
  by_cases o2:op=2
  .subst o2
   rw[show doM code p {m with steps:=m.steps+1} 2 a b c=({m with steps:=m.steps+1}:M).set a (m.r a%65536+c*65536)from rfl];have e1:((m.r a:Nat):Int).tmod 65536=((m.r a%65536:Nat):Int):=rfl;have e2:IntKind.u32.wrap ((c:Int)*65536)=((c*65536:Nat):Int):=by rw[IntKind.wrap_u32];omega
   have e3:IntKind.u32.wrap (((m.r a%65536:Nat):Int)+((c*65536:Nat):Int))=((m.r a%65536+c*65536:Nat):Int):=by rw[IntKind.wrap_u32];omega
   have e4:IntKind.u32.wrap ((m.r a%65536:Nat):Int)=((m.r a%65536:Nat):Int):=eE a6;simp only[go_sem,hg,t,E,av,cf,e1,e2,e3,e4];refine⟨a6,?_⟩;refine ct rfl (by simp only[go_sem];exact u _ _ (U.same (λi hi=>by (try simp only[upd]);repeat (rw[j8 (by omega)]);try rfl) (λi hi=>by (try simp only[upd]);repeat (rw[j8 (by omega)]);try rfl)) (m.r a%65536+c*65536)) ?_;exact gD
  by_cases o3:op=3
  .subst o3
   rw[show doM code p {m with steps:=m.steps+1} 3 a b c=({m with steps:=m.steps+1}:M).set a (m.r b)from rfl];simp only[go_sem,hg,t,E,av];refine⟨a6,?_⟩;refine cA b9 ?_;simp only[go_sem,hg,t,rb,cd];refine⟨a6,?_⟩;refine ct rfl (by simp only[go_sem];exact u _ _ (U.same (λi hi=>by (try simp only[upd]);repeat (rw[j8 (by omega)]);try rfl) (λi hi=>by (try simp only[upd]);repeat (rw[j8 (by omega)]);try rfl)) (m.r b)) ?_;exact gD
  by_cases e5:op=18
  .subst e5
   rw[show doM code p {m with steps:=m.steps+1} 18 a b c = {m with steps:=m.steps+1,pc:=c}from rfl];simp only[go_sem,hg,t,E,av];exact⟨a6,a6,bH (.inr rfl) (FrW.from (U.done (m':={m with steps:=m.steps+1,pc:=c}) t (λi hi=>by (try simp only[upd]);repeat (rw[j8 (by omega)]);try rfl) (λi hi=>by (try simp only[upd]);repeat (rw[j8 (by omega)]);try rfl) (by simp[upd]<;>rfl) rfl rfl λ_ _ _ V=>V.setPc c) L)⟩
  by_cases e6:op=19
  .subst e6
   rw[show doM code p {m with steps:=m.steps+1} 19 a b c = {m with steps:=m.steps+1,pc:=if m.r a=0 then c else m.pc+1}from rfl];by_cases hz:m.r a=0
   .have e:((m.r a:Nat):Int)=0:=a6
    rw[l7 hz];exact so
   .have e:¬((m.r a:Nat):Int)=0:=a6
    rw[j8 hz];exact sg
  by_cases e7:op=20
  .subst e7
   rw[show doM code p {m with steps:=m.steps+1} 20 a b c = {m with steps:=m.steps+1,pc:=if m.r a=0 then m.pc+1 else c}from rfl];by_cases hz:m.r a=0
   .have e:((m.r a:Nat):Int)=0:=a6
    rw[l7 hz];exact sg
   .have e:¬((m.r a:Nat):Int)=0:=a6
    rw[j8 hz];exact so
  by_cases e8:op=22
  .subst e8
   rw[show doM code p {m with steps:=m.steps+1} 22 a b c = {m with steps:=m.steps+1,pc:=m.r a}from rfl];have e':IntKind.i64.wrap ((m.r a:Nat):Int)=((m.r a:Nat):Int):=by rw[wrap_i64]<;>omega
   simp only[go_sem,hg,t,E,av,e'];exact⟨a6,a6,bH (.inr rfl) (FrW.from (U.done (m':={m with steps:=m.steps+1,pc:=m.r a}) t (λi hi=>by (try simp only[upd]);repeat (rw[j8 (by omega)]);try rfl) (λi hi=>by (try simp only[upd]);repeat (rw[j8 (by omega)]);try rfl) (by simp[upd]<;>rfl) rfl rfl λ_ _ _ V=>V.setPc (m.r a)) L)⟩
  by_cases fl:op=26
  .subst fl
   rw[show doM code p {m with steps:=m.steps+1} 26 a b c = {m with steps:=m.steps+1,fin:=1}from rfl];simp only[go_sem,hg,t,E,av];exact⟨a6,a6,bH (.inr rfl) (FrW.from (U.done (m':={m with steps:=m.steps+1,fin:=1}) t (λi hi=>by (try simp only[upd]);repeat (rw[j8 (by omega)]);try rfl) (λi hi=>by (try simp only[upd]);repeat (rw[j8 (by omega)]);try rfl) (by simp[upd]<;>rfl) rfl rfl λ_ _ _ V=>V.setFin 1) L)⟩
  by_cases fm:op=25
  .subst fm
   rw[show doM code p {m with steps:=m.steps+1} 25 a b c=(if c<=m.r a then({m with steps:=m.steps+1,fin:=3}:M)else {m with steps:=m.steps+1,pc:=m.pc+1})from rfl];have ch:=ab (k:=m.pc) a6;by_cases hz:c<=m.r a
   .have e:((c:Nat):Int)<=((m.r a:Nat):Int):=a6
    rw[l7 hz];simp only[go_sem,hg,t,E,av,cf,e];exact⟨a6,a6,bH (.inl rfl) (FrW.from (U.done (m':={m with steps:=m.steps+1,fin:=3}) t (λi hi=>by (try simp only[upd]);repeat (rw[j8 (by omega)]);try rfl) (λi hi=>by (try simp only[upd]);repeat (rw[j8 (by omega)]);try rfl) (by simp[upd]<;>rfl) rfl rfl λ_ _ _ V=>V.setFin 3) L)⟩
   .have e:¬((c:Nat):Int)<=((m.r a:Nat):Int):=a6
    rw[j8 hz];simp only[go_sem,hg,t,E,av,cf,e,bl,ch];exact⟨a6,a6,bH (.inr rfl) (FrW.from (U.done (m':={m with steps:=m.steps+1,pc:=m.pc+1}) t (λi hi=>by (try simp only[upd]);repeat (rw[j8 (by omega)]);try rfl) (λi hi=>by (try simp only[upd]);repeat (rw[j8 (by omega)]);try rfl) (by simp[upd]<;>rfl) rfl rfl λ_ _ _ V=>V.setPc (m.pc+1)) L)⟩
  by_cases fo:op=21
  .subst fo
   rw[show doM code p {m with steps:=m.steps+1} 21 a b c = {m with steps:=m.steps+1,reg:=m.reg.set a ((m.pc+1)%4294967296),pc:=c}from rfl];have e1:IntKind.u32.wrap ((m.pc:Nat):Int)=((m.pc%4294967296:Nat):Int):=w32 _;have e2:IntKind.u32.wrap (((m.pc%4294967296:Nat):Int)+1)=(((m.pc+1)%4294967296:Nat):Int):=by rw[IntKind.wrap_u32];omega
   simp only[go_sem,hg,t,E,av];refine⟨a6,?_⟩;refine cA b9 ?_;simp only[go_sem,hg,t,bl,av,e1,e2];refine⟨a6,a6,?_⟩;exact⟨by simp only[D1];omega,bH (.inr rfl) (FrW.from (U.done (m':={m with steps:=m.steps+1,reg:=m.reg.set a ((m.pc+1)%4294967296),pc:=c}) t (λi hi=>by (try simp only[upd]);repeat (rw[j8 (by omega)]);try rfl) (λi hi=>by (try simp only[upd]);repeat (rw[j8 (by omega)]);try rfl) (by simp[upd]<;>rfl) rfl rfl λ_ _ _ V=>(V.setReg ha _).setPc c) L)⟩
  by_cases fr:op=23
  .subst fr
   have dk:¬(m.rd:Int)<0:=a6;have dz:(0:Int)<=(m.rd:Int):=a6;have ek:=ab (k:=m.rd) a6;have c2:=b2.c18;have c4:=b2.c26;cases I:p[m.rd]? with
   |none=>
     have c6:(z p:Int)<=(m.rd:Int):=by have:=Q8.1 I;omega
     rw[show doM code p {m with steps:=m.steps+1} 23 a b c=({m with steps:=m.steps+1}:M).set a 256 by show (match p[m.rd]? with|some x=>_|none=>_)=_;rw[I]];simp only[go_sem,hg,t,E,av];refine⟨a6,?_⟩;refine cA b9 ?_;simp only[go_sem,hg,t,c2,c4,dk,c6];refine ct rfl (by simp only[go_sem];exact u _ _ (U.same (λi hi=>by (try simp only[upd]);repeat (rw[j8 (by omega)]);try rfl) (λi hi=>by (try simp only[upd]);repeat (rw[j8 (by omega)]);try rfl)) 256) ?_;rintro r g' Z ⟨f1,f2⟩;simp only[go_sem];exact bH (.inl rfl) (fin (λi hi=>by (try simp only[upd]);repeat (rw[j8 (by omega)]);try rfl) (λi hi=>by (try simp only[upd]);repeat (rw[j8 (by omega)]);try rfl) f1 f2)
   |some x=>
     have hq:=(l8.1 I).1;have c6:¬(z p:Int)<=(m.rd:Int):=a6;have hv:=x.toNat_lt;rw[show doM code p {m with steps:=m.steps+1} 23 a b c=({m with steps:=m.steps+1,rd:=m.rd+1}:M).set a x.toNat by show (match p[m.rd]? with|some x=>_|none=>_)=_;rw[I];rfl];simp only[go_sem,hg,t,E,av];refine⟨a6,?_⟩;refine cA b9 ?_;simp only[go_sem,hg,t,c2,c4,dk,c6];refine cA b9 ?_;simp only[go_sem,hg,t,c2,c4,dz,I,ek,eE (show x.toNat<4294967296 by omega)];refine⟨a6,?_⟩;refine ct rfl (by simp only[go_sem];exact Pq (m:={m with steps:=m.steps+1,rd:=m.rd+1}) ((U.done (m':={m with steps:=m.steps+1,rd:=m.rd+1}) t (λi hi=>by (try simp only[upd]);repeat (rw[j8 (by omega)]);try rfl) (λi hi=>by (try simp only[upd]);repeat (rw[j8 (by omega)]);try rfl) (by simp[upd]<;>rfl) rfl rfl λ_ _ _ V=>V.setRd (m.rd+1)).2) a x.toNat ha q) ?_;rintro r g' Z ⟨f1,f2⟩;simp only[go_sem];refine bH (.inr rfl) (FrW.from (ad:=ad) ⟨λi hi H cx cy cz c1=>?_,f2⟩ L);have:=f1 i hi H cx cy cz c1;simp only[upd]at this
     repeat rw[j8 (by omega)]at this
     exact this
  by_cases fs:op=16
  .subst fs
   have Q:=b2.c17;have hF:=Fl m.mem (m.r b) c bf hc;have o:mi≠13/\mi≠3002:=a6;simp only[go_sem,hg,t,E,av];refine⟨a6,?_⟩;simp only[go_sem,hg,t,Q];refine dC aR mixed b9 ?_;simp only[go_sem,hg,t,rb,cd];refine⟨a6,?_⟩
   have eo:∀{s:St}(x y:D),s.gen mi=g mi->s.obj mi=S (jF m.mem)->eu s [.one (.osl mi (g mi) 1 0 (z m.mem)),.one (.d x),.one (.d y)] [.one (.d (lF m.mem)),.one (.d (ir x)),.one (.d (ir y))]:=λx y e1 e2=>
    Rv (zy (rm (cells:=jF m.mem) (off:=0) e1 e2 m.mem (λn=>.int .u32 (n:Nat)) (λ_=>rfl) rfl (λj a h=>by rw[B9];unfold jF;rw[y7,h];rfl) (by unfold jF;rw[j5];omega))) (kj _) (kj _)
   have e1:∀(x:Nat),(upd g 3002 x) mi=g mi:=λx=>by simp only[upd];rw[j8 o.2]
   cases I:m.mem[(m.r b+c)%4294967296]? with
   |none=>
     rw[I]at hF;unfold DO at hF;rw[show doM code p {m with steps:=m.steps+1} 16 a b c = {m with steps:=m.steps+1,fin:=8} by show (match m.mem[(m.r b+c)%4294967296]? with|some x=>_|none=>_)=_;rw[I]];refine bm rfl hF XV rfl ?_;exact qc
   |some x=>
     rw[I]at hF;unfold DO at hF;rw[show doM code p {m with steps:=m.steps+1} 16 a b c=({m with steps:=m.steps+1}:M).set a x by show (match m.mem[(m.r b+c)%4294967296]? with|some x=>_|none=>_)=_;rw[I]];refine bm rfl hF XV rfl ?_;exact ld
  by_cases fu:op=27
  .subst fu
   have Q:=b2.c17;have dp:=b2.c25;have hF:=Fl code (m.r b) c b4 hc;unfold gw at dp;unfold lF at hF;simp only[go_sem,hg,t,E,av];refine⟨a6,?_⟩;simp only[go_sem,hg,t,Q,dp];refine dC aR mixed b9 ?_;simp only[go_sem,hg,t,rb,cd];refine⟨a6,?_⟩;cases I:code[(m.r b+c)%4294967296]? with
   |none=>
     rw[I]at hF;unfold DO at hF;rw[show doM code p {m with steps:=m.steps+1} 27 a b c = {m with steps:=m.steps+1,fin:=8} by show (match code[(m.r b+c)%4294967296]? with|some x=>_|none=>_)=_;rw[I]];refine bm rfl hF (cC rfl) rfl ?_;exact qc
   |some x=>
     rw[I]at hF;unfold DO at hF;rw[show doM code p {m with steps:=m.steps+1} 27 a b c=({m with steps:=m.steps+1}:M).set a x by show (match code[(m.r b+c)%4294967296]? with|some x=>_|none=>_)=_;rw[I]];refine bm rfl hF (cC rfl) rfl ?_;exact ld
  have ds:=ab (k:=m.pc) a6;by_cases b6:4<=op/\op<=15
  .have et:=p3 b6
   have rc:=b2.rg c et;change f[1+c]?=S (.d (.int .u32 (m.r c:Nat)))at rc;have fw:(0:Int)<=(c:Int):=a6;have hA:=JS op (m.r b) (m.r c) b6.1 b6.2 (B.r b) (B.r c)
   have W:doM code p {m with steps:=m.steps+1} op a b c=match applyN op (m.r b) (m.r c)with|some x=>({m with steps:=m.steps+1}:M).set a x|none=>{m with steps:=m.steps+1,fin:=2}:=by
    obtain rfl|rfl|rfl|rfl|rfl|rfl|rfl|rfl|rfl|rfl|rfl|rfl:op=4\/op=5\/op=6\/op=7\/op=8\/op=9\/op=10\/op=11\/op=12\/op=13\/op=14\/op=15:=a6
    all_goals rfl
   rw[W];clear W;generalize applyN op (m.r b) (m.r c)=res at hA|-;unfold Rh at hA;have k1:¬(op:Int)=1:=a6;have k2:¬(op:Int)=2:=a6;have k3:¬(op:Int)=3:=a6;have fx:¬(op:Int)=16:=a6;have fz:¬(op:Int)=17:=a6;have f':¬(op:Int)=18:=a6;have gb:¬(op:Int)=19:=a6;have gd:¬(op:Int)=20:=a6;have gh:¬(op:Int)=21:=a6;have gi:¬(op:Int)=22:=a6;have gj:¬(op:Int)=23:=a6;have gl:¬(op:Int)=24:=a6;have gm:¬(op:Int)=25:=a6;have gn:¬(op:Int)=26:=a6;have gx:¬(op:Int)=27:=a6;simp only[go_sem,hg,t,E,av,k1,k2,k3,fx,fz,f',gb,gd,gh,gi,gj,gl,gm,gn,gx];refine⟨a6,?_⟩;refine dC aR mixed b9 ?_;simp only[go_sem,hg,t,rb,rc,cd,fw];refine⟨a6,a6,?_⟩;cases res with
   |none=>
     refine bm rfl hA (cC rfl) rfl ?_;simp only[go_sem,hg,t];exact⟨a6,bH (.inl rfl) (FrW.from (U.done (m':={m with steps:=m.steps+1,fin:=2}) t (λi hi=>by (try simp only[upd]);repeat (rw[j8 (by omega)]);try rfl) (λi hi=>by (try simp only[upd]);repeat (rw[j8 (by omega)]);try rfl) (by simp[upd]<;>rfl) rfl rfl λ_ _ _ V=>V.setFin 2) L)⟩
   |some x=>
     refine bm rfl hA (cC rfl) rfl ?_;exact ld
  by_cases hd:op=17
  .subst hd
   have Q:=b2.c17;have o:mi≠13/\mi≠3002/\mi≠47/\mi≠38:=a6;have e2:=Fi (m.r b) c;have A:(m.r b+c)%4294967296<4294967296:=M8 _ a7;rw[show doM code p {m with steps:=m.steps+1} 17 a b c=(if (m.r b+c)%4294967296<z m.mem then({m with steps:=m.steps+1,mem:=m.mem.set ((m.r b+c)%4294967296) (m.r a),pc:=m.pc+1}:M)else {m with steps:=m.steps+1,fin:=8})from rfl];generalize (m.r b+c)%4294967296=at' at e2 A|-;have e3:=w64 (n:=at') a6;have e4:=w64 (n:=z m.mem) a6;have ev:(0:Int)<=(at':Int):=a6;simp only[go_sem,hg,t,E,av];refine⟨a6,?_⟩;refine cA b9 ?_;by_cases hz:at'<z m.mem
   .have e:¬(z m.mem:Int)<=(at':Int):=a6
    have cc:z (jF m.mem)=z m.mem:=by unfold jF;rw[j5]
    rw[l7 hz];simp only[go_sem,hg,t,rb,cd,cf,e2,Q,e3,e4,e,ev,O,o.2.1,A9 o.1,B9,K9,bl,ds];refine⟨a6,hz,a6,?_⟩;refine⟨a6,bH (.inr rfl) (FrW.from (ad:=ad) ⟨λi hi H cx cy cz c1=>⟨(λi hi=>by (try simp only[upd]);repeat (rw[j8 (by omega)]);try rfl) i hi,by simp only[upd];(repeat rw[j8 (by omega)])⟩,⟨by simp[upd,hg],f.set 0 (.d (.int .i64 (m.pc+1:Nat))),mi,G,ca,by simp[upd],?_,bd,?_,?_,dc,?_⟩⟩ L)⟩
    .have hp:=b2.setPc (m.pc+1)
     simp only[upd,D1]
     (repeat rw[j8 (by omega)])
     exact⟨hp.len,hp.c0,hp.rl,hp.rg,hp.c17,hp.c18,hp.c19,hp.c20,hp.c21,hp.c22,hp.c23,hp.c24,hp.c25,hp.c26,hp.c27⟩
    .simp only[upd];(repeat rw[j8 (by omega)]);simp[jF,P9]
    .simp only[upd];(repeat rw[j8 (by omega)]);exact cv
    .simp only[upd];(repeat rw[j8 (by omega)]);exact X
   .have e:(z m.mem:Int)<=(at':Int):=a6
    rw[j8 hz];simp only[go_sem,hg,t,rb,cd,cf,e2,Q,e3,e4,e,o.2.1,O];exact⟨a6,a6,bH (.inl rfl) (FrW.from (U.done (m':={m with steps:=m.steps+1,fin:=8}) t (λi hi=>by (try simp only[upd]);repeat (rw[j8 (by omega)]);try rfl) (λi hi=>by (try simp only[upd]);repeat (rw[j8 (by omega)]);try rfl) (by simp[upd]<;>rfl) rfl rfl λ_ _ _ V=>V.setFin 8) L)⟩
  by_cases hh:op=24
  .subst hh
   have dx:=b2.c22;have bc:=B.out;rw[show doM code p {m with steps:=m.steps+1} 24 a b c=(if 65536<=z m.out then({m with steps:=m.steps+1,fin:=4}:M)else {m with steps:=m.steps+1,out:=m.out++[UInt8.ofNat (m.r a)],pc:=m.pc+1})from rfl];have e1:((m.r a:Nat):Int).tmod 256=((m.r a%256:Nat):Int):=rfl;have e2:IntKind.u32.wrap ((m.r a%256:Nat):Int)=((m.r a%256:Nat):Int):=eE a6;have e3:IntKind.u8.wrap ((m.r a%256:Nat):Int)=((m.r a%256:Nat):Int):=by rw[IntKind.wrap_u8];omega
   have hj:(UInt8.ofNat (m.r a)).toNat=m.r a%256:=by rw[L6]
   obtain⟨rfl,P⟩:=X;have eh:z (nz m.out)=z m.out:=by unfold nz;rw[j5]
   by_cases K:65536<=z m.out
   .have a':(65536:Int)<=(z m.out:Int):=a6
    rw[l7 K];simp only[go_sem,hg,t,E,av,dx,P,a'];exact⟨a6,a6,bH (.inl rfl) (FrW.from (U.done (m':={m with steps:=m.steps+1,fin:=4}) t (λi hi=>by (try simp only[upd]);repeat (rw[j8 (by omega)]);try rfl) (λi hi=>by (try simp only[upd]);repeat (rw[j8 (by omega)]);try rfl) (by simp[upd]<;>rfl) rfl rfl λ_ _ _ V=>V.setFin 4) L)⟩
   .have a':¬(65536:Int)<=(z m.out:Int):=a6
    rw[j8 K];have e0:∀x,(f.set 22 x)[0]?=S (.d (.int .i64 (m.pc:Nat))):=λx=>by rw[ar a6];exact bl
    simp only[go_sem,hg,t,E,av,dx,P,a',e1,e2,e3,aZ,e0,ds];have o:mi≠13/\mi≠3002/\mi≠47/\mi≠38:=a6;refine⟨a6,a6,⟨a7,a6⟩,a6,by simp only[D1];omega,bH (.inr rfl) (FrW.from (ad:=ad) ⟨λi hi H cx cy cz c1=>⟨by simp only[upd];(repeat rw[j8 (by omega)]),by simp only[upd];(repeat rw[j8 (by omega)])⟩,⟨by simp[upd,hg],(f.set 22 (.osl 38 (nxC (apC 5 (g 38) 0) (g 38)) 1 0 (z m.out+1))).set 0 (.d (.int .i64 (m.pc+1:Nat))),mi,(.osl 38 (nxC (apC 5 (g 38) 0) (g 38)) 1 0 (z m.out+1)),ca,by simp[upd],?_,bd,?_,?_,dc,?_,?_⟩⟩ L)⟩
    .have hp:=(b2.setOut (.osl 38 (nxC (apC 5 (g 38) 0) (g 38)) 1 0 (z m.out+1)) (m.out++[UInt8.ofNat (m.r a)])).setPc (m.pc+1)
     simp only[upd]
     (repeat rw[j8 (by omega)])
     exact hp
    .simp only[upd];(repeat rw[j8 (by omega)]);exact O
    .simp only[upd];(repeat rw[j8 (by omega)]);exact cv
    .simp[upd]
    .simp only[upd,B5]
     rw[j8 a7];simp[nz,hj];exact s6 a8
  exfalso;omega
def XG(l:List Int):D:=.sl (l.map λn=>[.int .i64 n])
def WC.state{cs b6:List C}{code:List Nat}{p:Str}{m:M}{b G q:C}(h:WC cs code p m b G q)(hl:z b6=28)(c:∀i,i<22->i≠19->b6[i]?=cs[i]?){o:Str}(ho:b6[19]?=S (.d (.str o))):b6.take 22=stC {m with out:=o} b:=by
 have g:=Fk (m:={m with out:=o}) h.rl b;refine M5 λi=>?_;rw[Hl];by_cases e:i<22
 .rw[l7 e]
  unfold stC;by_cases f:i=0
  .subst f;exact(c 0 a6 a6).trans h.c0
  by_cases U:i<=16
  .obtain⟨a,rfl⟩:∃a,i=a+1:=⟨i-1,a6⟩
   rw[c (a+1) a6 a6,show a+1=1+a by omega,h.rg a a6];rw[show 1+a=a+1 by omega,G1 (by simp[h.rl];omega),l9,v7,P6,y7];have:a<z m.reg:=by rw[h.rl];omega
   rw[y8 this];unfold M.r;rw[D5,y8 this];rfl
  .obtain⟨k,rfl⟩:∃k,i=17+k:=⟨i-17,a6⟩
   rw[E3 (by simp[h.rl])];simp only[j5,j6,h.rl];rw[show 17+k-(16+1)=k by omega];obtain rfl|rfl|rfl|rfl|rfl:k=0\/k=1\/k=2\/k=3\/k=4:=a6
   .exact(c 17 a6 a6).trans h.c17
   .exact(c 18 a6 a6).trans h.c18
   .exact ho
   .exact(c 20 a6 a6).trans h.c20
   .exact(c 21 a6 a6).trans h.c21
 .rw[j8 e,E0 a6]
def DL(l:List Nat):List.map C.d (l.map λx=>[D.int .u32 (x:Nat)]).flatten=jF l:=by
 unfold jF
 induction l with
 |nil=>rfl
 |cons a l b=>simp only[l9,D8,u7,x9,b]
def JO(n:Nat):(List.replicate n [C.d (.int .i64 0)]).flatten=mP (List.replicate n 0):=by
 unfold mP
 induction n with
 |zero=>rfl
 |succ n a=>simp only[E6,D8,l9,u7,x9,a]
def Ro(code:List Nat)(d:Nat)(p:Str)(q:Nat)(hl:z code<=1000000)(bo:∀x∈code,x<4294967296)(hd:d<=32768)(t:q<=500000000000):
  aF Tryz.prog 49 [ik (code,d),sv p,stV (Mach.start d),iv .i64 q] (λr=>∃v:List Int,r=.tup [stV (runM okI code p q (Mach.start d)),.one (.d (XG v))]):=by
 refine hdR Tryz.func49 rfl [.cell 8 72,.tmp 9] λg=>?_;have y:=Ru code d hl bo;have A:stV (Mach.start d)=.agg [.d (.int .i64 0),.d (.int .u32 0),.d (.int .u32 0),.d (.int .u32 0),.d (.int .u32 0),.d (.int .u32 0),.d (.int .u32 0),.d (.int .u32 0),.d (.int .u32 0),.d (.int .u32 0),.d (.int .u32 0),.d (.int .u32 0),.d (.int .u32 0),.d (.int .u32 0),.d (.int .u32 0),.d (.int .u32 0),.d (.int .u32 0),.d (lF (List.replicate d 0)),.d (.int .i64 0),.d (.str []),.d (.int .i64 0),.d (.int .i64 0)]:=rfl;rw[A];have Y:=DL (List.replicate d 0);have bk:∀e∈((List.replicate d 0).map λx=>[D.int .u32 ((x:Nat):Int)]),z e=1:=λe he=>by obtain⟨x,_,rfl⟩:=G3.1 he;rfl
 have ch:z ((List.replicate d 0).map λx=>[D.int .u32 ((x:Nat):Int)])=d:=a8;have cy:(Mach.start d).mem=List.replicate d 0:=rfl;have bf:z (List.replicate d 0)=d:=I0;unfold lF;generalize ((List.replicate d 0).map λx=>[D.int .u32 ((x:Nat):Int)])=W at Y bk ch|-;have bl:(0:Int)<=(z code:Int):=a6;unfold ik at y|-;simp only at y|-;generalize hI:code.map px=I at y;generalize L:(code.map λw=>[D.bool (okW w)])=O at y;unfold gw at y|-;simp only[go_sem];refine bT rfl X7 ?_;rintro _ rfl;simp only[go_sem];refine fV aR mixed [24,12] [([6],[0,1],[],F),([20],[0,1],[],F),([6],[0,1],[],F),([22],[0,1],[],F),([],[1],[0],F),([6],[0,1],[],F),([25],[0,1],[],F),([24,26],[1],[0],F),([6],[0,1],[],F),([28],[0,1],[],F),([6],[0,1],[],F),([30],[0,1],[],F),([6],[0,1],[],F),([32],[0,1],[],F),([21,23,27,29,31,33],[1],[],F),([],[0],[1],F),([12,34],[],[],T)] 2 b9 rfl a7 ?_;simp only[go_sem]
 iterate 4 (apply aM;· (intro fa ga oa K' J;simp only[go_sem]at J|-;exact J))
 (apply cX;· (intro fa ga oa K' J;simp only[go_sem,aZ]at J|-;exact J))
 iterate 2 (apply aM;· (intro fa ga oa K' J;simp only[go_sem]at J|-;exact J))
 (apply cX;· (intro fa ga oa K' J;simp only[go_sem,aZ]at J|-;exact⟨bk,⟨a7,a6⟩,J⟩))
 iterate 7 (apply aM;· (intro fa ga oa K' J;simp only[go_sem]at J|-;exact J))
 (apply cX;· (intro fa ga oa K' J;simp only[go_sem]at J|-;exact J))
 apply db;intro K' b0;simp only[go_sem];refine b0 _ ?_;clear b0 K';simp only[go_sem];refine fV aR mixed [38,47,13] [([12],[0,1,2],[],F),([6],[1,2],[],F),([36],[1,2],[],F),([37],[1,2],[0],F),([10],[0,1,2],[],F),([11],[0,1,2],[],F),([4],[0,1,2],[],F),([41],[0,1,2],[],F),([1],[0,1,2],[],F),([4],[0,2],[],F),([44],[0,2],[],F),([45],[0,2],[],F),([46],[0,2],[1],F),([35,38,39,40,42,43,47],[2],[],F),([],[0,1],[2],F),([13,48],[],[],T)] 3 b9 rfl a7 ?_;simp only[go_sem]
 iterate 3 (apply aM;· (intro fa ga oa K' J;simp only[go_sem]at J|-;exact J))
 (apply cX;· (intro fa ga oa K' J;simp only[go_sem,aZ]at J|-;exact J))
 iterate 8 (apply aM;· (intro fa ga oa K' J;simp only[go_sem,j5]at J|-;exact J))
 (apply cX;· (intro fa ga oa K' J;simp only[go_sem,bl]at J|-;exact⟨l0 _,a6,a6,J⟩))
 (apply aM;· (intro fa ga oa K' J;simp only[go_sem]at J|-;exact J))
 (apply cX;· (intro fa ga oa K' J;simp only[go_sem]at J|-;exact J))
 apply db;intro K' b0;simp only[go_sem];refine b0 _ ?_;clear b0 K';simp only[go_sem];refine fj (λn K=>∃(k:Nat)(m:M),n+k=q/\runM okI code p q (Mach.start d)=runM okI code p n m/\Mach.Good m/\z m.mem=d/\m.steps<=k/\m.rd<=k/\Wn (nxC 169 (g 13)) code p m K.gen K.obj/\K.f 3=iv .i64 q/\K.f 14=iv .i64 k/\K.f 13=.one (.ptr 13 (nxC 169 (g 13)) 0)/\K.f 8=.one (.ptr 8 (nxC 73 (g 8)) 0)/\K.gen 8=nxC 73 (g 8)/\∃Z,K.obj 8=S Z/\z Z=22) q ?_ ?_
 .refine⟨0,Mach.start d,rfl,rfl,qR d,bf,L5 _,L5 _,⟨?_,_,24,_,List.replicate (z code) 0,by simp only[upd,B5]<;>rfl,⟨rfl,rfl,rfl,λa ha=>?_,?_,rfl,rfl,rfl,rfl,rfl,?_,?_,rfl,rfl,?_⟩,.inl rfl,?_,?_,I0,?_,?_⟩,?_⟩
  .simp only[upd,B5]
  .obtain rfl|rfl|rfl|rfl|rfl|rfl|rfl|rfl|rfl|rfl|rfl|rfl|rfl|rfl|rfl|rfl:a=0\/a=1\/a=2\/a=3\/a=4\/a=5\/a=6\/a=7\/a=8\/a=9\/a=10\/a=11\/a=12\/a=13\/a=14\/a=15:=a6
   all_goals rfl
  .rw[show z (Mach.start d).mem=z W by rw[cy,bf,ch]];rfl
  .rw[hI];rfl
  .rw[L];rfl
  .rfl
  .rw[cy,<-Y];rfl
  .rw[<-JO];rfl
  .rfl
  .rfl
  .simp only[go_sem]
   exact⟨_,rfl,rfl⟩
 rintro n f g' ob ⟨k,m,hn,bz,B,a1,b7,an,hW,q3,E,l,c,u,Z,P,hZ⟩;simp only at hW q3 E l c u P;obtain⟨s,cs,mi,G,v,ho,V,bd,cm,c',b5,rfl,av⟩:=id hW;have bs:=ab (k:=k) a6;by_cases ad:k<q/\m.fin=0
 .obtain⟨af,hf⟩:=ad
  have H:(k:Int)<(q:Int):=a6;have a':(m.fin:Int)=0:=a6;simp only[go_sem,q3,E,l,H,s,ho,V.c21,a'];refine ct rfl (by simp only[go_sem,l];exact Rn hW bo B a6 hl a6 a6 hf) ?_;rintro r g2 b3 ⟨f1,f2⟩;obtain⟨Q,n2,n3⟩:=GW (okI:=okI) (code:=code) (p:=p) m;simp only[go_sem,E,bs];refine cZ (n-1) a6 ⟨k+1,nT okI code p m,a6,?_,yc B bo,a6,a6,a6,f2,?_⟩
  .rw[bz,show n=(n-1)+1 by omega,GV hf];rfl
  simp only[go_sem,q3,l,c];have h8:=f1 8 a7 a7 a7 a7 a7 a7;exact⟨h8.1.trans u,Z,h8.2.trans P,hZ⟩
 .have b':runM okI code p q (Mach.start d)=m:=by
   rw[bz];by_cases hf:m.fin=0
   .rw[show n=0 by omega];rfl
   .exact Kd hf n
  rw[b'];have X:(¬(k:Int)<(q:Int))\/((k:Int)<(q:Int)/\¬(m.fin:Int)=0):=a6;have hu:u8s (List.take (z m.out) (nz m.out))=S (m.out.map λb=>((b.toNat:Nat):Int)):=by rw[s6 (by simp[nz])];exact sP _
  have b4:=V.len;have eh:z (nz m.out)=z m.out:=by simp[nz]
  have hb:(List.map (λn:Int=>UInt8.ofNat n.toNat) (List.map (λb:UInt8=>((b.toNat:Nat):Int)) m.out))=m.out:=by
   rw[P6]
   conv=>rhs;rw[<-List.map_id m.out]
   exact P4 λb _=>by simp
  have hL:=V.state (b6:=cs.set 19 (C.d (D.str m.out))) (o:=m.out) (by rw[D1];exact b4) (λi hi bc=>ar a6) (kr a6);have cu:(cs.set 19 (C.d (D.str m.out)))[27]?=S (.osl 47 (g' 47) 1 0 (z code)):=(ar a6).trans V.c27;have U:=Fk (m:={m with out:=m.out}) V.rl (.osl mi (g' mi) 1 0 (z m.mem));have hT:(stC {m with out:=m.out} (.osl mi (g' mi) 1 0 (z m.mem))).take 22=stC {m with out:=m.out} (.osl mi (g' mi) 1 0 (z m.mem)):=s6 a6;rcases X with H|⟨H,a'⟩
  case' inl=>simp only[go_sem,q3,E,l,H,s,ho,V.c22,av,K9,B1,hu,hb]
  case' inr=>simp only[go_sem,q3,E,l,H,s,ho,V.c21,a',V.c22,av,K9,B1,hu,hb]
  all_goals
   refine⟨a6,a6,?_⟩;refine fV aR mixed [8] [([13],[],[],F),([66],[],[],F),([13],[0],[],F),([68],[0],[],F),([8,67],[],[0],F),([69],[],[],T)] 1 b9 rfl a7 ?_;simp only[go_sem]
   (apply aM;· (intro fa ga oa K' J;simp only[go_sem,l,s]at J|-;exact J))
   (apply aM;· (intro fa ga oa K' J;simp only[go_sem,s,B1,hL]at J|-;exact⟨by rw[D1];omega,J⟩))
   (apply aM;· (intro fa ga oa K' J;simp only[go_sem,l,s]at J|-;exact J))
   (apply aM;· (intro fa ga oa K' J;simp only[go_sem,s,cu]at J|-;exact J))
   (apply jO;(focus simp);(focus (intro fa ga oa K' J;simp only[go_sem,c,u,P,U]at J|-;exact⟨a6,J⟩)))
   apply db;intro K' b0;simp only[go_sem];refine b0 _ ?_;clear b0 K';rw[pW (by rw[U];exact hZ)];simp only[go_sem,c,u,hT,U];refine⟨_,⟨_,⟨_,_,rfl,pV (m:=m) ?_ rfl,_,_,rfl,zy ?_,rfl⟩,rfl⟩,v,rfl⟩
   .refine vN rfl ?_ rfl
    rcases bd with rfl|rfl<;>(simp only[upd];(repeat rw[j8 (by decide)]);exact cm)
   .refine rm (cells:=mP v) (off:=0) rfl ?_ v (λn=>.int .i64 n) (λ_=>rfl) b5 (λj a h=>by rw[B9];unfold mP;rw[y7,h];rfl) (by unfold mP;rw[j5];omega)
    simp only[upd];(repeat rw[j8 (by decide)]);exact c'
def Vo(code:List Nat)(d:Nat)(p:Str)(q:Nat)(hl:z code<=1000000)(i:∀x∈code,x<4294967296)(hd:d<=32768)(t:q<=500000000000):
  aF Tryz.prog 25 [ik (code,d),sv p,stV (Mach.start d),iv .i64 q] (·=stV (runM okI code p q (Mach.start d))):=by
 refine hdR Tryz.func25 rfl [.cell 8 72] λg=>?_;have Y:=Ro code d p q hl i hd t;have a:=wC (okI:=okI) (p:=p) i (n:=q) (qR d);generalize runM okI code p q (Mach.start d)=M at Y a|-;unfold ik at Y|-;have A:stV (Mach.start d)=.agg ((stD (Mach.start d)).map .d):=rfl;have e:List.take 22 (List.map C.d (stD (Mach.start d)))=List.map C.d (stD (Mach.start d)):=s6 (by simp[stD,Mach.start]);rw[A]at Y|-;have c:z ((stD M).map C.d)=22:=by simp[stD,a.len]
 have j:((stD M).map C.d).take 22=(stD M).map C.d:=s6 a6;simp only[go_sem,e];refine⟨by simp[stD,Mach.start],?_⟩;refine fY rfl (by simp only[go_sem,e];exact Y) (by simp only[go_sem,e];rfl) ?_;rintro _ ⟨v,rfl⟩;unfold stV;simp only[go_sem,c];rw[pW (by rw[c];rfl)];refine⟨a6,?_⟩;simp only[go_sem,j,c];rw[pW (by rw[c];rfl)];refine⟨a6,?_⟩;rw[j];exact⟨_,pV (m:=M) (b:=.d (lF M.mem)) (.d _) (by unfold stD;rw[A7];rfl),rfl⟩
def NK(code:List Nat)(d:Nat)(p:Str)(q:Nat)(hl:z code<=1000000)(y:∀x∈code,x<4294967296)(hd:d<=32768)(t:q<=500000000000):
  aF Tryz.prog 9 [ik (code,d),sv p,iv .i64 q] (·=Ri (RD okI code d p q)):=by
 refine hdR Tryz.func9 rfl [.cell 6 40] λg=>?_;have U:=JT code d hd;have Y:=Vo code d p q hl y hd t;have a:=wC (okI:=okI) (p:=p) y (n:=q) (qR d);unfold RD;generalize runM okI code p q (Mach.start d)=M at Y a|-;unfold ik at U Y|-;have c:z ((stD M).map C.d)=22:=by simp[stD,a.len]
 have r:∀k,k<5->((stD M).map C.d)[17+k]?=([.d (lF M.mem),.d (.int .i64 (M.rd:Nat)),.d (.str M.out),.d (.int .i64 (M.steps:Nat)),.d (.int .i64 (M.fin:Nat))]:List C)[k]?:=λk G=>by
  have E:(stD M).map C.d=((.int .i64 (M.pc:Nat)::M.reg.map λx=>D.int .u32 (x:Nat)):List D).map C.d++[.d (lF M.mem),.d (.int .i64 (M.rd:Nat)),.d (.str M.out),.d (.int .i64 (M.steps:Nat)),.d (.int .i64 (M.fin:Nat))]:=by
   unfold stD;rw[A7];rfl
  rw[E,E3 (by simp[a.len])];simp only[j5,j6,a.len];rw[show 17+k-(16+1)=k by omega]
 have b:((stD M).map C.d)[19]?=S (.d (.str M.out)):=r 2 a7;have f:((stD M).map C.d)[20]?=S (.d (.int .i64 (M.steps:Nat))):=r 3 a7;have h:((stD M).map C.d)[21]?=S (.d (.int .i64 (M.fin:Nat))):=r 4 a7;clear r;unfold stV at Y;generalize (stD M).map C.d=L at Y c b f h;have H:L.take 22=L:=s6 a6;have I:stV (Mach.start d)=.agg ((stD (Mach.start d)).map .d):=rfl;rw[I]at U;simp only[go_sem];refine fV aR mixed [7] [([3],[0],[],F),([1],[0],[],F),([3],[0],[],F),([10],[0],[],F),([2],[0],[],F),([8,9,11,12],[0],[],F),([],[],[0],F),([7,13],[],[],T)] 1 b9 rfl a7 ?_;simp only[go_sem]
 iterate 3 (apply aM;· (intro s u w o J;simp only[go_sem]at J|-;exact J))
 refine aM (v:=.agg ((stD (Mach.start d)).map .d)) (λs u w o J=>?_) ?_
 .simp only[go_sem]at J|-
  refine fY (k:=bx o) rfl (by simp only[go_sem];exact U) Wt ?_;exact oC
 (apply aM;· (intro s u w o J;simp only[go_sem]at J|-;exact J))
 refine aM (v:=.agg L) (λs u w o J=>?_) ?_
 .simp only[go_sem]at J|-
  refine fY (k:=bx o) rfl (by simp only[go_sem];exact Y) Wt ?_;exact oC
 (apply cX;· (intro s u w o J;simp only[go_sem]at J|-;exact J))
 apply db;intro o A;simp only[go_sem,c];refine A _ ?_;clear A o;rw[pW (by rw[c];rfl)];have i:=c;by_cases B:M.fin=0
 .have e:(M.fin:Int)=0:=a6
  rw[l7 B];have j:(L.set 21 (C.d (D.int .i64 5)))[21]?=S (C.d (D.int .i64 5)):=kr a6;have l:(L.set 21 (C.d (D.int .i64 5)))[20]?=S (.d (.int .i64 (M.steps:Nat))):=by rw[ar a7];exact f
  have m:(L.set 21 (C.d (D.int .i64 5)))[19]?=S (.d (.str M.out)):=by rw[ar a7];exact b
  simp only[go_sem,h,e,j,l,m];exact⟨a6,_,JG,rfl⟩
 .have e:¬(M.fin:Int)=0:=a6
  rw[j8 B];simp only[go_sem,b,f,h,e];exact⟨_,JG,rfl⟩
end
end Go.Proofs.YtednjibjomfhfaaGreatDoor
namespace Go.Proofs.YtednjibjomfhfaaGreatDoor.Low
section
open Go Go.Am Go.Asm Go.Mach
attribute[local congr]ite_cc
def tg(t:Nat)(code:List Nat)(d:Nat):Nat:=8*(t+1)*(z code+d+1)
def F_A(t:Nat)(code:List Nat)(d:Nat)(i:t<=1000)(hl:z code<=1000000)(hd:d<=32768):aF Tryz.prog 10 [iv .i64 t,ik (code,d)] (·=iv .i64 (tg t code d:Nat)):=by
 refine hdP Tryz.func10 rfl [4] λg=>?_;have U:IntKind.i64.wrap ((t:Int)+1)=((t+1:Nat):Int):=by rw[wrap_i64]<;>omega
 have Y:IntKind.i64.wrap (8*((t+1:Nat):Int))=((8*(t+1):Nat):Int):=by rw[wrap_i64]<;>omega
 have a:IntKind.i64.wrap ((z code:Int)+(d:Int))=((z code+d:Nat):Int):=by rw[wrap_i64]<;>omega
 have b:IntKind.i64.wrap (((z code+d:Nat):Int)+1)=((z code+d+1:Nat):Int):=by rw[wrap_i64]<;>omega
 have e:IntKind.i64.wrap (((8*(t+1):Nat):Int)*((z code+d+1:Nat):Int))=(tg t code d:Nat):=by
  have hb:8*(t+1)*(z code+d+1)<=8008*1032769:=Nat.mul_le_mul a6 a6;unfold tg;rw[<-N8,wrap_i64]<;>omega
 unfold ik gw;simp only[go_sem,j5,U,Y,a,b,e]
def aT:Str:=[102,117,110,99,32,109,97,105,110,40,41,32,123,32,112,117,116,40,54,53,41,59,32,125]
def tl:Str:=[102,117,110,99,32,109,97,105,110,40,41,32,123,32,112,117,116,40,54,53,41,32,125]
def Nu:lE tl=([],22,3):=by
 have h:(jW tl).2=(22,3):=b9;unfold lE;simp only;rw[show (jW tl).2.2=3 by rw[h],show (jW tl).2.1=22 by rw[h],l7 a7]
def aB:Str:=[83,69,69,68,6,0,0,0,1,0,0,0,1,0,240,1,65,0,16,1,0,0,16,17,0,0,16,16,0,0,16,24,0,0,0,26]
def aC:List Nat:=[32505857,17825857,286261248,269484032,403701760,436207616]
def a_c:lE aT=(aB,0,0):=b9
def a_r:kN aB=S (aC,1):=b9
def a_z:szP (jW aT).1<=2000:=b9
def a_x:RD okI aC 1 [] (tg 0 aC 1)=(1,[65],6):=b9
def e_c:fC ⟨[],[],[]⟩=(([],0),7):=b9
def w_z:szP (jW tl).1<=2000:=b9
def Vd{P:Program}{X:Nat}{o:cg}{f:FuncId}{R:AV->Prop}(h:bP P X o f [.agg [.d (.sl []),.d (.sl []),.d (.sl [])]] R):bP P X o f [.agg [.d .nsl,.d .nsl,.d .nsl]] R:=
 ⟨h.1,λJ w vs h0 U Y=>h.2 J w vs h0 U (by
  simp only[RVs,RV]at Y|-;obtain⟨u,us,rfl,⟨a,rfl,hl,hc⟩,L⟩:=Y;refine⟨_,us,rfl,⟨a,rfl,hl,λi c hi=>?_⟩,L⟩
  have hn:([.d .nsl,.d .nsl,.d .nsl]:List C)[i]?=S (.d .nsl):=by
   match i,hi with
   |0,_=>rfl
   |1,_=>rfl
   |2,_=>rfl
  have hs:c=.d (.sl []):=by
   match i,hi with
   |0,hi=>cases hi;rfl
   |1,hi=>cases hi;rfl
   |2,hi=>cases hi;rfl
  obtain⟨v,hv,x,I,V⟩:=hc i _ hn;cases I;cases V;exact⟨_,hv,_,hs,.sl0⟩)⟩
def Nv{o:cg}(e:kC o):bP Tryz.prog 4 o 4 [] (·=bv T):=by
 refine hdG Tryz.func4 rfl [.tmp 0] λO bo s0 w0 g=>?_;simp only[go_sem];refine cK rfl (by simp only[go_sem];exact sY e (src:=aT) a_z) ?_;rintro _ rfl;rw[a_c];unfold Bk;simp only[go_sem];refine jU rfl (by simp only[go_sem];exact DN aB a7) ?_;rintro _ rfl;rw[a_r];unfold DD ik;simp only[go_sem];refine dS aR mixed aG [6] [([4],[0],[],F),([4],[0],[],F),([23],[0],[],F),([22,24],[0],[],F),([],[],[0],F),([6,25],[],[],T)] 1 rfl b9 rfl a7 ?_;simp only[go_sem]
 iterate 2 (apply ay;(case hg=>first|exact w8|exact⟨_,rfl,by decide,rfl⟩);(case U=>intro l m n b J;simp only[go_sem]at J|-;exact J))
 refine ay (v:=iv .i64 (tg 0 aC 1:Nat)) w8 (λl m n b J=>?_) ?_
 .simp only[go_sem]at J|-
  refine jU rfl (by simp only[go_sem];exact F_A 0 aC 1 a7 a7 a7) ?_;exact oC
 refine ay (v:=Ri (1,[65],6)) w8 (λl m n b J=>?_) ?_
 .simp only[go_sem]at J|-
  refine jU rfl (by simp only[go_sem];exact NK aC 1 [] (tg 0 aC 1) a7 b9 a7 a7) ?_;rintro _ rfl;rw[a_x];exact Uh
 unfold Ri
 (apply de;(case hg=>first|exact w8|exact⟨_,rfl,by decide,rfl⟩);(case U=>intro l m n b J;simp only[go_sem]at J|-;exact J))
 refine dU w8 ?_;intro b q;simp only[go_sem];refine q _ ?_;clear q b;simp only[go_sem];refine cK rfl (by simp only[go_sem];exact sY e (src:=tl) w_z) ?_;rintro _ rfl;rw[Nu];unfold Bk;simp only[go_sem];refine cK rfl (by simp only[go_sem];exact Vd (EZ e (p:=⟨[],[],[]⟩) b9)) ?_;rintro _ rfl;rw[e_c];unfold sX ik;exact hG
end
end Go.Proofs.YtednjibjomfhfaaGreatDoor.Low
namespace Go.Am
section
attribute[local congr]ite_cc
section
variable{an:Sp}{s:St}{B:(Exit->St->Prop)->St->Prop}{Q:Exit->St->Prop}
def Fb{b:Box B}{q:Box Q}(d:St)(h:an.vs s d)(J:Nat->St->Prop)(n:Nat)(c:J 0 d)
 (V:∀k f g a,k<=n->J k ⟨f,g,a⟩->B (lj (bx λe=>∃H d,H<n-k/\an.vs e d/\∃E,H+E=n/\J E d) q) ⟨f,g,a⟩):rj an b q s:=
 ⟨λm K=>∃k,m+k=n/\J k K,⟨n,d,h,0,rfl,c⟩,λm K⟨k,U,Y⟩=>by
  have:=V k K.f K.gen K.obj a6 Y
  rwa [show n-k=m by omega]at this⟩
def dF{b:Box B}{q:Box Q}(J:Nat->St->Prop)(n:Nat)(h0:J 0 s)
 (V:∀k f g ob,k<=n->J k ⟨f,g,ob⟩->B (lj (bx λs'=>∃H d,H<n-k/\an.vs s' d/\∃E,H+E=n/\J E d) q) ⟨f,g,ob⟩)(hv:∀s,an.vs s s:=by exact λs=>ae.refl s):rj an b q s:=Fb s (hv s) J n h0 V
def bM{J:Nat->St->Prop}{n k:Nat}(h:k<n)(hJ:J (k+1) s)(hv:an.vs s s:=by exact ae.refl _):∃H d,H<n-k/\an.vs s d/\∃E,H+E=n/\J E d:=
 ⟨n-(k+1),s,a6,hv,k+1,a6,hJ⟩
end
end
end Go.Am
namespace Go.Src
section
attribute [local congr] Go.Am.ite_cc
section
mutual
def inE:Ex->Prop
 |.mk _ _ _ _ kids=>z kids<=1000000000000000000/\rN kids
def rN:List Ex->Prop
 |[]=>True
 |e::l=>inE e/\rN l
end
mutual
def inS:Stm->Prop
 |.mk _ _ e a el=>(z e<=1000000000000000000/\rN e)/\(z a<=1000000000000000000/\qM a)/\(z el<=1000000000000000000/\qM el)
def qM:List Stm->Prop
 |[]=>True
 |e::l=>inS e/\qM l
end
def Jl:∀{l:List Ex}{k:Nat}{e:Ex},rN l->l[k]?=S e->inE e
 |_::_,0,_,h,he=>by cases he;exact h.1
 |_::_,_+1,_,h,he=>Jl h.2 (by simpa using he)
def Jm:∀{l:List Stm}{k:Nat}{e:Stm},qM l->l[k]?=S e->inS e
 |_::_,0,_,h,he=>by cases he;exact h.1
 |_::_,_+1,_,h,he=>Jm h.2 (by simpa using he)
mutual
def nR:Ex->Int->Int->Int
 |.mk _ _ _ name kids,left,b=>if b<=0\/60<(z name:Int)then -1 else dN kids (left-1) (b-1)
def dN:List Ex->Int->Int->Int
 |[],left,_=>left
 |e::l,left,b=>if left<0 then left else dN l (nR e left b) b
end
mutual
def nS:Stm->Int->Int->Int
 |.mk _ name e a el,left,b=>if b<=0\/60<(z name:Int)then -1 else ee el (ee a (dN e (left-1) (b-1)) (b-1)) (b-1)
def ee:List Stm->Int->Int->Int
 |[],left,_=>left
 |e::l,left,b=>if left<0 then left else ee l (nS e left b) b
end
variable{left b:Int}
def Dx(h:left<0):∀l:List Ex,dN l left b=left
 |[]=>rfl
 |e::l=>by rw[dN,l7 h]
def nv(h:left<0):∀l:List Stm,ee l left b=left
 |[]=>rfl
 |e::l=>by rw[ee,l7 h]
mutual
theorem Jn:∀(e:Ex)(left b:Int),nR e left b<0\/nR e left b+szE e=left
 |.mk _ _ _ name kids,left,b=>by
   rw[nR,szE];split
   .omega
   .have:=ta kids (left-1) (b-1);omega
theorem ta:∀(l:List Ex)(left b:Int),dN l left b<0\/dN l left b+aH l=left
 |[],left,b=>by rw[dN,aH];omega
 |e::l,left,b=>by
   rw[dN,aH];split
   .omega
   .have:=Jn e left b
    by_cases h:(nR e left b)<0
    .rw[Dx h];omega
    .have:=ta l (nR e left b) b;omega
end
mutual
theorem Jo:∀(e:Stm)(left b:Int),nS e left b<0\/nS e left b+szS e=left
 |.mk _ name e a el,left,b=>by
   rw[nS,szS];split
   .omega
   .have U:=ta e (left-1) (b-1)
    by_cases h:(dN e (left-1) (b-1))<0
    .rw[nv h,nv h];omega
    have Y:=pT a (dN e (left-1) (b-1)) (b-1);by_cases c:(ee a (dN e (left-1) (b-1)) (b-1))<0
    .rw[nv c];omega
    have d:=pT el (ee a (dN e (left-1) (b-1)) (b-1)) (b-1);omega
theorem pT:∀(l:List Stm)(left b:Int),ee l left b<0\/ee l left b+aE l=left
 |[],left,b=>by rw[ee,aE];omega
 |e::l,left,b=>by
   rw[ee,aE];split
   .omega
   .have:=Jo e left b
    by_cases h:(nS e left b)<0
    .rw[nv h];omega
    .have:=pT l (nS e left b) b;omega
end
mutual
theorem Jp:∀(e:Ex)(left b:Int),0<=left->-1<=nR e left b
 |.mk _ _ _ name kids,left,b,h=>by
   rw[nR];split
   .omega
   .exact tc kids _ _ a6
theorem tc:∀(l:List Ex)(left b:Int),-1<=left->-1<=dN l left b
 |[],left,b,h=>by rw[dN];exact h
 |e::l,left,b,h=>by
   rw[dN];split
   .exact h
   .exact tc l _ _ (Jp e _ _ a6)
end
mutual
theorem Jq:∀(e:Stm)(left b:Int),0<=left->-1<=nS e left b
 |.mk _ name e a el,left,b,h=>by
   rw[nS];split
   .omega
   .exact td el _ _ (td a _ _ (tc e _ _ a6))
theorem td:∀(l:List Stm)(left b:Int),-1<=left->-1<=ee l left b
 |[],left,b,h=>by rw[ee];exact h
 |e::l,left,b,h=>by
   rw[ee];split
   .exact h
   .exact td l _ _ (Jq e _ _ a6)
end
end
end
end Go.Src
namespace Go.Proofs.YtednjibjomfhfaaGreatDoor
section
open Go Go.Am Go.Asm
open Go.Src (Ex Stm szE aH szS aE inE rN inS qM nR dN nS ee)
attribute[local congr]ite_cc
def eH{a:Type}{l:List a}{k:Nat}{e:a}(h:l[k]?=S e):l.drop k=e::l.drop (k+1):=by
 obtain⟨U,rfl⟩:=l8.1 h;exact A8 U
def getD_at{a:Type}{f:a->List D}{l:List a}{k:Nat}{e:a}(h:l[k]?=S e):(l.map f)[k]?=S (f e):=by rw[y7,h];rfl
def Bo:∀(av:Nat)(l:List Ex)(left b:Int),aH l<=av->z l<=1000000000000000000->rN l->(-4000000000000000000<=left/\left<=1000000)->(0<=b/\b<=60)->aF Tryz.prog 57 [dE l,iv .i64 left,iv .i64 b] (·=iv .i64 (dN l left b)):=by
 intro av
 induction av using Nat.strongRecOn with
 |ind av x=>
 intro l left b G hl E y n;refine hdP Tryz.func57 rfl [6] λg=>?_;obtain⟨X,v⟩:∃X,dN l left b=X:=⟨_,rfl⟩
 rw[v];unfold dE;simp only[go_sem];refine dF (λk K=>∃c:Int,dN (l.drop k) c b=X/\(-4000000000000000000<=c/\c<=1000000)/\K.f 0=.one (.d (.sl (l.map exD)))/\K.f 1=iv .i64 c/\K.f 2=iv .i64 b/\K.f 7=iv .i64 k) (z l) ⟨left,v,y,?_⟩ ?_
 .exact hG
 rintro k f I O hk ⟨c,hc,U,q0,i,q2,q7⟩;simp only at q0 i q2 q7;have hw:=ab (k:=k) a6;by_cases af:k<z l
 case neg=>
  have H:¬(k:Int)<(z l:Int):=a6;rw[y2 a6,dN]at hc;simp only[go_sem,q0,i,q2,q7,H,j5,hc]
 have H:(k:Int)<(z l:Int):=a6;by_cases bl:0<=c
 case neg=>
  rw[Src.Dx a6]at hc;subst hc;simp only[go_sem,q0,i,q2,q7,H,j5,bl]
 have o:IntKind.i64.wrap (c-1)=c-1:=wrap_i64 _ a6 a6;have w:IntKind.i64.wrap (b-1)=b-1:=wrap_i64 _ a6 a6;obtain⟨e,j⟩:=getq af;rw[eH j,dN,j8 a6]at hc;have t:=Src.Jl E j;have bc:=Src.se (l5 j);obtain⟨kind,op,num,name,a⟩:=e;have A:exD (.mk kind op num name a)=[.int .i64 kind,.int .i64 op,.int .u32 num,.str name,.sl (a.map exD)]:=by simp only[exD,aA]
 have u:=getD_at (f:=exD) j;rw[A]at u;rw[nR]at hc;rw[szE]at bc;rw[inE]at t;by_cases hd:b<=0
 .rw[l7 (.inl hd),Src.Dx a6]at hc
  simp only[go_sem,q0,i,q2,q7,H,j5,bl,o,hd,<-hc]
 by_cases hn:60<(z name:Int)
 .rw[l7 (.inr hn),Src.Dx a6]at hc
  simp only[go_sem,q0,i,q2,q7,H,j5,bl,o,hd,u,hn,<-hc]
 rw[j8 a6]at hc;have ho:=Src.ta a (c-1) (b-1);have m:=Src.tc a (c-1) (b-1) a6;simp only[go_sem,q0,i,q2,q7,H,j5,bl,o,w,hd,u,hn];refine bT rfl (by simp only[go_sem,w];exact x (aH a) a6 a (c-1) (b-1) (l0 _) t.1 t.2 a6 a6) ?_;exact V0
end
end Go.Proofs.YtednjibjomfhfaaGreatDoor
namespace Go.Src
section
attribute [local congr] Go.Am.ite_cc
open Go.Asm (Str)
def Dz(l:List Str):Bool:=decide (z l<=200)&&l.all λs=>decide ((z s:Int)<=60)
def Nw(left:Int):List Fn->Option Int
 |[]=>S left
 |f::l=>if Dz f.params && Dz f.locals && decide ((z f.name:Int)<=60)then Nw (ee f.body (left-z f.params-z f.locals) 60) l else N
def Ve(p:Prog)(i:Int):Bool:=
 if (Dz p.vars && decide (z p.arrays<=200) && decide (z p.funcs<=70))=F then F
 else if (p.arrays.all λa=>decide ((z a.1:Int)<=60))=F then F
 else match Nw (i-z p.vars-z p.arrays-z p.funcs) p.funcs with
  |some n=>decide (0<=n)
  |none=>F
structure InP (p:Prog):Prop where
 v:p.vars.length<=1000000000000000000
 a:p.arrays.length<=1000000000000000000
 f:p.funcs.length<=1000000000000000000
 fs:∀f∈p.funcs,(f.params.length<=1000000000000000000/\f.locals.length<=1000000000000000000)/\f.body.length<=1000000000000000000/\qM f.body
def Fc:∀(l:List Fn)(left n:Int),Nw left l=S n->n<0\/n+((l.map λf=>z f.params+z f.locals+aE f.body).sum:Nat)<=left
 |[],left,n,h=>by cases h;simp
 |f::l,left,n,h=>by
   rw[Nw]at h;split at h
   .have a:=Fc l _ n h
    simp only[l9,D6];have b:=pT f.body (left-z f.params-z f.locals) 60;omega
   .cases h
def Wu{p:Prog}{i:Nat}(h:Ve p i=T):z p.vars+z p.arrays+z p.funcs+(p.funcs.map λf=>z f.params+z f.locals+aE f.body).sum<=i:=by
 unfold Ve at h;split at h
 .cases h
 split at h
 .cases h
 split at h
 .rename_i n a
  have b:=M4 h;rcases Fc _ _ _ a with U|U<;>omega
 .cases h
end
end Go.Src
namespace Go.Proofs.YtednjibjomfhfaaGreatDoor
section
open Go Go.Am Go.Asm
open Go.Src (Ex Stm szE aH szS aE inE rN inS qM nR dN nS ee)
attribute[local congr]ite_cc
def Bq:∀(av:Nat)(l:List Stm)(left b:Int),aE l<=av->z l<=1000000000000000000->qM l->(-4000000000000000000<=left/\left<=1000000)->(0<=b/\b<=60)->aF Tryz.prog 33 [ed l,iv .i64 left,iv .i64 b] (·=iv .i64 (ee l left b)):=by
 intro av
 induction av using Nat.strongRecOn with
 |ind av v=>
 intro l left b A hl E x n;refine hdP Tryz.func33 rfl [6] λg=>?_;obtain⟨X,w⟩:∃X,ee l left b=X:=⟨_,rfl⟩
 rw[w];unfold ed;simp only[go_sem];refine dF (λk K=>∃c:Int,ee (l.drop k) c b=X/\(-4000000000000000000<=c/\c<=1000000)/\K.f 0=.one (.d (.sl (l.map smD)))/\K.f 1=iv .i64 c/\K.f 2=iv .i64 b/\K.f 7=iv .i64 k) (z l) ⟨left,w,x,?_⟩ ?_
 .exact hG
 rintro k f G I hk ⟨c,hc,O,q0,j,q2,q7⟩;simp only at q0 j q2 q7;have hw:=ab (k:=k) a6;by_cases af:k<z l
 case neg=>
  have H:¬(k:Int)<(z l:Int):=a6;rw[y2 a6,ee]at hc;simp only[go_sem,q0,j,q2,q7,H,j5,hc]
 have H:(k:Int)<(z l:Int):=a6;by_cases bl:0<=c
 case neg=>
  rw[Src.nv a6]at hc;subst hc;simp only[go_sem,q0,j,q2,q7,H,j5,bl]
 have u:IntKind.i64.wrap (c-1)=c-1:=wrap_i64 _ a6 a6;have m:IntKind.i64.wrap (b-1)=b-1:=wrap_i64 _ a6 a6;obtain⟨e,t⟩:=getq af;rw[eH t,ee,j8 a6]at hc;have i:=Src.Jm E t;have bc:=Src.kO (l5 t);obtain⟨kind,name,e,a,el⟩:=e;have y:smD (.mk kind name e a el)=[.int .i64 kind,.str name,.sl (e.map exD),.sl (a.map smD),.sl (el.map smD)]:=by simp only[smD,aA,cT]
 have o:=getD_at (f:=smD) t;rw[y]at o;rw[nS]at hc;rw[szS]at bc;rw[inS]at i;by_cases hd:b<=0
 .rw[l7 (.inl hd),Src.nv a6]at hc
  simp only[go_sem,q0,j,q2,q7,H,j5,bl,u,hd,<-hc]
 by_cases hn:60<(z name:Int)
 .rw[l7 (.inr hn),Src.nv a6]at hc
  simp only[go_sem,q0,j,q2,q7,H,j5,bl,u,hd,o,hn,<-hc]
 rw[j8 a6]at hc;have b1:=Src.ta e (c-1) (b-1);have U:=Src.tc e (c-1) (b-1) a6;have c1:=Src.pT a (dN e (c-1) (b-1)) (b-1);have c2:=Src.td a (dN e (c-1) (b-1)) (b-1) a6;have d1:=Src.pT el (ee a (dN e (c-1) (b-1)) (b-1)) (b-1);have W:=Src.td el (ee a (dN e (c-1) (b-1)) (b-1)) (b-1) a6;simp only[go_sem,q0,j,q2,q7,H,j5,bl,u,m,hd,o,hn];refine bT rfl (by simp only[go_sem,m];exact Bo (aH e) e (c-1) (b-1) (l0 _) i.1.1 i.1.2 a6 a6) ?_;rintro _ rfl;simp only[go_sem,q0,q2,q7,o,m];refine bT rfl (by simp only[go_sem,m];exact v (aE a) a6 a _ (b-1) (l0 _) i.2.1.1 i.2.1.2 a6 a6) ?_;rintro _ rfl;simp only[go_sem,q0,q2,q7,o,m];refine bT rfl (by simp only[go_sem,m];exact v (aE el) a6 el _ (b-1) (l0 _) i.2.2.1 i.2.2.2 a6 a6) ?_;exact V0
def dG{a:Type}{p:a->Bool}{l:List a}{k:Nat}{x:a}{X:Bool}(h:(l.drop k).all p=X)(I:l[k]?=S x):(p x=T->(l.drop (k+1)).all p=X)/\(p x=F->X=F):=by
 rw[eH I,C4]at h;constructor
 .intro e;rw[e,w7]at h;exact h
 .intro e;rw[e,A0]at h;exact h.symm
def ko(l:List Str):AV:=.one (.d (.sl (l.map λs=>[.str s])))
def zo(l:List Str)(hl:z l<=1000000000000000000):aF Tryz.prog 32 [ko l] (·=bv (Src.Dz l)):=by
 refine hdP Tryz.func32 rfl [2] λg=>?_;unfold Src.Dz ko;obtain⟨X,a⟩:∃X,(l.all λs=>decide ((z s:Int)<=60))=X:=⟨_,rfl⟩
 rw[a];simp only[go_sem];refine dF (λk K=>((l.drop k).all λs=>decide ((z s:Int)<=60))=X/\K.f 0=.one (.d (.sl (l.map λs=>[.str s])))/\K.f 3=iv .i64 k) (z l) ⟨a,?_⟩ ?_
 .exact hG
 rintro k f u v w ⟨j,q0,i⟩;simp only at q0 i;have t:=ab (k:=k) a6;by_cases m:k<z l
 case neg=>
  have H:¬(k:Int)<(z l:Int):=a6;rw[y2 a6]at j;have a:X=T:=j.symm;have e:decide ((z l:Int)<=200)=decide (z l<=200):=by congr 1;exact propext ⟨λh=>by omega,λh=>by omega⟩
  simp only[go_sem,q0,i,H,j5,a,I1,e]
 have H:(k:Int)<(z l:Int):=a6;obtain⟨s,o⟩:=getq m;obtain⟨U,Y⟩:=dG j o;have r:=getD_at (f:=λs:Str=>[D.str s]) o;by_cases hn:60<(z s:Int)
 .have a:X=F:=Y (z7 a6)
  simp only[go_sem,q0,i,H,j5,r,hn,a,C3]
 .simp only[go_sem,q0,i,H,j5,r,hn,t]
  refine bM m ⟨U (B3 a6),?_⟩;exact VX
end
end Go.Proofs.YtednjibjomfhfaaGreatDoor

/- A part of the proof; no conditions. -/
import Derived.Test.YtlacbjnmkhndiaaGreatDoorPart14
import Derived.Shelf.SlicesE.Clone
set_option linter.unusedSimpArgs false
set_option linter.unusedVariables false
set_option linter.defProp false
open List renaming length -> z
open Option renaming some -> S, none -> N
open Bool renaming true -> T, false -> F
set_option maxHeartbeats 64000000
set_option maxRecDepth 100000
namespace Go.Mach
section
open Go.Asm (Str)
section
variable{s:Str}
def TV{a b c d:UInt8}(e:s[0]?=S a)(U:s[1]?=S b)(f:s[2]?=S c)(g:s[3]?=S d):s.take 4=[a,b,c,d]:=by
 match s with
 |h::X::i::j::r=>
   simp at e U f g;subst e U f g;rfl
 |[]=>simp at e
 |[_]=>simp at U
 |[_,_]=>simp at f
 |[_,_,_]=>simp at g
def fq(s:Str)(k:Nat):Nat:=w4 (s.getD k 0) (s.getD (k+1) 0) (s.getD (k+2) 0) (s.getD (k+3) 0)
def lh{k:Nat}(h:k<z s):s[k]?=S (s.getD k 0):=by rw[ES,v8 h];rfl
def rY(s:Str)(k:Nat):fq s k<4294967296:=by
 unfold fq w4;have a:=(s.getD k 0).toNat_lt;have b:=(s.getD (k+1) 0).toNat_lt;have Z:=(s.getD (k+2) 0).toNat_lt;have hd:=(s.getD (k+3) 0).toNat_lt;omega
def rZ{o k:Nat}(h:o+4*k+4<=z s):(fU (s.drop o))[k]?=S (fq s (o+4*k)):=by
 unfold fq;refine uY _ _ ?_ ?_ ?_ ?_<;>rw[H0]
 .exact lh a7
 .rw[show o+(4*k+1)=o+4*k+1 by omega];exact lh a7
 .rw[show o+(4*k+2)=o+4*k+2 by omega];exact lh a7
 .rw[show o+(4*k+3)=o+4*k+3 by omega];exact lh a7
def BN(h:12<=z s):fU ((s.take 12).drop 4)=[fq s 4,fq s 8]:=by
 have c:z ((s.take 12).drop 4)=8:=by rw[F7,D1];omega
 have g:=qa ((s.take 12).drop 4);rw[c]at g;have hl:z (s.take 12)=12:=by rw[D1];omega
 have f:∀j,j<12->(s.take 12).getD j 0=s.getD j 0:=λj i=>by
  rw[ES,ES,I1,l8 i]
 have d:=rZ (s:=s.take 12) (o:=4) (k:=0) a7;have e:=rZ (s:=s.take 12) (o:=4) (k:=1) a7;unfold fq at d e;rw[f _ b9,f _ b9,f _ b9,f _ b9]at d e
 match I:fU ((s.take 12).drop 4),g with
 |[a,b],_=>
   rw[I]at d e;simp at d e;rw[d,e];rfl
def Ae(h:12<=z s)(b:s.take 4=[83,69,69,68]):
  ki s=if 16384<fq s 4\/32768<fq s 8\/z s≠12+4*fq s 4 then N else S (fU (s.drop 12),fq s 8):=by
 unfold ki;rw[BN h];simp only;by_cases a:65548<z s
 .rw[l8 (.inr (.inr a)),l8 a7]
 .rw[j8 (by rw[R7,R7];exact⟨a7,λh=>h b,a⟩)]
  by_cases Z:32768<fq s 8\/z s≠12+4*fq s 4
  .rw[l8 Z,l8 (.inr Z)]
  .rw[j8 Z,j8 a7]
end
end
end Go.Mach
namespace Go.Proofs.YtlacbjnmkhndiaaGreatDoor
section
open Go Go.Am Go.Asm Go.Mach Go.Shelf
end
section
open Go Go.Am Go.Asm Go.Mach
def okI(op a b c:Nat):Bool:=eI (op:Nat) (a:Nat) (b:Nat) (c:Nat)
def Ey{op a b c:Nat}(h:okI op a b c=T):1<=op/\op<=27/\(4<=op/\op<=15->c<16):=by
 unfold okI eI at h;rw[s5]at h;obtain⟨U,d⟩:=h;unfold jt at U;rw[s5,B4,B4,B3]at U;refine⟨U.1,U.2,λe=>?_⟩
 have f:Asm.shape op=(T,T,2):=by
  unfold Asm.shape;rw[j8 a7,j8 a7,l8 e]
 rw[B3]at d;unfold pn inW at d;rw[f]at d;simp at d;omega
end
end Go.Proofs.YtlacbjnmkhndiaaGreatDoor
namespace Go.Mach
section
open Go.Asm (Str)
section
section
variable{okI:Nat->Nat->Nat->Nat->Bool}{code:List Nat}{inp:Str}
def LP(m m':M):Prop:=z m'.mem=z m.mem/\m'.steps<=m.steps+1/\m'.rd<=m.rd+1
def LQ{m m1:M}(h:z m1.mem=z m.mem/\m1.steps<=m.steps+1/\m1.rd=m.rd)(op a b c:Nat):LP m (doM code inp m1 op a b c):=by
 obtain⟨U,d,e⟩:=h;have g:LP m m1:=⟨U,d,a7⟩
 have I:∀{pc f:Nat}{r:List Nat}{o:Str},LP m {m1 with pc:=pc,fin:=f,reg:=r,out:=o}:=⟨U,d,by show m1.rd<=_;omega⟩
 unfold doM;refine cY (λ_=>I) λ_=>?_;refine cY (λ_=>I) λ_=>?_;refine cY (λ_=>I) λ_=>?_;refine cY (λ_=>?_) λ_=>?_
 .cases m1.mem[(m1.r b+c)%4294967296]?<;>exact I
 refine cY (λ_=>?_) λ_=>?_
 .cases code[(m1.r b+c)%4294967296]?<;>exact I
 refine cY (λ_=>cY (λ_=>⟨by show z (m1.mem.set _ _)=_;rw[C2];exact U,d,by show m1.rd<=_;omega⟩) λ_=>I) λ_=>?_;refine cY (λ_=>I) λ_=>?_;refine cY (λ_=>I) λ_=>?_;refine cY (λ_=>I) λ_=>?_;refine cY (λ_=>I) λ_=>?_;refine cY (λ_=>I) λ_=>?_;refine cY (λ_=>?_) λ_=>?_
 .cases inp[m1.rd]? with
  |none=>exact I
  |some x=>exact⟨U,d,by show m1.rd+1<=_;omega⟩
 refine cY (λ_=>cY (λ_=>I) λ_=>I) λ_=>?_;refine cY (λ_=>cY (λ_=>I) λ_=>I) λ_=>?_;refine cY (λ_=>I) λ_=>?_;cases applyN op (m1.r b) (m1.r c)<;>exact I
def EJ(m:M):LP m (mV okI code inp m):=by
 unfold mV;cases code[m.pc]? with
 |none=>exact⟨rfl,by show m.steps<=_;omega,by show m.rd<=_;omega⟩
 |some w=>exact cY (λ_=>LQ (m:=m) (m1:={m with steps:=m.steps+1}) ⟨rfl,l7 _,rfl⟩ _ _ _ _) λ_=>⟨rfl,by show m.steps+1<=_;omega,by show m.rd<=_;omega⟩
end
end
end
end Go.Mach
namespace Go.Proofs.YtlacbjnmkhndiaaGreatDoor
section
open Go Go.Am Go.Asm Go.Mach
def stD(m:M):List D:=.int .i64 (m.pc:Nat)::(m.reg.map λx=>.int .u32 (x:Nat))++[kM m.mem,.int .i64 (m.rd:Nat),.str m.out,.int .i64 (m.steps:Nat),.int .i64 (m.fin:Nat)]
def stV(m:M):AV:=.agg ((stD m).map .d)
def Lx{s:St}{A B:List D}{b:C}{x:D}(a:∀y∈A,ge y=y)(hB:∀y∈B,ge y=y)(e:Frz s b x):kR s (.agg (A.map .d++b::B.map .d)) (.agg ((A++x::B).map .d)):=by
 refine⟨A++x::B,a8,λi c Z=>?_,rfl⟩;by_cases U:i<z A
 .rw[F0 (by simpa using U),x8]at Z
  rw[F0 U];cases I:A[i]? with
  |none=>rw[I]at Z;cases Z
  |some y=>
    rw[I]at Z;cases Z;exact⟨y,rfl,by have:=Frz.d (s:=s) y;rwa [a y (l6 I)]at this⟩
 .obtain⟨k,rfl⟩:∃k,i=z A+k:=⟨i-z A,a7⟩
  rw[D4 a8,j6,O6]at Z;rw[D4 a7,O6];cases k with
  |zero=>simp at Z;subst Z;exact⟨x,rfl,e⟩
  |succ k=>
    rw[s9,x8]at Z;rw[s9];cases I:B[k]? with
    |none=>rw[I]at Z;cases Z
    |some y=>
      rw[I]at Z;cases Z;exact⟨y,rfl,by have:=Frz.d (s:=s) y;rwa [hB y (l6 I)]at this⟩
def oV{s:St}{m:M}{b:C}{l:List C}(c:Frz s b (kM m.mem))(hl:l=((.int .i64 (m.pc:Nat)::m.reg.map λx=>D.int .u32 (x:Nat)):List D).map .d++b::([.int .i64 (m.rd:Nat),.str m.out,.int .i64 (m.steps:Nat),.int .i64 (m.fin:Nat)]:List D).map .d):kR s (.agg l) (stV m):=by
 rw[hl];refine Lx (λy a=>?_) (λy a=>?_) c
 .rcases A3.1 a with rfl|a
  .rfl
  .obtain⟨x,_,rfl⟩:=E3.1 a;rfl
 .simp only[A3,List.mem_nil_iff,E6]at a
  rcases a with rfl|rfl|rfl|rfl<;>rfl
def stC(m:M)(b:C):List C:=((.int .i64 (m.pc:Nat)::m.reg.map λx=>D.int .u32 (x:Nat)):List D).map .d++b::([.int .i64 (m.rd:Nat),.str m.out,.int .i64 (m.steps:Nat),.int .i64 (m.fin:Nat)]:List D).map .d
def CY{m:M}(h:z m.reg=16)(b:C):z (stC m b)=22:=by simp[stC,h]
def wy:∀(L pre cells:List C),z cells=z L->setAt (pre++cells) (z pre) L=pre++L
 |[],pre,cells,h=>by
   obtain rfl:=y7 Wl;rfl
 |c::L,pre,x::cells,h=>by
   unfold setAt;have:=wy L (pre++[c]) cells Wl;rw[u7,u7,j7]at this;rw[show (pre++x::cells).set (z pre) c=pre++([c]++cells) by simp];exact this
def oX{L cells:List C}(h:z cells=z L):setAt cells 0 L=L:=wy L [] cells h
def Ly(r:Nat×Str×Nat):AV:=.agg [.d (.int .i64 (r.1:Nat)),.d (.str r.2.1),.d (.int .i64 (r.2.2:Nat))]
def Ib{s:St}{a c:Int}{b:Str}:kR s (.agg [.d (.int .i64 a),.d (.str b),.d (.int .i64 c)]) (.agg [.d (.int .i64 a),.d (.str b),.d (.int .i64 c)]):=by
 refine⟨[.int .i64 a,.str b,.int .i64 c],rfl,λi c l=>?_,rfl⟩
 match i,l with
 |0,l=>cases l;exact⟨_,rfl,.d _⟩
 |1,l=>cases l;exact⟨_,rfl,.d _⟩
 |2,l=>cases l;exact⟨_,rfl,.d _⟩
def Bx:Option (List Nat×Nat)->AV
 |some m=>.tup [eZ m,iv .i64 0]
 |none=>.tup [eZ ([],0),iv .i64 7]
def Ic{s:St}{u:C}{code:List Nat}{d n:Nat}(Z:Frz s u (eO code)):ql s [.agg [u,.d (.int .i64 (d:Nat))],iv .i64 (n:Nat)] (.tup [eZ (code,d),iv .i64 (n:Nat)]):=by
 refine⟨_,⟨eZ (code,d),_,rfl,⟨[eO code,.int .i64 (d:Nat)],rfl,λi c l=>?_,rfl⟩,_,_,rfl,⟨_,.d _,rfl⟩,rfl⟩,rfl⟩
 match i,l with
 |0,l=>cases l;exact⟨_,rfl,Z⟩
 |1,l=>cases l;exact⟨_,rfl,.d _⟩
end
section
open Go Go.Am Go.Asm Go.Mach
attribute[local congr]ite_cc
def BG(w:Nat)(o:w<4294967296):ax Tryz.prog 152 [iv .u32 w] (·=CX w):=by
 refine hdR Tryz.func152 rfl [.cell 2 120,.tmp 3] λg=>?_;have d:((w:Nat):Int).tdiv 16777216=((w/16777216:Nat):Int):=rfl;have e:((w:Nat):Int).tdiv 1048576=((w/1048576:Nat):Int):=rfl;have i:((w:Nat):Int).tdiv 65536=((w/65536:Nat):Int):=rfl;have j:∀x:Nat,((x:Nat):Int).tmod 16=((x%16:Nat):Int):=λ_=>rfl;have l:((w:Nat):Int).tmod 65536=((w%65536:Nat):Int):=rfl;have a:∀x:Nat,x<4294967296->IntKind.i64.wrap ((x:Nat):Int)=((x:Nat):Int):=λx I=>by rw[wrap_i64]<;>omega
 have b:=dK (n:=w/16777216) a7;have c:=dK (n:=w/1048576) a7;have u3:=dK (n:=w/65536) a7;have u4:=dK (n:=w/1048576%16) a7;have u5:=dK (n:=w/65536%16) a7;have W:=dK (n:=w%65536) a7;simp only[go_sem,d,e,i,j,l,b,c,u3,u4,u5,W,a (w/16777216) a7,a (w/1048576%16) a7,a (w/65536%16) a7,a (w%65536) a7,fe];refine bJ rfl (by simp only[go_sem];exact Ge (w/16777216:Nat) (w/1048576%16:Nat) (w/65536%16:Nat) (w%65536:Nat)) ?_;rintro _ rfl;unfold CX;cases p:eI (w/16777216:Nat) (w/1048576%16:Nat) (w/65536%16:Nat) (w%65536:Nat)
 .simp only[go_sem,fe]
  exact⟨_,zI,rfl⟩
 .simp only[go_sem,fe]
  exact⟨_,zI,rfl⟩
def LG(s:Str)(k:Nat)(h:k+4<=z s)(A:z s<=1000000000):ax Tryz.prog 34 [sv s,iv .i64 k] (·=iv .u32 (fq s k:Nat)):=by
 refine hdP Tryz.func34 rfl [4] λg=>?_;have n:=lh (s:=s) (k:=k) a7;have hb:=lh (s:=s) (k:=k+1) a7;have Z:=lh (s:=s) (k:=k+2) a7;have hd:=lh (s:=s) (k:=k+3) a7;unfold fq;generalize s.getD k 0=a at n|-;generalize s.getD (k+1) 0=b at hb|-;generalize s.getD (k+2) 0=c at Z|-;generalize s.getD (k+3) 0=d at hd|-;have l:=a.toNat_lt;have W:=b.toNat_lt;have j:=c.toNat_lt;have m:=d.toNat_lt;have e:IntKind.i64.wrap ((k:Int)+1)=((k+1:Nat):Int):=by rw[wrap_i64]<;>omega
 have f:IntKind.i64.wrap ((k:Int)+2)=((k+2:Nat):Int):=by rw[wrap_i64]<;>omega
 have i:IntKind.i64.wrap ((k:Int)+3)=((k+3:Nat):Int):=by rw[wrap_i64]<;>omega
 have o:(0:Int)<=(k:Int):=a7;have p:(0:Int)<=((k+1:Nat):Int):=a7;have q:(0:Int)<=((k+2:Nat):Int):=a7;have r:(0:Int)<=((k+3:Nat):Int):=a7;have t:IntKind.u32.wrap (256*((b.toNat:Nat):Int))=((256*b.toNat:Nat):Int):=by rw[IntKind.wrap_u32];omega
 have u:IntKind.u32.wrap (65536*((c.toNat:Nat):Int))=((65536*c.toNat:Nat):Int):=by rw[IntKind.wrap_u32];omega
 have v:IntKind.u32.wrap (16777216*((d.toNat:Nat):Int))=((16777216*d.toNat:Nat):Int):=by rw[IntKind.wrap_u32];omega
 have w:IntKind.u32.wrap (((a.toNat:Nat):Int)+((256*b.toNat:Nat):Int))=((a.toNat+256*b.toNat:Nat):Int):=by rw[IntKind.wrap_u32];omega
 have x:IntKind.u32.wrap (((a.toNat+256*b.toNat:Nat):Int)+((65536*c.toNat:Nat):Int))=((a.toNat+256*b.toNat+65536*c.toNat:Nat):Int):=by rw[IntKind.wrap_u32];omega
 have y:IntKind.u32.wrap (((a.toNat+256*b.toNat+65536*c.toNat:Nat):Int)+((16777216*d.toNat:Nat):Int))=((a.toNat+256*b.toNat+65536*c.toNat+16777216*d.toNat:Nat):Int):=by rw[IntKind.wrap_u32];omega
 simp only[go_sem];refine jn c8 ?_;simp only[go_sem,e,f,i,o,p,q,r,B3,n,hb,Z,hd,dK (show a.toNat<4294967296 by omega),dK (show b.toNat<4294967296 by omega),dK (show c.toNat<4294967296 by omega),dK (show d.toNat<4294967296 by omega),t,u,v,w,x,y];rfl
def LH{x:UInt8}{n:Nat}(h:¬x=UInt8.ofNat n)(a:n<256):¬((x.toNat:Nat):Int)=(n:Nat):=λe=>h (P9.1 (by rw[Mt];omega))
def BH(s:Str)(hs:z s<=1000000000):ax Tryz.prog 12 [sv s] (·=Bx (ki s)):=by
 refine hdR Tryz.func12 rfl [.cell 2 31,.tmp 3] λg=>?_;have m:ki s=N->Bx (ki s)=.tup [eZ ([],0),iv .i64 7]:=λh=>by rw[h];rfl
 by_cases U:z s<12
 .have hi:(z s:Int)<12:=a7
  rw[m (by unfold ki;rw[l8 (.inl U)])];simp only[go_sem,hi,fe];exact⟨_,jL,rfl⟩
 have hi:¬(z s:Int)<12:=a7;obtain⟨x0,g0⟩:=getq (l:=s) (k:=0) a7;obtain⟨x1,g1⟩:=getq (l:=s) (k:=1) a7;obtain⟨Z,g2⟩:=getq (l:=s) (k:=2) a7;obtain⟨x3,g3⟩:=getq (l:=s) (k:=3) a7;have ht:=TV g0 g1 g2 g3
 have b:¬(x0=83/\x1=69/\Z=69/\x3=68)->ki s=N:=λh=>by
  unfold ki;rw[l8 (.inr (.inl (by rw[ht];intro e;simp only[P7,L8]at e;exact h e)))]
 by_cases c0:x0=83
 case neg=>
  rw[m (b (by simp[c0]))];have c0:¬((x0.toNat:Nat):Int)=83:=LH (n:=83) c0 b9;simp only[go_sem,hi,g0,g1,g2,g3,c0,fe];exact⟨_,jL,rfl⟩
 by_cases V:x1=69
 case neg=>
  rw[m (b (by simp[V]))];have c0:((x0.toNat:Nat):Int)=83:=by rw[c0];rfl
  have V:¬((x1.toNat:Nat):Int)=69:=LH (n:=69) V b9;simp only[go_sem,hi,g0,g1,g2,g3,c0,V,fe];exact⟨_,jL,rfl⟩
 by_cases W:Z=69
 case neg=>
  rw[m (b (by simp[W]))];have c0:((x0.toNat:Nat):Int)=83:=by rw[c0];rfl
  have V:((x1.toNat:Nat):Int)=69:=by rw[V];rfl
  have W:¬((Z.toNat:Nat):Int)=69:=LH (n:=69) W b9;simp only[go_sem,hi,g0,g1,g2,g3,c0,V,W,fe];exact⟨_,jL,rfl⟩
 by_cases c3:x3=68
 case neg=>
  rw[m (b (by simp[c3]))];have c0:((x0.toNat:Nat):Int)=83:=by rw[c0];rfl
  have V:((x1.toNat:Nat):Int)=69:=by rw[V];rfl
  have W:((Z.toNat:Nat):Int)=69:=by rw[W];rfl
  have c3:¬((x3.toNat:Nat):Int)=68:=LH (n:=68) c3 b9;simp only[go_sem,hi,g0,g1,g2,g3,c0,V,W,c3,fe];exact⟨_,jL,rfl⟩
 have p:s.take 4=[83,69,69,68]:=by rw[ht,c0,V,W,c3]
 have c0:((x0.toNat:Nat):Int)=83:=by rw[c0];rfl
 have V:((x1.toNat:Nat):Int)=69:=by rw[V];rfl
 have W:((Z.toNat:Nat):Int)=69:=by rw[W];rfl
 have c3:((x3.toNat:Nat):Int)=68:=by rw[c3];rfl
 have hI:=Ae (s:=s) a7 p;have hW:=LG s;have b4:∀k,k+4<=z s-12->True:=λ_ _=>trivial;have I:∀k,12+4*k+4<=z s->(fU (s.drop 12))[k]?=S (fq s (12+4*k)):=λk hk=>rZ hk;have x:z (fU (s.drop 12))=(z s-12)/4:=by rw[qa,F7]
 have hn:=rY s 4;have hd:=rY s 8;have t:=hW 4 a7 hs;have O:=hW 8 a7 hs;rw[hI];rw[hI]at m;clear hI b ht p;generalize fq s 4=n at *;generalize fq s 8=d at *;generalize fU (s.drop 12)=xs at *;simp only[go_sem,hi,g0,g1,g2,g3,c0,V,W,c3];refine bJ rfl (by simp only[go_sem];exact t) ?_;rintro _ rfl;simp only[go_sem];refine bJ rfl (by simp only[go_sem];exact O) ?_;rintro _ rfl;have k1:IntKind.i64.wrap ((n:Nat):Int)=((n:Nat):Int):=by rw[wrap_i64]<;>omega
 have k2:IntKind.i64.wrap (4*(n:Int))=((4*n:Nat):Int):=by rw[wrap_i64]<;>omega
 have k3:IntKind.i64.wrap (12+((4*n:Nat):Int))=((12+4*n:Nat):Int):=by rw[wrap_i64]<;>omega
 have k4:IntKind.i64.wrap ((d:Nat):Int)=((d:Nat):Int):=by rw[wrap_i64]<;>omega
 by_cases b1:16384<n
 .rw[l8 (.inl b1)]
  have b1:(16384:Int)<(n:Int):=a7;simp only[go_sem,b1,fe];exact⟨_,jL,rfl⟩
 have y:¬(16384:Int)<(n:Int):=a7;by_cases b2:32768<d
 .rw[l8 (.inr (.inl b2))]
  have b2:(32768:Int)<(d:Int):=a7;simp only[go_sem,y,b2,fe];exact⟨_,jL,rfl⟩
 have A:¬(32768:Int)<(d:Int):=a7;by_cases b3:z s=12+4*n
 case neg=>
  rw[l8 (.inr (.inr b3))];have b3:¬(z s:Int)=((12+4*n:Nat):Int):=a7;simp only[go_sem,y,A,k1,k2,k3,b3,fe];exact⟨_,jL,rfl⟩
 have Q:(z s:Int)=((12+4*n:Nat):Int):=a7;rw[j8 a7];have L:z xs=n:=a7;simp only[go_sem,y,A,k1,k2,k3,Q,k4,fe]
 refine eF (λal K=>∃(k:Nat)(u:C),al+k=n/\K.f 0=sv s/\K.f 4=iv .u32 n/\K.f 7=iv .i64 (k:Nat)/\K.f 2=.one (.ptr 2 (nxC 32 (g 2)) 0)/\K.gen 2=nxC 32 (g 2)/\K.obj 2=S [.d .nsl,.d (.int .i64 0)]/\K.f 6=.one (.ptr 6 (K.gen 6) 0)/\K.obj 6=S [u,.d (.int .i64 d)]/\
  ((k=0/\u=.d .nsl)\/(0<k/\u=.osl 69 (K.gen 69) 1 0 k/\K.obj 69=S (ji (xs.take k))))) n ?_ ?_
 .refine⟨0,.d .nsl,rfl,?_⟩
  simp only[go_sem];exact .inl trivial
 rintro al f g' ob ⟨k,u,hk,q0,q4,q7,q2,q,r,q6,i,H⟩;simp only at q0 q4 q7 q2 q r q6 i H;have hw:=ac (k:=k) a7;by_cases af:k<n
 .have G:(k:Int)<(n:Int):=a7
  have k5:IntKind.i64.wrap (4*(k:Int))=((4*k:Nat):Int):=by rw[wrap_i64]<;>omega
  have P:IntKind.i64.wrap (12+((4*k:Nat):Int))=((12+4*k:Nat):Int):=by rw[wrap_i64]<;>omega
  have E:=hW (12+4*k) a7 hs;have B:=I k a7;have c:=rY s (12+4*k);generalize fq s (12+4*k)=w at E B c;have av:xs.take (k+1)=xs.take k++[w]:=by rw[D0,B];rfl
  have Y:z (xs.take k)=k:=by rw[D1];omega
  simp only[go_sem,q0,q4,q7,k1,G];refine fL aA mixed [68,69,6] [([6],[0],[],F),([61],[0],[],F),([0],[],[],F),([7],[],[],F),([64],[],[],F),([65],[],[],F),([63,66],[],[],F),([67],[],[0],F),([62,68],[],[1],F),([6],[],[],F),([70,69],[],[],T)] 3 c8 rfl b9 ?_;simp only[go_sem]
  iterate 6 (apply aI;· (intro fa ga oa X J;simp only[go_sem,q0,q7,q6,i,k5,P]at J|-;exact J))
  refine aI (v:=iv .u32 (w:Nat)) (λfa ga oa X J=>?_) ?_
  .simp only[go_sem]at J|-
   refine fD (k:=bx X) rfl (by simp only[go_sem];exact E) VG ?_;exact SF
  (apply cJ;· (intro fa ga oa X J;simp only[go_sem,aW]at J|-;exact J))
  rcases H with⟨bf,rfl⟩|⟨bf,rfl,o⟩
  ·(apply cJ;· (intro fa ga oa X J;simp only[go_sem,aW]at J|-;exact⟨⟨b9,b9⟩,J⟩))
   (apply aI;· (intro fa ga oa X J;simp only[go_sem,q6,i]at J|-;exact J))
   apply cL;intro X a';simp only[go_sem,q6,i];refine a' _ ?_;clear a' X;simp only[go_sem,q7,hw];refine cH (al-1) a7 ⟨k+1,.osl 69 (nxC 40 (g' 69)) 1 0 1,a7,?_⟩;simp only[go_sem,q0,q4,q2,q,r,q6];subst bf;refine .inr ⟨a7,rfl,?_⟩;rw[av];rfl
  .have b0:z (ji (xs.take k))=k:=by unfold ji;rw[j6,Y]
   (apply cJ;· (intro fa ga oa X J;simp only[go_sem,o,aW]at J|-;exact⟨a7,⟨b9,a7⟩,J⟩))
   (apply aI;· (intro fa ga oa X J;simp only[go_sem,q6,i]at J|-;exact J))
   apply cL;intro X a';simp only[go_sem,q6,i];refine a' _ ?_;clear a' X;simp only[go_sem,q7,hw];refine cH (al-1) a7 ⟨k+1,.osl 69 (nxC (apC 39 (g' 69) 0) (g' 69)) 1 0 (k+1),a7,?_⟩;simp only[go_sem,q0,q4,q2,q,r,q6];refine .inr ⟨a7,?_⟩;rw[av,s6 a7];unfold ji;simp
 .have G:¬(k:Int)<(n:Int):=a7
  obtain rfl:k=n:=a7;rw[s6 a7]at H;simp only[go_sem,q0,q4,q7,k1,G,q6,i,q2,q,r];refine⟨_,Ic (code:=xs) (d:=d) (n:=0) ?_,rfl⟩;rcases H with⟨bf,rfl⟩|⟨bf,rfl,o⟩
  .obtain rfl:xs=[]:=y7 a7
   exact .d .nsl
  .exact qh (cells:=ji xs) (off:=0) rfl (by simp[upd,o]) xs (λn=>.int .u32 (n:Nat)) (λ_=>rfl) L (λj a h=>by rw[C7];unfold ji;rw[x8,h];rfl) (by unfold ji;rw[j6];omega)
def Im(code:List Nat)(d:Nat)(hd:d<=32768):ax Tryz.prog 36 [eZ (code,d)] (·=stV (Mach.start d)):=by
 refine hdR Tryz.func36 rfl [.cell 2 91] λg=>?_;have k:(d:Int)<=32768:=a7;unfold eZ;by_cases a:d=0
 .subst a
  simp only[go_sem];exact⟨_,oV (m:=Mach.start 0) (.d .nsl) rfl,rfl⟩
 .have h:(0:Int)<(d:Int):=a7
  simp only[go_sem,h,k];refine⟨l7 _,a7,a7,_,oV (m:=Mach.start d) ?_ rfl,rfl⟩;exact uq (code:=List.replicate d 0) VF VF a8
def BI:Option Nat->AV
 |some x=>.tup [iv .u32 (x:Nat),bv T]
 |none=>.tup [iv .u32 0,bv F]
def Da(l:List Nat)(b c:Nat)(hl:z l<=1000000)(Z:c<65536):ax Tryz.prog 154 [.one (.d (kM l)),iv .u32 b,iv .i64 c] (·=BI (l[(b+c)%4294967296]?)):=by
 refine hdP Tryz.func154 rfl [6,7] λg=>?_;have i:=dK (n:=c) a7;have e:=CW b c;have o:(b+c)%4294967296<4294967296:=O0 _ b9;generalize (b+c)%4294967296=a at e o|-;have j:=w64 (n:=a) a7;have k:=w64 (n:=z l) a7;have p:(0:Int)<=(a:Int):=a7;unfold kM;by_cases h:a<z l
 .obtain⟨x,I⟩:=getq h
  have hn:¬(z l:Int)<=(a:Int):=a7;have q:(l.map λx=>[D.int .u32 (x:Nat)])[a]?=S [.int .u32 (x:Nat)]:=by rw[x8,I];rfl
  rw[I];simp only[go_sem,i,e,j,k,hn,p,q,j6,BI]
 .have r:(z l:Int)<=(a:Int):=a7
  rw[E5 a7];simp only[go_sem,i,e,j,k,r,j6,BI]
section
def okW(w:Nat):Bool:=okI (w/16777216) (w/1048576%16) (w/65536%16) (w%65536)
def nY(w:Nat):List D:=if okW w=T then [.int .i64 (w/16777216:Nat),.int .i64 (w/1048576%16:Nat),.int .i64 (w/65536%16:Nat),.int .i64 (w%65536:Nat)]else [.int .i64 0,.int .i64 0,.int .i64 0,.int .i64 0]
def zP(w:Nat):z (nY w)=4:=by unfold nY;split<;>rfl
def ED(w:Nat):∀x∈nY w,ge x=x:=λx I=>by
 unfold nY at I;split at I<;>simp only[A3,A9,E6]at I<;>rcases I with rfl|rfl|rfl|rfl<;>rfl
def fb(l:List Nat):List C:=l.flatMap λw=>(nY w).map .d
def vB(l:List Nat):List C:=l.map λw=>.d (.bool (okW w))
def EE(l:List Nat):vB l=l.flatMap λw=>([D.bool (okW w)]).map .d:=by
 unfold vB
 induction l with
 |nil=>rfl
 |cons a l b=>simpa using b
def iK:∀l:List Nat,z (fb l)=4*z l
 |[]=>rfl
 |w::l=>by
   have a:=iK l;unfold fb at a|-;rw[G2,j7,j6,zP,a];simp only[j9];omega
def BJ(l:List Nat)(w:Nat):fb (l++[w])=fb l++(nY w).map .d:=by unfold fb;rw[N3];simp
def EF(l:List Nat)(w:Nat):vB (l++[w])=vB l++[.d (.bool (okW w))]:=by unfold vB;simp
variable{pre rest:List C}
def Wy{p:Nat}(h:z pre=p)(e f Z g a b c d:C):((((pre++e::f::Z::g::rest).set p a).set (p+1) b).set (p+1+1) c).set (p+1+1+1) d=(pre++[a,b,c,d])++rest:=by
 subst h;rw[show z pre+1+1=z pre+2 from rfl,show z pre+2+1=z pre+3 from rfl];simp
def Wz{p:Nat}(h:z pre=p)(b a:C):(pre++b::rest).set p a=(pre++[a])++rest:=by
 subst h;simp
def Pv(w:Nat):AV:=.tup [.agg ((nY w).map .d),iv .i64 (if okW w=T then 0 else 7)]
def LI(w:Nat):CX w=Pv w:=by
 unfold CX Pv nY okW okI;split<;>rfl
def Pw(code:List Nat)(d:Nat)(hl:z code<=1000000)(H:∀w∈code,w<4294967296):ax Tryz.prog 91 [eZ (code,d)] (·=.tup [.one (.d (.sl (code.map nY))),.one (.d (.sl (code.map λw=>[.bool (okW w)])))]):=by
 refine hdR Tryz.func91 rfl [.tmp 2,.tmp 3] λg=>?_;have o:(0:Int)<=(z code:Int):=a7;unfold eZ eO;simp only[go_sem,j6,o];refine⟨l7 _,a7,a7,l7 _,a7,a7,?_⟩
 refine eF (λn K=>∃k:Nat,n+k=z code/\K.f 1=.one (.ptr 1 (nxC 32 (g 1)) 0)/\K.gen 1=nxC 32 (g 1)/\K.obj 1=S [.d (.sl (code.map λn=>[.int .u32 (n:Nat)])),.d (.int .i64 (d:Nat))]/\K.f 6=iv .i64 k/\
  K.f 4=.one (.osl 12 (K.gen 12) 4 0 (z code))/\K.obj 12=S (fb (code.take k)++(List.replicate n [C.d (.int .i64 0),.d (.int .i64 0),.d (.int .i64 0),.d (.int .i64 0)]).flatten)/\
  K.f 5=.one (.osl 16 (K.gen 16) 1 0 (z code))/\K.obj 16=S (vB (code.take k)++(List.replicate n [C.d (.bool F)]).flatten)) (z code) ?_ ?_
 .refine⟨0,rfl,?_⟩
  simp only[go_sem]
  try exact⟨rfl,rfl⟩
 rintro n f v y ⟨k,hk,q1,i,j,q6,q4,e,q5,h⟩;simp only at q1 i j q6 q4 e q5 h;have hw:=ac (k:=k) a7;cases n with
 |zero=>
   obtain rfl:k=z code:=a7;have u:¬(z code:Int)<(z code:Int):=a7;rw[s6 (l7 _)]at e h;simp only[L1,List.flatten_nil,s7]at e h;simp only[go_sem,q1,i,j,q6,q4,q5,u,j6];exact⟨_,⟨_,⟨_,_,rfl,xL (dN (cells:=fb code) rfl code nY (by simp[upd,e]) rfl (λa _=>ED a) (λa _=>zP a) rfl),_,_,rfl,xL (dN (cells:=vB code) rfl code (λw=>[.bool (okW w)]) (by simp[upd,h]) (EE code) (λa _ x I=>by simp only[E0]at I;subst I;rfl) (λ_ _=>rfl) rfl),rfl⟩,rfl⟩,rfl⟩
 |succ m=>
   have p:k<z code:=a7;have G:(k:Int)<(z code:Int):=a7;have bf:(0:Int)<=(k:Int):=a7;obtain⟨w,E⟩:=getq p;have q:(code.map λn=>[D.int .u32 (n:Nat)])[k]?=S [.int .u32 (w:Nat)]:=by rw[x8,E];rfl
   have hD:=BG w (H w (l6 E));rw[LI]at hD;have an:code.take (k+1)=code.take k++[w]:=by rw[D0,E];rfl
   have Y:z (code.take k)=k:=by rw[D1];omega
   have cf:z (fb (code.take k))=k*4:=by rw[iK,Y];omega
   have ad:z (vB (code.take k))=k:=by unfold vB;rw[j6,Y]
   have c':=λx a b c d=>Wy (rest:=(List.replicate m [C.d (.int .i64 0),.d (.int .i64 0),.d (.int .i64 0),.d (.int .i64 0)]).flatten) cf x x x x a b c d;have a1:=Wz (rest:=(List.replicate m [C.d (.bool F)]).flatten) ad (C.d (.bool F));rw[F6,E8]at e h;have b6:=BJ (code.take k) w;have t:=EF (code.take k) w;rw[<-an]at b6 t;generalize fb (code.take k)=A at e cf c' b6;generalize vB (code.take k)=B at h ad a1 t;unfold Pv nY at hD;unfold nY at b6;simp only[go_sem,q1,i,j,q6,G,bf,q,j6];cases l:okW w
   .rw[l,j8 a8]at hD
    rw[l,j8 a8]at b6;rw[l]at t;simp only[l9,w9,D7,A8]at hD b6;exact oL
   .rw[l,l8 rfl]at hD
    rw[l,l8 rfl]at b6;rw[l]at t;simp only[l9,w9,B1]at hD b6;exact oL
end
end
section
open Go Go.Am Go.Asm Go.Mach
section
structure WC (cs:List C) (code:List Nat) (inp:Str) (m:M) (b A u:C):Prop where
 len:cs.length=28
 c0:cs[0]?=some (.d (.int .i64 (m.pc:Nat)))
 rl:m.reg.length=16
 rg:∀a,a<16->cs[1+a]?=some (.d (.int .u32 (m.r a:Nat)))
 c17:cs[17]?=some (b)
 c18:cs[18]?=some (.d (.int .i64 (m.rd:Nat)))
 c19:cs[19]?=some (.d (.str []))
 c20:cs[20]?=some (.d (.int .i64 (m.steps:Nat)))
 c21:cs[21]?=some (.d (.int .i64 (m.fin:Nat)))
 c22:cs[22]?=some (A)
 c23:cs[23]?=some (.d (.sl (code.map nY)))
 c24:cs[24]?=some (.d (.sl (code.map λw=>[.bool (okW w)])))
 c25:cs[25]?=some (.d (eO code))
 c26:cs[26]?=some (.d (.str inp))
 c27:cs[27]?=some (u)
section
variable{cs:List C}{code:List Nat}{inp:Str}{m:M}{b A u:C}
def WC.setReg(h:WC cs code inp m b A u){a:Nat}(c:a<16)(x:Nat):WC (cs.set (1+a) (.d (.int .u32 (x:Nat)))) code inp {m with reg:=m.reg.set a x} b A u:=by
 have hl:=h.len;refine⟨by simp[h.len],by rw[au a7];exact h.c0,by simp[h.rl],λk e=>?_,by rw[au a7];exact h.c17,by rw[au a7];exact h.c18,by rw[au a7];exact h.c19,by rw[au a7];exact h.c20,by rw[au a7];exact h.c21,by rw[au a7];exact h.c22,by rw[au a7];exact h.c23,by rw[au a7];exact h.c24,by rw[au a7];exact h.c25,by rw[au a7];exact h.c26,by rw[au a7];exact h.c27⟩;rw[Cd h.rl c];by_cases f:k=a
 .subst f;rw[l8 rfl,jJ a7]
 .rw[j8 f,au a7];exact h.rg k e
def WC.setPc(h:WC cs code inp m b A u)(n:Nat):WC (cs.set 0 (.d (.int .i64 (n:Nat)))) code inp {m with pc:=n} b A u:=
 ⟨by simp[h.len],jJ Xb,h.rl,λk a=>by rw[au a7];exact h.rg k a,by rw[au a7];exact h.c17,by rw[au a7];exact h.c18,by rw[au a7];exact h.c19,by rw[au a7];exact h.c20,by rw[au a7];exact h.c21,by rw[au a7];exact h.c22,by rw[au a7];exact h.c23,by rw[au a7];exact h.c24,by rw[au a7];exact h.c25,by rw[au a7];exact h.c26,by rw[au a7];exact h.c27⟩
def WC.setRd(h:WC cs code inp m b A u)(n:Nat):WC (cs.set 18 (.d (.int .i64 (n:Nat)))) code inp {m with rd:=n} b A u:=
 ⟨by simp[h.len],by rw[au a7];exact h.c0,h.rl,λk a=>by rw[au a7];exact h.rg k a,by rw[au a7];exact h.c17,jJ Xb,by rw[au a7];exact h.c19,by rw[au a7];exact h.c20,by rw[au a7];exact h.c21,by rw[au a7];exact h.c22,by rw[au a7];exact h.c23,by rw[au a7];exact h.c24,by rw[au a7];exact h.c25,by rw[au a7];exact h.c26,by rw[au a7];exact h.c27⟩
def WC.setSteps(h:WC cs code inp m b A u)(n:Nat):WC (cs.set 20 (.d (.int .i64 (n:Nat)))) code inp {m with steps:=n} b A u:=
 ⟨by simp[h.len],by rw[au a7];exact h.c0,h.rl,λk a=>by rw[au a7];exact h.rg k a,by rw[au a7];exact h.c17,by rw[au a7];exact h.c18,by rw[au a7];exact h.c19,jJ Xb,by rw[au a7];exact h.c21,by rw[au a7];exact h.c22,by rw[au a7];exact h.c23,by rw[au a7];exact h.c24,by rw[au a7];exact h.c25,by rw[au a7];exact h.c26,by rw[au a7];exact h.c27⟩
def WC.setFin(h:WC cs code inp m b A u)(n:Nat):WC (cs.set 21 (.d (.int .i64 (n:Nat)))) code inp {m with fin:=n} b A u:=
 ⟨by simp[h.len],by rw[au a7];exact h.c0,h.rl,λk a=>by rw[au a7];exact h.rg k a,by rw[au a7];exact h.c17,by rw[au a7];exact h.c18,by rw[au a7];exact h.c19,by rw[au a7];exact h.c20,jJ Xb,by rw[au a7];exact h.c22,by rw[au a7];exact h.c23,by rw[au a7];exact h.c24,by rw[au a7];exact h.c25,by rw[au a7];exact h.c26,by rw[au a7];exact h.c27⟩
def WC.setOut(h:WC cs code inp m b A u)(c:C)(o:Str):WC (cs.set 22 (c)) code inp {m with out:=o} b c u:=
 ⟨by simp[h.len],by rw[au a7];exact h.c0,h.rl,λk a=>by rw[au a7];exact h.rg k a,by rw[au a7];exact h.c17,by rw[au a7];exact h.c18,by rw[au a7];exact h.c19,by rw[au a7];exact h.c20,by rw[au a7];exact h.c21,jJ Xb,by rw[au a7];exact h.c23,by rw[au a7];exact h.c24,by rw[au a7];exact h.c25,by rw[au a7];exact h.c26,by rw[au a7];exact h.c27⟩
end
def lQ(l:List Int):List C:=l.map λn=>.d (.int .i64 n)
structure Wn (gr:Nat) (code:List Nat) (inp:Str) (m:M) (g:Nat->Nat) (ob:Obs):Prop where
 gen:g 13=gr
 obj:∃cs mi A p,ob 13=some cs/\WC cs code inp m (.osl mi (g mi) 1 0 m.mem.length) A (.osl 47 (g 47) 1 0 code.length)/\(mi=24\/mi=27)/\ob mi=some (ji m.mem)/\ob 47=some (lQ p)/\p.length=code.length/\
  (A=.osl 38 (g 38) 1 0 m.out.length/\ob 38=some (mE m.out))
end
end
section
open Go Go.Am Go.Asm Go.Mach
attribute[local congr]ite_cc
section
def FrW(g:Nat->Nat)(ob:Obs)(g':Nat->Nat)(Y:Obs):Prop:=∀i,i<3000->i≠13->i≠24->i≠27->i≠47->i≠38->g' i=g i/\Y i=ob i
variable{gr:Nat}{code:List Nat}{inp:Str}{g g':Nat->Nat}{ob Y:Obs}{m:M}
def Wn.cells{m m':M}(h:Wn gr code inp m g ob){cf:List C}(hg:∀i,(i=13\/i=24\/i=27\/i=47\/i=38)->g' i=g i)(ho:∀i,(i=24\/i=27\/i=47\/i=38)->Y i=ob i)
 (Z:Y 13=S cf)(a:m'.mem=m.mem)(I:m'.out=m.out)(V:∀cs b A u,ob 13=S cs->WC cs code inp m b A u->WC cf code inp m' b A u):Wn gr code inp m' g' Y:=by
 obtain⟨U,cs,mi,A,p,c,d,e,f,j,k,l⟩:=h;have Q:g' mi=g mi/\Y mi=ob mi:=⟨hg mi a7,ho mi a7⟩
 refine⟨by rw[hg 13 b9];exact U,cf,mi,A,p,Z,?_,e,by rw[Q.2,a];exact f,by rw[ho 47 b9];exact j,k,by rw[hg 38 b9,ho 38 b9,I];exact l⟩;rw[Q.1,a,hg 47 b9];exact V cs _ _ _ c d
def Wn.same(h:Wn gr code inp m g ob)(hg:∀i,(i=13\/i=24\/i=27\/i=47\/i=38)->g' i=g i)(ho:∀i,(i=13\/i=24\/i=27\/i=47\/i=38)->Y i=ob i):Wn gr code inp m g' Y:=by
 obtain⟨b,_,_,_,a,_⟩:=id h.obj;exact h.cells (cf:=b) hg (λi d=>ho i a7) (by rw[ho 13 b9];exact a) rfl rfl λc _ _ _ e r=>by rw[a]at e;cases e;exact r
def Wn.done{m m':M}{cs cf:List C}(h:Wn gr code inp m g ob)(ho:ob 13=S cs)(a:∀i,(i<3000\/i=38)->g' i=g i)(q:∀i,(i≠13/\(i<3000\/i=38))->Y i=ob i)
 (Z:Y 13=S cf)(f:m'.mem=m.mem)(I:m'.out=m.out)(V:∀b A u,WC cs code inp m b A u->WC cf code inp m' b A u):FrW g ob g' Y/\Wn gr code inp m' g' Y:=
 ⟨λi d G _ _ _ _=>⟨a i (.inl d),q i ⟨G,.inl d⟩⟩,h.cells (λi d=>a i a7) (λi d=>q i a7) Z f I λc b A u e r=>by rw[ho]at e;cases e;exact V b A u r⟩
def Nn{g:Nat->Nat}{ob:Obs}(h:Wn gr code inp m g ob)(a x:Nat)(b:a<16)(o:m.pc<=4294967296000000):
  fX Tryz.prog 153 [.one (.ptr 13 gr 0),iv .i64 a,iv .u32 x] g ob (λ_ g' Y=>FrW g ob g' Y/\Wn gr code inp (m.set a x) g' Y):=by
 refine hdF 4000 Tryz.func153 rfl [] ?_;obtain⟨e,j,mi,A,p,ho,V,-⟩:=id h;have an:=ac (k:=m.pc) a7;have hl:=V.len;have X:(0:Int)<=(a:Int):=a7;have u:(j.set (1+a) (.d (.int .u32 (x:Nat))))[0]?=S (.d (.int .i64 (m.pc:Nat))):=by rw[au a7];exact V.c0
 simp only[go_sem,e,ho,X,u,an];refine⟨a7,a7,?_⟩;exact⟨by simp only[C2];omega,bt (.inr rfl) (h.done ho (λi l=>by (try simp only[upd]);repeat (rw[j8 (by omega)]);try rfl) (λi l=>by (try simp only[upd]);repeat (rw[j8 (by omega)]);try rfl) (by simp[upd]<;>rfl) rfl rfl λ_ _ _ V=>(V.setReg b x).setPc (m.pc+1))⟩
def Po{g:Nat->Nat}{ob:Obs}(h:Wn gr code inp m g ob)(b:Bool)(c:Nat)(o:m.pc<=4294967296000000):
  fX Tryz.prog 155 [.one (.ptr 13 gr 0),bv b,iv .i64 c] g ob (λ_ g' Y=>FrW g ob g' Y/\Wn gr code inp {m with pc:=if b=T then c else m.pc+1} g' Y):=by
 refine hdF 4000 Tryz.func155 rfl [] ?_;obtain⟨d,e,mi,A,p,ho,V,-⟩:=id h;have an:=ac (k:=m.pc) a7;have hl:=V.len;cases b
 .simp only[go_sem,d,ho,V.c0,an]
  exact⟨a7,bt (.inr rfl) (h.done ho (λi a=>by (try simp only[upd]);repeat (rw[j8 (by omega)]);try rfl) (λi a=>by (try simp only[upd]);repeat (rw[j8 (by omega)]);try rfl) (by simp[upd]<;>rfl) rfl rfl λ_ _ _ V=>V.setPc (m.pc+1))⟩
 .simp only[go_sem,d,ho]
  exact⟨a7,bt (.inr rfl) (h.done ho (λi a=>by (try simp only[upd]);repeat (rw[j8 (by omega)]);try rfl) (λi a=>by (try simp only[upd]);repeat (rw[j8 (by omega)]);try rfl) (by simp[upd]<;>rfl) rfl rfl λ_ _ _ V=>V.setPc c)⟩
end
def FrW.from{g g':Nat->Nat}{ob av Y:Obs}{P:Prop}(h:FrW g av g' Y/\P)(ar:∀i,i≠13->i≠47->av i=ob i):FrW g ob g' Y/\P:=
 ⟨λi a b c d e f=>⟨(h.1 i a b c d e f).1,(h.1 i a b c d e f).2.trans (ar i b e)⟩,h.2⟩
def Pp{gr:Nat}{code:List Nat}{inp:Str}{m:M}{g:Nat->Nat}{ob:Obs}(h:Wn gr code inp m g ob)(H:∀x∈code,x<4294967296)(v:Mach.Good m)(P:z m.mem<=1000000)(b0:z code<=1000000)(b3:m.steps<1000000000000)(b7:m.rd<=1000000000000)(hf:m.fin=0):
  fX Tryz.prog 92 [.one (.ptr 13 gr 0)] g ob (λ_ g' Y=>FrW g ob g' Y/\Wn gr code inp (mV okI code inp m) g' Y):=by
 refine hdF 3000 Tryz.func92 rfl [] ?_;obtain⟨hg,cs,mi,A,p,ho,V,Q,cb,c7,bz,b2⟩:=id h;have hl:=V.len;have dc:¬(m.pc:Int)<0:=a7;have bn:(0:Int)<=(m.pc:Int):=a7;have an:=ac (k:=m.steps) a7;simp only[go_sem];refine bO c8 ?_;by_cases af:m.pc<z code
 case neg=>
  have a1:(z code:Int)<=(m.pc:Int):=a7;rw[show mV okI code inp m = {m with fin:=7} by unfold mV;rw[E5 a7]];simp only[go_sem,hg,ho,V.c0,V.c23,dc,j6,a1];exact⟨a7,bt (.inl rfl) (h.done ho (λi hi=>by (try simp only[upd]);repeat (rw[j8 (by omega)]);try rfl) (λi hi=>by (try simp only[upd]);repeat (rw[j8 (by omega)]);try rfl) (by simp[upd]<;>rfl) rfl rfl λ_ _ _ V=>V.setFin 7)⟩
 have a1:¬(z code:Int)<=(m.pc:Int):=a7;obtain⟨w,hw⟩:=getq af;have gm:=H w (l6 hw);simp only[go_sem,hg,ho,V.c0,V.c23,V.c20,dc,j6,a1,an];refine⟨a7,?_⟩;refine bO c8 ?_;have b1:=V.setSteps (m.steps+1);generalize ef:cs.set 20 (.d (.int .i64 (m.steps+1:Nat)))=f at b1|-;have ch:=b1.len;obtain⟨n0,bk⟩:=getq (l:=p) (k:=m.pc) a7;have eh:(lQ p)[m.pc]?=S (.d (.int .i64 n0)):=by unfold lQ;rw[x8,bk];rfl
 have ek:z (lQ p)=z code:=by unfold lQ;rw[j6,bz]
 have bd:=b1.c0;have cc:=b1.c27;simp only[go_sem,hg,bd,cc,c7,bn,C7,L3,eh];refine⟨af,af,a7,?_⟩
 have U:Wn gr code inp {m with steps:=m.steps+1} g (upd (upd ob 13 (S f)) 47 (S ((lQ p).set m.pc (.d (.int .i64 (IntKind.i64.wrap (n0+1))))))):=
  ⟨hg,f,mi,A,p.set m.pc (IntKind.i64.wrap (n0+1)),by simp[upd],b1,Q,by rcases Q with rfl|rfl<;>simpa[upd]using cb,by simp[upd,lQ,Mu],by rw[C2,bz],by simpa[upd]using b2⟩
 have ar:∀i,i≠13->i≠47->(upd (upd ob 13 (S f)) 47 (S ((lQ p).set m.pc (.d (.int .i64 (IntKind.i64.wrap (n0+1))))))) i=ob i:=λi a b=>by simp only[upd];rw[j8 b,j8 a]
 have t:(upd (upd ob 13 (S f)) 47 (S ((lQ p).set m.pc (.d (.int .i64 (IntKind.i64.wrap (n0+1))))))) 13=S f:=by simp[upd]
 have K:(upd (upd ob 13 (S f)) 47 (S ((lQ p).set m.pc (.d (.int .i64 (IntKind.i64.wrap (n0+1))))))) mi=S (ji m.mem):=by rcases Q with rfl|rfl<;>simpa[upd]using cb
 have W:A=.osl 38 (g 38) 1 0 (z m.out)/\(upd (upd ob 13 (S f)) 47 (S ((lQ p).set m.pc (.d (.int .i64 (IntKind.i64.wrap (n0+1))))))) 38=S (mE m.out):=by simpa[upd]using b2
 obtain⟨bs,cd,c'⟩:∃bs,(upd (upd ob 13 (S f)) 47 (S ((lQ p).set m.pc (.d (.int .i64 (IntKind.i64.wrap (n0+1))))))) 47=S (lQ bs)/\z bs=z code:=⟨p.set m.pc (IntKind.i64.wrap (n0+1)),by simp[upd,lQ,Mu],by rw[C2,bz]⟩
 generalize upd (upd ob 13 (S f)) 47 (S ((lQ p).set m.pc (.d (.int .i64 (IntKind.i64.wrap (n0+1))))))=av at U ar t K W cd|-;have b6:Mach.Good {m with steps:=m.steps+1}:=⟨v.len,v.reg,v.mem,by have:=v.pc;show m.pc<=4294967296+(m.steps+1);omega,v.out,v.fin⟩
 have hs:mV okI code inp m=if okW w=T then doM code inp {m with steps:=m.steps+1} (w/16777216) (w/1048576%16) (w/65536%16) (w%65536)else {m with steps:=m.steps+1,fin:=6}:=by
  unfold mV okW;rw[hw]
 rw[hs];have al:nY w=nY w:=rfl
 conv at al=>rhs;unfold nY
 have dh:=b1.c23;have dp:=b1.c24;clear ef hs eh c7 bz bk ek V b2 cb ho;refine fL aA mixed [3002] [([0],[0],[],F),([56],[0],[],F),([57],[0],[],F),([58],[0],[],F),([0],[0],[],F),([60],[0],[],F),([61],[0],[],F),([62],[0],[],F),([63],[0],[],F),([59,64],[0],[],F),([65],[0],[],F),([],[],[0],F),([2,66],[],[],T)] 1 c8 rfl b9 ?_;simp only[go_sem];cases hR:okW w
 .rw[hR,j8 a8]at al
  rw[j8 a8]
  iterate 9 (apply aI;· (intro fa ga oa K' J;simp only[go_sem,hg,t,bd,dh]at J|-;exact J))
  iterate 2 (apply aI;· (intro fa ga oa K' J;simp only[go_sem,bn,hw,z7,al]at J|-;exact J))
  (apply cJ;· (intro fa ga oa K' J;simp only[go_sem]at J|-;exact J))
  apply cL;intro K' a';simp only[go_sem];refine a' _ ?_;clear a' K';simp only[go_sem];refine bO c8 ?_;simp only[go_sem,hg,t,bd,dp,bn,hw,z7,hR];exact⟨a7,bt (.inl rfl) (FrW.from (U.done (m':={m with steps:=m.steps+1,fin:=6}) t (λi hi=>by (try simp only[upd]);repeat (rw[j8 (by omega)]);try rfl) (λi hi=>by (try simp only[upd]);repeat (rw[j8 (by omega)]);try rfl) (by simp[upd]<;>rfl) rfl rfl λ_ _ _ V=>V.setFin 6) ar)⟩
 .rw[hR,l8 rfl]at al
  rw[l8 rfl];obtain⟨p1,p2,p3⟩:=Ey (show okI (w/16777216) (w/1048576%16) (w/65536%16) (w%65536)=T from hR);have ha:w/1048576%16<16:=a7;have hb:w/65536%16<16:=a7;have Z:w%65536<65536:=a7;generalize w/16777216=op at al p1 p2 p3|-;generalize w/1048576%16=a at al p3 ha|-;generalize w/65536%16=b at al p3 hb|-;generalize w%65536=c at al p3 Z|-
  iterate 9 (apply aI;· (intro fa ga oa K' J;simp only[go_sem,hg,t,bd,dh]at J|-;exact J))
  iterate 2 (apply aI;· (intro fa ga oa K' J;simp only[go_sem,bn,hw,z7,al]at J|-;exact J))
  (apply cJ;· (intro fa ga oa K' J;simp only[go_sem]at J|-;exact J))
  apply cL;intro K' a';simp only[go_sem];refine a' _ ?_;clear a' K';simp only[go_sem];refine bO c8 ?_;simp only[go_sem,hg,t,bd,dp,bn,hw,z7,hR];refine bO c8 ?_;have q:=b1.rg a ha;have X:(0:Int)<=(a:Int):=a7;have rb:=b1.rg b hb;have b8:(0:Int)<=(b:Int):=a7;have o:m.pc<=4294967296000000:=by have:=v.pc;omega
  have gx:=v.r a;have gn:=v.r b;have u:=λg2 bo(h2:Wn gr code inp {m with steps:=m.steps+1} g2 bo)(x:Nat)=>Nn h2 a x ha o;have az:=λg2 bo(h2:Wn gr code inp {m with steps:=m.steps+1} g2 bo)(y:Bool)=>Po h2 y c o;have b':IntKind.u32.wrap ((c:Nat):Int)=((c:Nat):Int):=dK a7;change f[1+a]?=S (.d (.int .u32 (m.r a:Nat)))at q;change f[1+b]?=S (.d (.int .u32 (m.r b:Nat)))at rb
  have fin:∀{g2:Nat->Nat}{bo:Obs}{m':M}{g':Nat->Nat}{Y:Obs},(∀i,i<3000->g2 i=g i)->(∀i,i<3000->bo i=av i)->FrW g2 bo g' Y->Wn gr code inp m' g' Y->FrW g ob g' Y/\Wn gr code inp m' g' Y:=λe1 e2 f1 f2=>
   FrW.from (av:=av) ⟨λi hi G cx cy cz c1=>by have:=f1 i hi G cx cy cz c1;rw[e1 i hi,e2 i hi]at this;exact this,f2⟩ ar
  by_cases o1:op=1
  .subst o1
   rw[show doM code inp {m with steps:=m.steps+1} 1 a b c=({m with steps:=m.steps+1}:M).set a c from rfl];simp only[go_sem,hg,t,q,X,b'];refine⟨a7,?_⟩;refine ck rfl (by simp only[go_sem];exact u _ _ (U.same (λi hi=>by (try simp only[upd]);repeat (rw[j8 (by omega)]);try rfl) (λi hi=>by (try simp only[upd]);repeat (rw[j8 (by omega)]);try rfl)) c) ?_;exact gD
  by_cases o2:op=2
  .subst o2
   rw[show doM code inp {m with steps:=m.steps+1} 2 a b c=({m with steps:=m.steps+1}:M).set a (m.r a%65536+c*65536)from rfl];have e1:((m.r a:Nat):Int).tmod 65536=((m.r a%65536:Nat):Int):=rfl;have e2:IntKind.u32.wrap ((c:Int)*65536)=((c*65536:Nat):Int):=by rw[IntKind.wrap_u32];omega
   have e3:IntKind.u32.wrap (((m.r a%65536:Nat):Int)+((c*65536:Nat):Int))=((m.r a%65536+c*65536:Nat):Int):=by rw[IntKind.wrap_u32];omega
   have e4:IntKind.u32.wrap ((m.r a%65536:Nat):Int)=((m.r a%65536:Nat):Int):=dK a7;simp only[go_sem,hg,t,q,X,b',e1,e2,e3,e4];refine⟨a7,?_⟩;refine ck rfl (by simp only[go_sem];exact u _ _ (U.same (λi hi=>by (try simp only[upd]);repeat (rw[j8 (by omega)]);try rfl) (λi hi=>by (try simp only[upd]);repeat (rw[j8 (by omega)]);try rfl)) (m.r a%65536+c*65536)) ?_;exact gD
  by_cases B:op=3
  .subst B
   rw[show doM code inp {m with steps:=m.steps+1} 3 a b c=({m with steps:=m.steps+1}:M).set a (m.r b)from rfl];simp only[go_sem,hg,t,q,X];refine⟨a7,?_⟩;refine bO c8 ?_;simp only[go_sem,hg,t,rb,b8];refine⟨a7,?_⟩;refine ck rfl (by simp only[go_sem];exact u _ _ (U.same (λi hi=>by (try simp only[upd]);repeat (rw[j8 (by omega)]);try rfl) (λi hi=>by (try simp only[upd]);repeat (rw[j8 (by omega)]);try rfl)) (m.r b)) ?_;exact gD
  by_cases e6:op=18
  .subst e6
   rw[show doM code inp {m with steps:=m.steps+1} 18 a b c = {m with steps:=m.steps+1,pc:=c}from rfl];simp only[go_sem,hg,t,q,X];exact⟨a7,a7,bt (.inr rfl) (FrW.from (U.done (m':={m with steps:=m.steps+1,pc:=c}) t (λi hi=>by (try simp only[upd]);repeat (rw[j8 (by omega)]);try rfl) (λi hi=>by (try simp only[upd]);repeat (rw[j8 (by omega)]);try rfl) (by simp[upd]<;>rfl) rfl rfl λ_ _ _ V=>V.setPc c) ar)⟩
  by_cases e7:op=19
  .subst e7
   rw[show doM code inp {m with steps:=m.steps+1} 19 a b c = {m with steps:=m.steps+1,pc:=if m.r a=0 then c else m.pc+1}from rfl];by_cases hz:m.r a=0
   .have e:((m.r a:Nat):Int)=0:=a7
    rw[l8 hz];exact r8
   .have e:¬((m.r a:Nat):Int)=0:=a7
    rw[j8 hz];exact ra
  by_cases e8:op=20
  .subst e8
   rw[show doM code inp {m with steps:=m.steps+1} 20 a b c = {m with steps:=m.steps+1,pc:=if m.r a=0 then m.pc+1 else c}from rfl];by_cases hz:m.r a=0
   .have e:((m.r a:Nat):Int)=0:=a7
    rw[l8 hz];exact ra
   .have e:¬((m.r a:Nat):Int)=0:=a7
    rw[j8 hz];exact r8
  by_cases cu:op=22
  .subst cu
   rw[show doM code inp {m with steps:=m.steps+1} 22 a b c = {m with steps:=m.steps+1,pc:=m.r a}from rfl];have e9:IntKind.i64.wrap ((m.r a:Nat):Int)=((m.r a:Nat):Int):=by rw[wrap_i64]<;>omega
   simp only[go_sem,hg,t,q,X,e9];exact⟨a7,a7,bt (.inr rfl) (FrW.from (U.done (m':={m with steps:=m.steps+1,pc:=m.r a}) t (λi hi=>by (try simp only[upd]);repeat (rw[j8 (by omega)]);try rfl) (λi hi=>by (try simp only[upd]);repeat (rw[j8 (by omega)]);try rfl) (by simp[upd]<;>rfl) rfl rfl λ_ _ _ V=>V.setPc (m.r a)) ar)⟩
  by_cases e':op=26
  .subst e'
   rw[show doM code inp {m with steps:=m.steps+1} 26 a b c = {m with steps:=m.steps+1,fin:=1}from rfl];simp only[go_sem,hg,t,q,X];exact⟨a7,a7,bt (.inr rfl) (FrW.from (U.done (m':={m with steps:=m.steps+1,fin:=1}) t (λi hi=>by (try simp only[upd]);repeat (rw[j8 (by omega)]);try rfl) (λi hi=>by (try simp only[upd]);repeat (rw[j8 (by omega)]);try rfl) (by simp[upd]<;>rfl) rfl rfl λ_ _ _ V=>V.setFin 1) ar)⟩
  by_cases fl:op=25
  .subst fl
   rw[show doM code inp {m with steps:=m.steps+1} 25 a b c=(if c<=m.r a then({m with steps:=m.steps+1,fin:=3}:M)else {m with steps:=m.steps+1,pc:=m.pc+1})from rfl];have ca:=ac (k:=m.pc) a7;by_cases hz:c<=m.r a
   .have e:((c:Nat):Int)<=((m.r a:Nat):Int):=a7
    rw[l8 hz];simp only[go_sem,hg,t,q,X,b',e];exact⟨a7,a7,bt (.inl rfl) (FrW.from (U.done (m':={m with steps:=m.steps+1,fin:=3}) t (λi hi=>by (try simp only[upd]);repeat (rw[j8 (by omega)]);try rfl) (λi hi=>by (try simp only[upd]);repeat (rw[j8 (by omega)]);try rfl) (by simp[upd]<;>rfl) rfl rfl λ_ _ _ V=>V.setFin 3) ar)⟩
   .have e:¬((c:Nat):Int)<=((m.r a:Nat):Int):=a7
    rw[j8 hz];simp only[go_sem,hg,t,q,X,b',e,bd,ca];exact⟨a7,a7,bt (.inr rfl) (FrW.from (U.done (m':={m with steps:=m.steps+1,pc:=m.pc+1}) t (λi hi=>by (try simp only[upd]);repeat (rw[j8 (by omega)]);try rfl) (λi hi=>by (try simp only[upd]);repeat (rw[j8 (by omega)]);try rfl) (by simp[upd]<;>rfl) rfl rfl λ_ _ _ V=>V.setPc (m.pc+1)) ar)⟩
  by_cases cv:op=21
  .subst cv
   rw[show doM code inp {m with steps:=m.steps+1} 21 a b c = {m with steps:=m.steps+1,reg:=m.reg.set a ((m.pc+1)%4294967296),pc:=c}from rfl];have e1:IntKind.u32.wrap ((m.pc:Nat):Int)=((m.pc%4294967296:Nat):Int):=w32 _;have e2:IntKind.u32.wrap (((m.pc%4294967296:Nat):Int)+1)=(((m.pc+1)%4294967296:Nat):Int):=by rw[IntKind.wrap_u32];omega
   simp only[go_sem,hg,t,q,X];refine⟨a7,?_⟩;refine bO c8 ?_;simp only[go_sem,hg,t,bd,X,e1,e2];refine⟨a7,a7,?_⟩;exact⟨by simp only[C2];omega,bt (.inr rfl) (FrW.from (U.done (m':={m with steps:=m.steps+1,reg:=m.reg.set a ((m.pc+1)%4294967296),pc:=c}) t (λi hi=>by (try simp only[upd]);repeat (rw[j8 (by omega)]);try rfl) (λi hi=>by (try simp only[upd]);repeat (rw[j8 (by omega)]);try rfl) (by simp[upd]<;>rfl) rfl rfl λ_ _ _ V=>(V.setReg ha _).setPc c) ar)⟩
  by_cases cf:op=23
  .subst cf
   have ds:¬(m.rd:Int)<0:=a7;have ec:(0:Int)<=(m.rd:Int):=a7;have et:=ac (k:=m.rd) a7;have c2:=b1.c18;have c4:=b1.c26;cases I:inp[m.rd]? with
   |none=>
     have c6:(z inp:Int)<=(m.rd:Int):=by have:=N0.1 I;omega
     rw[show doM code inp {m with steps:=m.steps+1} 23 a b c=({m with steps:=m.steps+1}:M).set a 256 by show (match inp[m.rd]? with|some x=>_|none=>_)=_;rw[I]];simp only[go_sem,hg,t,q,X];refine⟨a7,?_⟩;refine bO c8 ?_;simp only[go_sem,hg,t,c2,c4,ds,c6];refine ck rfl (by simp only[go_sem];exact u _ _ (U.same (λi hi=>by (try simp only[upd]);repeat (rw[j8 (by omega)]);try rfl) (λi hi=>by (try simp only[upd]);repeat (rw[j8 (by omega)]);try rfl)) 256) ?_;rintro r g' Y ⟨f1,f2⟩;simp only[go_sem];exact bt (.inl rfl) (fin (λi hi=>by (try simp only[upd]);repeat (rw[j8 (by omega)]);try rfl) (λi hi=>by (try simp only[upd]);repeat (rw[j8 (by omega)]);try rfl) f1 f2)
   |some x=>
     have gv:=(l5.1 I).1;have c6:¬(z inp:Int)<=(m.rd:Int):=a7;have hd:=x.toNat_lt;rw[show doM code inp {m with steps:=m.steps+1} 23 a b c=({m with steps:=m.steps+1,rd:=m.rd+1}:M).set a x.toNat by show (match inp[m.rd]? with|some x=>_|none=>_)=_;rw[I];rfl];simp only[go_sem,hg,t,q,X];refine⟨a7,?_⟩;refine bO c8 ?_;simp only[go_sem,hg,t,c2,c4,ds,c6];refine bO c8 ?_;simp only[go_sem,hg,t,c2,c4,ec,I,et,dK (show x.toNat<4294967296 by omega)];refine⟨a7,?_⟩;refine ck rfl (by simp only[go_sem];exact Nn (m:={m with steps:=m.steps+1,rd:=m.rd+1}) ((U.done (m':={m with steps:=m.steps+1,rd:=m.rd+1}) t (λi hi=>by (try simp only[upd]);repeat (rw[j8 (by omega)]);try rfl) (λi hi=>by (try simp only[upd]);repeat (rw[j8 (by omega)]);try rfl) (by simp[upd]<;>rfl) rfl rfl λ_ _ _ V=>V.setRd (m.rd+1)).2) a x.toNat ha o) ?_;rintro r g' Y ⟨f1,f2⟩;simp only[go_sem];refine bt (.inr rfl) (FrW.from (av:=av) ⟨λi hi G cx cy cz c1=>?_,f2⟩ ar);have:=f1 i hi G cx cy cz c1;simp only[upd]at this
     repeat rw[j8 (by omega)]at this
     exact this
  by_cases fm:op=16
  .subst fm
   have L:=b1.c17;have hF:=Da m.mem (m.r b) c P Z;have E:mi≠13/\mi≠3002:=a7;simp only[go_sem,hg,t,q,X];refine⟨a7,?_⟩;simp only[go_sem,hg,t,L];refine cO aA mixed c8 ?_;simp only[go_sem,hg,t,rb,b8];refine⟨a7,?_⟩
   have dd:∀{s:St}(x y:D),s.gen mi=g mi->s.obj mi=S (ji m.mem)->dC s [.one (.osl mi (g mi) 1 0 (z m.mem)),.one (.d x),.one (.d y)] [.one (.d (kM m.mem)),.one (.d (ge x)),.one (.d (ge y))]:=λx y e1 e2=>
    Px (xL (qh (cells:=ji m.mem) (off:=0) e1 e2 m.mem (λn=>.int .u32 (n:Nat)) (λ_=>rfl) rfl (λj a h=>by rw[C7];unfold ji;rw[x8,h];rfl) (by unfold ji;rw[j6];omega))) (ke _) (ke _)
   have e1:∀(x:Nat),(upd g 3002 x) mi=g mi:=λx=>by simp only[upd];rw[j8 E.2]
   cases I:m.mem[(m.r b+c)%4294967296]? with
   |none=>
     rw[I]at hF;unfold BI at hF;rw[show doM code inp {m with steps:=m.steps+1} 16 a b c = {m with steps:=m.steps+1,fin:=8} by show (match m.mem[(m.r b+c)%4294967296]? with|some x=>_|none=>_)=_;rw[I]];refine aP rfl hF WZ rfl ?_;exact o3
   |some x=>
     rw[I]at hF;unfold BI at hF;rw[show doM code inp {m with steps:=m.steps+1} 16 a b c=({m with steps:=m.steps+1}:M).set a x by show (match m.mem[(m.r b+c)%4294967296]? with|some x=>_|none=>_)=_;rw[I]];refine aP rfl hF WZ rfl ?_;exact k9
  by_cases fo:op=27
  .subst fo
   have L:=b1.c17;have dx:=b1.c25;have hF:=Da code (m.r b) c b0 Z;unfold eO at dx;unfold kM at hF;simp only[go_sem,hg,t,q,X];refine⟨a7,?_⟩;simp only[go_sem,hg,t,L,dx];refine cO aA mixed c8 ?_;simp only[go_sem,hg,t,rb,b8];refine⟨a7,?_⟩;cases I:code[(m.r b+c)%4294967296]? with
   |none=>
     rw[I]at hF;unfold BI at hF;rw[show doM code inp {m with steps:=m.steps+1} 27 a b c = {m with steps:=m.steps+1,fin:=8} by show (match code[(m.r b+c)%4294967296]? with|some x=>_|none=>_)=_;rw[I]];refine aP rfl hF (ci rfl) rfl ?_;exact o3
   |some x=>
     rw[I]at hF;unfold BI at hF;rw[show doM code inp {m with steps:=m.steps+1} 27 a b c=({m with steps:=m.steps+1}:M).set a x by show (match code[(m.r b+c)%4294967296]? with|some x=>_|none=>_)=_;rw[I]];refine aP rfl hF (ci rfl) rfl ?_;exact k9
  have dz:=ac (k:=m.pc) a7;by_cases bf:4<=op/\op<=15
  .have ev:=p3 bf
   have rc:=b1.rg c ev;change f[1+c]?=S (.d (.int .u32 (m.r c:Nat)))at rc;have fr:(0:Int)<=(c:Int):=a7;have hA:=zO op (m.r b) (m.r c) bf.1 bf.2 (v.r b) (v.r c)
   have hD:doM code inp {m with steps:=m.steps+1} op a b c=match applyN op (m.r b) (m.r c)with|some x=>({m with steps:=m.steps+1}:M).set a x|none=>{m with steps:=m.steps+1,fin:=2}:=by
    obtain rfl|rfl|rfl|rfl|rfl|rfl|rfl|rfl|rfl|rfl|rfl|rfl:op=4\/op=5\/op=6\/op=7\/op=8\/op=9\/op=10\/op=11\/op=12\/op=13\/op=14\/op=15:=a7
    all_goals rfl
   rw[hD];clear hD;generalize applyN op (m.r b) (m.r c)=res at hA|-;unfold Lv at hA;have k1:¬(op:Int)=1:=a7;have k2:¬(op:Int)=2:=a7;have k3:¬(op:Int)=3:=a7;have fs:¬(op:Int)=16:=a7;have ft:¬(op:Int)=17:=a7;have fu:¬(op:Int)=18:=a7;have fw:¬(op:Int)=19:=a7;have fx:¬(op:Int)=20:=a7;have fz:¬(op:Int)=21:=a7;have f':¬(op:Int)=22:=a7;have gb:¬(op:Int)=23:=a7;have gd:¬(op:Int)=24:=a7;have gh:¬(op:Int)=25:=a7;have gi:¬(op:Int)=26:=a7;have gj:¬(op:Int)=27:=a7;simp only[go_sem,hg,t,q,X,k1,k2,k3,fs,ft,fu,fw,fx,fz,f',gb,gd,gh,gi,gj];refine⟨a7,?_⟩;refine cO aA mixed c8 ?_;simp only[go_sem,hg,t,rb,rc,b8,fr];refine⟨a7,a7,?_⟩;cases res with
   |none=>
     refine aP rfl hA (ci rfl) rfl ?_;simp only[go_sem,hg,t];exact⟨a7,bt (.inl rfl) (FrW.from (U.done (m':={m with steps:=m.steps+1,fin:=2}) t (λi hi=>by (try simp only[upd]);repeat (rw[j8 (by omega)]);try rfl) (λi hi=>by (try simp only[upd]);repeat (rw[j8 (by omega)]);try rfl) (by simp[upd]<;>rfl) rfl rfl λ_ _ _ V=>V.setFin 2) ar)⟩
   |some x=>
     refine aP rfl hA (ci rfl) rfl ?_;exact k9
  by_cases gk:op=17
  .subst gk
   have L:=b1.c17;have E:mi≠13/\mi≠3002/\mi≠47/\mi≠38:=a7;have e2:=CW (m.r b) c;have b4:(m.r b+c)%4294967296<4294967296:=O0 _ b9;rw[show doM code inp {m with steps:=m.steps+1} 17 a b c=(if (m.r b+c)%4294967296<z m.mem then({m with steps:=m.steps+1,mem:=m.mem.set ((m.r b+c)%4294967296) (m.r a),pc:=m.pc+1}:M)else {m with steps:=m.steps+1,fin:=8})from rfl];generalize (m.r b+c)%4294967296=at' at e2 b4|-;have e3:=w64 (n:=at') a7;have e4:=w64 (n:=z m.mem) a7;have e0:(0:Int)<=(at':Int):=a7;simp only[go_sem,hg,t,q,X];refine⟨a7,?_⟩;refine bO c8 ?_;by_cases hz:at'<z m.mem
   .have e:¬(z m.mem:Int)<=(at':Int):=a7
    have b5:z (ji m.mem)=z m.mem:=by unfold ji;rw[j6]
    rw[l8 hz];simp only[go_sem,hg,t,rb,b8,b',e2,L,e3,e4,e,e0,K,E.2.1,B8 E.1,C7,L3,bd,dz];refine⟨a7,hz,a7,?_⟩;refine⟨a7,bt (.inr rfl) (FrW.from (av:=av) ⟨λi hi G cx cy cz c1=>⟨(λi hi=>by (try simp only[upd]);repeat (rw[j8 (by omega)]);try rfl) i hi,by simp only[upd];(repeat rw[j8 (by omega)])⟩,⟨by simp[upd,hg],f.set 0 (.d (.int .i64 (m.pc+1:Nat))),mi,A,bs,by simp[upd],?_,Q,?_,?_,c',?_⟩⟩ ar)⟩
    .have hp:=b1.setPc (m.pc+1)
     simp only[upd,C2]
     (repeat rw[j8 (by omega)])
     exact⟨hp.len,hp.c0,hp.rl,hp.rg,hp.c17,hp.c18,hp.c19,hp.c20,hp.c21,hp.c22,hp.c23,hp.c24,hp.c25,hp.c26,hp.c27⟩
    .simp only[upd];(repeat rw[j8 (by omega)]);simp[ji,Mu]
    .simp only[upd];(repeat rw[j8 (by omega)]);exact cd
    .simp only[upd];(repeat rw[j8 (by omega)]);exact W
   .have e:(z m.mem:Int)<=(at':Int):=a7
    rw[j8 hz];simp only[go_sem,hg,t,rb,b8,b',e2,L,e3,e4,e,E.2.1,K];exact⟨a7,a7,bt (.inl rfl) (FrW.from (U.done (m':={m with steps:=m.steps+1,fin:=8}) t (λi hi=>by (try simp only[upd]);repeat (rw[j8 (by omega)]);try rfl) (λi hi=>by (try simp only[upd]);repeat (rw[j8 (by omega)]);try rfl) (by simp[upd]<;>rfl) rfl rfl λ_ _ _ V=>V.setFin 8) ar)⟩
  by_cases bl:op=24
  .subst bl
   have d':=b1.c22;have ad:=v.out;rw[show doM code inp {m with steps:=m.steps+1} 24 a b c=(if 65536<=z m.out then({m with steps:=m.steps+1,fin:=4}:M)else {m with steps:=m.steps+1,out:=m.out++[UInt8.ofNat (m.r a)],pc:=m.pc+1})from rfl];have e1:((m.r a:Nat):Int).tmod 256=((m.r a%256:Nat):Int):=rfl;have e2:IntKind.u32.wrap ((m.r a%256:Nat):Int)=((m.r a%256:Nat):Int):=dK a7;have e3:IntKind.u8.wrap ((m.r a%256:Nat):Int)=((m.r a%256:Nat):Int):=by rw[IntKind.wrap_u8];omega
   have gl:(UInt8.ofNat (m.r a)).toNat=m.r a%256:=by rw[Mt]
   obtain⟨rfl,x3⟩:=W;have cm:z (mE m.out)=z m.out:=by unfold mE;rw[j6]
   by_cases O:65536<=z m.out
   .have a6:(65536:Int)<=(z m.out:Int):=a7
    rw[l8 O];simp only[go_sem,hg,t,q,X,d',x3,a6];exact⟨a7,a7,bt (.inl rfl) (FrW.from (U.done (m':={m with steps:=m.steps+1,fin:=4}) t (λi hi=>by (try simp only[upd]);repeat (rw[j8 (by omega)]);try rfl) (λi hi=>by (try simp only[upd]);repeat (rw[j8 (by omega)]);try rfl) (by simp[upd]<;>rfl) rfl rfl λ_ _ _ V=>V.setFin 4) ar)⟩
   .have a6:¬(65536:Int)<=(z m.out:Int):=a7
    rw[j8 O];have e5:∀x,(f.set 22 x)[0]?=S (.d (.int .i64 (m.pc:Nat))):=λx=>by rw[au a7];exact bd
    simp only[go_sem,hg,t,q,X,d',x3,a6,e1,e2,e3,aW,e5,dz];have E:mi≠13/\mi≠3002/\mi≠47/\mi≠38:=a7;refine⟨a7,a7,⟨b9,a7⟩,a7,by simp only[C2];omega,bt (.inr rfl) (FrW.from (av:=av) ⟨λi hi G cx cy cz c1=>⟨by simp only[upd];(repeat rw[j8 (by omega)]),by simp only[upd];(repeat rw[j8 (by omega)])⟩,⟨by simp[upd,hg],(f.set 22 (.osl 38 (nxC (apC 5 (g 38) 0) (g 38)) 1 0 (z m.out+1))).set 0 (.d (.int .i64 (m.pc+1:Nat))),mi,(.osl 38 (nxC (apC 5 (g 38) 0) (g 38)) 1 0 (z m.out+1)),bs,by simp[upd],?_,Q,?_,?_,c',?_,?_⟩⟩ ar)⟩
    .have hp:=(b1.setOut (.osl 38 (nxC (apC 5 (g 38) 0) (g 38)) 1 0 (z m.out+1)) (m.out++[UInt8.ofNat (m.r a)])).setPc (m.pc+1)
     simp only[upd]
     (repeat rw[j8 (by omega)])
     exact hp
    .simp only[upd];(repeat rw[j8 (by omega)]);exact K
    .simp only[upd];(repeat rw[j8 (by omega)]);exact cd
    .simp[upd]
    .simp only[upd,B1]
     rw[j8 b9];simp[mE,gl];exact s6 a8
  exfalso;omega
def Wx(l:List Int):D:=.sl (l.map λn=>[.int .i64 n])
def WC.state{cs cf:List C}{code:List Nat}{inp:Str}{m:M}{b A u:C}(h:WC cs code inp m b A u)(hl:z cf=28)(c:∀i,i<22->i≠19->cf[i]?=cs[i]?){o:Str}(ho:cf[19]?=S (.d (.str o))):cf.take 22=stC {m with out:=o} b:=by
 have g:=CY (m:={m with out:=o}) h.rl b;refine M5 λi=>?_;rw[I1];by_cases e:i<22
 .rw[l8 e]
  unfold stC;by_cases f:i=0
  .subst f;exact(c 0 a7 a7).trans h.c0
  by_cases U:i<=16
  .obtain⟨a,rfl⟩:∃a,i=a+1:=⟨i-1,a7⟩
   rw[c (a+1) a7 a7,show a+1=1+a by omega,h.rg a a7];rw[show 1+a=a+1 by omega,F0 (by simp[h.rl];omega),l9,s9,Qv,x8];have:a<z m.reg:=by rw[h.rl];omega
   rw[v8 this];unfold M.r;rw[ES,v8 this];rfl
  .obtain⟨k,rfl⟩:∃k,i=17+k:=⟨i-17,a7⟩
   rw[D4 (by simp[h.rl])];simp only[j6,j9,h.rl];rw[show 17+k-(16+1)=k by omega];obtain rfl|rfl|rfl|rfl|rfl:k=0\/k=1\/k=2\/k=3\/k=4:=a7
   .exact(c 17 a7 a7).trans h.c17
   .exact(c 18 a7 a7).trans h.c18
   .exact ho
   .exact(c 20 a7 a7).trans h.c20
   .exact(c 21 a7 a7).trans h.c21
 .rw[j8 e,E5 a7]
def BF(l:List Nat):List.map C.d (l.map λx=>[D.int .u32 (x:Nat)]).flatten=ji l:=by
 unfold ji
 induction l with
 |nil=>rfl
 |cons a l b=>simp only[l9,E8,C3,A6,b]
def Ii(n:Nat):(List.replicate n [C.d (.int .i64 0)]).flatten=lQ (List.replicate n 0):=by
 unfold lQ
 induction n with
 |zero=>rfl
 |succ n a=>simp only[F6,E8,l9,C3,A6,a]
def Pq(code:List Nat)(d:Nat)(inp:Str)(q:Nat)(hl:z code<=1000000)(H:∀x∈code,x<4294967296)(hd:d<=32768)(Y:q<=500000000000):
  ax Tryz.prog 58 [eZ (code,d),sv inp,stV (Mach.start d),iv .i64 q] (λr=>∃p:List Int,r=.tup [stV (runM okI code inp q (Mach.start d)),.one (.d (Wx p))]):=by
 refine hdR Tryz.func58 rfl [.cell 8 91,.tmp 9] λg=>?_;have hC:=Pw code d hl H;have u:stV (Mach.start d)=.agg [.d (.int .i64 0),.d (.int .u32 0),.d (.int .u32 0),.d (.int .u32 0),.d (.int .u32 0),.d (.int .u32 0),.d (.int .u32 0),.d (.int .u32 0),.d (.int .u32 0),.d (.int .u32 0),.d (.int .u32 0),.d (.int .u32 0),.d (.int .u32 0),.d (.int .u32 0),.d (.int .u32 0),.d (.int .u32 0),.d (.int .u32 0),.d (kM (List.replicate d 0)),.d (.int .i64 0),.d (.str []),.d (.int .i64 0),.d (.int .i64 0)]:=rfl;rw[u];have B:=BF (List.replicate d 0);have U:∀e∈((List.replicate d 0).map λx=>[D.int .u32 ((x:Nat):Int)]),z e=1:=λe he=>by obtain⟨x,_,rfl⟩:=E3.1 he;rfl
 have ad:z ((List.replicate d 0).map λx=>[D.int .u32 ((x:Nat):Int)])=d:=a8;have t:(Mach.start d).mem=List.replicate d 0:=rfl;have P:z (List.replicate d 0)=d:=G0;unfold kM;generalize ((List.replicate d 0).map λx=>[D.int .u32 ((x:Nat):Int)])=W at B U ad|-;have bd:(0:Int)<=(z code:Int):=a7;unfold eZ at hC|-;simp only at hC|-;generalize hI:code.map nY=I at hC;generalize X:(code.map λw=>[D.bool (okW w)])=O at hC;unfold eO at hC|-;simp only[go_sem];refine bJ rfl (by simp only[go_sem];exact hC) ?_;rintro _ rfl;simp only[go_sem];refine fL aA mixed [24,12] [([6],[0,1],[],F),([20],[0,1],[],F),([6],[0,1],[],F),([22],[0,1],[],F),([],[1],[0],F),([6],[0,1],[],F),([25],[0,1],[],F),([24,26],[1],[0],F),([6],[0,1],[],F),([28],[0,1],[],F),([6],[0,1],[],F),([30],[0,1],[],F),([6],[0,1],[],F),([32],[0,1],[],F),([21,23,27,29,31,33],[1],[],F),([],[0],[1],F),([12,34],[],[],T)] 2 c8 rfl b9 ?_;simp only[go_sem]
 iterate 4 (apply aI;· (intro fa ga oa K' J;simp only[go_sem]at J|-;exact J))
 (apply cJ;· (intro fa ga oa K' J;simp only[go_sem,aW]at J|-;exact J))
 iterate 2 (apply aI;· (intro fa ga oa K' J;simp only[go_sem]at J|-;exact J))
 (apply cJ;· (intro fa ga oa K' J;simp only[go_sem,aW]at J|-;exact⟨U,⟨b9,a7⟩,J⟩))
 iterate 7 (apply aI;· (intro fa ga oa K' J;simp only[go_sem]at J|-;exact J))
 (apply cJ;· (intro fa ga oa K' J;simp only[go_sem]at J|-;exact J))
 apply cL;intro K' a';simp only[go_sem];refine a' _ ?_;clear a' K';simp only[go_sem];refine fL aA mixed [38,47,13] [([12],[0,1,2],[],F),([6],[1,2],[],F),([36],[1,2],[],F),([37],[1,2],[0],F),([10],[0,1,2],[],F),([11],[0,1,2],[],F),([4],[0,1,2],[],F),([41],[0,1,2],[],F),([1],[0,1,2],[],F),([4],[0,2],[],F),([44],[0,2],[],F),([45],[0,2],[],F),([46],[0,2],[1],F),([35,38,39,40,42,43,47],[2],[],F),([],[0,1],[2],F),([13,48],[],[],T)] 3 c8 rfl b9 ?_;simp only[go_sem]
 iterate 3 (apply aI;· (intro fa ga oa K' J;simp only[go_sem]at J|-;exact J))
 (apply cJ;· (intro fa ga oa K' J;simp only[go_sem,aW]at J|-;exact J))
 iterate 8 (apply aI;· (intro fa ga oa K' J;simp only[go_sem,j6]at J|-;exact J))
 (apply cJ;· (intro fa ga oa K' J;simp only[go_sem,bd]at J|-;exact⟨l7 _,a7,a7,J⟩))
 (apply aI;· (intro fa ga oa K' J;simp only[go_sem]at J|-;exact J))
 (apply cJ;· (intro fa ga oa K' J;simp only[go_sem]at J|-;exact J))
 apply cL;intro K' a';simp only[go_sem];refine a' _ ?_;clear a' K';simp only[go_sem];refine eF (λn K=>∃(k:Nat)(m:M),n+k=q/\runM okI code inp q (Mach.start d)=runM okI code inp n m/\Mach.Good m/\z m.mem=d/\m.steps<=k/\m.rd<=k/\Wn (nxC 188 (g 13)) code inp m K.gen K.obj/\K.f 3=iv .i64 q/\K.f 14=iv .i64 k/\K.f 13=.one (.ptr 13 (nxC 188 (g 13)) 0)/\K.f 8=.one (.ptr 8 (nxC 92 (g 8)) 0)/\K.gen 8=nxC 92 (g 8)/\∃Z,K.obj 8=S Z/\z Z=22) q ?_ ?_
 .refine⟨0,Mach.start d,rfl,rfl,pZ d,P,L0 _,L0 _,⟨?_,_,24,_,List.replicate (z code) 0,by simp only[upd,B1]<;>rfl,⟨rfl,rfl,rfl,λa ha=>?_,?_,rfl,rfl,rfl,rfl,rfl,?_,?_,rfl,rfl,?_⟩,.inl rfl,?_,?_,G0,?_,?_⟩,?_⟩
  .simp only[upd,B1]
  .obtain rfl|rfl|rfl|rfl|rfl|rfl|rfl|rfl|rfl|rfl|rfl|rfl|rfl|rfl|rfl|rfl:a=0\/a=1\/a=2\/a=3\/a=4\/a=5\/a=6\/a=7\/a=8\/a=9\/a=10\/a=11\/a=12\/a=13\/a=14\/a=15:=a7
   all_goals rfl
  .rw[show z (Mach.start d).mem=z W by rw[t,P,ad]];rfl
  .rw[hI];rfl
  .rw[X];rfl
  .rfl
  .rw[t,<-B];rfl
  .rw[<-Ii];rfl
  .rfl
  .rfl
  .simp only[go_sem]
   exact⟨_,rfl,rfl⟩
 rintro n f g' ob ⟨k,m,hn,bf,v,al,b3,b7,hW,q3,E,c,q8,s,Z,o8,hZ⟩;simp only at hW q3 E c q8 s o8;obtain⟨l,cs,mi,A,p,ho,V,Q,cb,c7,bz,rfl,ar⟩:=id hW;have an:=ac (k:=k) a7;by_cases bk:k<q/\m.fin=0
 .obtain⟨af,hf⟩:=bk
  have G:(k:Int)<(q:Int):=a7;have a6:(m.fin:Int)=0:=a7;simp only[go_sem,q3,E,c,G,l,ho,V.c21,a6];refine ck rfl (by simp only[go_sem,c];exact Pp hW H v a7 hl a7 a7 hf) ?_;rintro r g2 bo ⟨f1,f2⟩;obtain⟨n1,n2,n3⟩:=EJ (okI:=okI) (code:=code) (inp:=inp) m;simp only[go_sem,E,an];refine cH (n-1) a7 ⟨k+1,mV okI code inp m,a7,?_,wD v H,a7,a7,a7,f2,?_⟩
  .rw[bf,show n=(n-1)+1 by omega,EH hf];rfl
  simp only[go_sem,q3,c,q8];have h8:=f1 8 b9 b9 b9 b9 b9 b9;exact⟨h8.1.trans s,Z,h8.2.trans o8,hZ⟩
 .have bl:runM okI code inp q (Mach.start d)=m:=by
   rw[bf];by_cases hf:m.fin=0
   .rw[show n=0 by omega];rfl
   .exact Is hf n
  rw[bl];have bs:(¬(k:Int)<(q:Int))\/((k:Int)<(q:Int)/\¬(m.fin:Int)=0):=a7;have L:u8s (List.take (z m.out) (mE m.out))=S (m.out.map λb=>((b.toNat:Nat):Int)):=by rw[s6 (by simp[mE])];exact oN _
  have b0:=V.len;have cm:z (mE m.out)=z m.out:=by simp[mE]
  have hb:(List.map (λn:Int=>UInt8.ofNat n.toNat) (List.map (λb:UInt8=>((b.toNat:Nat):Int)) m.out))=m.out:=by
   rw[Qv]
   conv=>rhs;rw[<-List.map_id m.out]
   exact Qj λb _=>by simp
  have hL:=V.state (cf:=cs.set 19 (C.d (D.str m.out))) (o:=m.out) (by rw[C2];exact b0) (λi hi av=>au a7) (jJ a7);have cc:(cs.set 19 (C.d (D.str m.out)))[27]?=S (.osl 47 (g' 47) 1 0 (z code)):=(au a7).trans V.c27;have y:=CY (m:={m with out:=m.out}) V.rl (.osl mi (g' mi) 1 0 (z m.mem));have hT:(stC {m with out:=m.out} (.osl mi (g' mi) 1 0 (z m.mem))).take 22=stC {m with out:=m.out} (.osl mi (g' mi) 1 0 (z m.mem)):=s6 a7;rcases bs with G|⟨G,a6⟩
  case' inl=>simp only[go_sem,q3,E,c,G,l,ho,V.c22,ar,L3,D3,L,hb]
  case' inr=>simp only[go_sem,q3,E,c,G,l,ho,V.c21,a6,V.c22,ar,L3,D3,L,hb]
  all_goals
   refine⟨a7,a7,?_⟩;refine fL aA mixed [8] [([13],[],[],F),([66],[],[],F),([13],[0],[],F),([68],[0],[],F),([8,67],[],[0],F),([69],[],[],T)] 1 c8 rfl b9 ?_;simp only[go_sem]
   (apply aI;· (intro fa ga oa K' J;simp only[go_sem,c,l]at J|-;exact J))
   (apply aI;· (intro fa ga oa K' J;simp only[go_sem,l,D3,hL]at J|-;exact⟨by rw[C2];omega,J⟩))
   (apply aI;· (intro fa ga oa K' J;simp only[go_sem,c,l]at J|-;exact J))
   (apply aI;· (intro fa ga oa K' J;simp only[go_sem,l,cc]at J|-;exact J))
   (apply jo;(focus simp);(focus (intro fa ga oa K' J;simp only[go_sem,q8,s,o8,y]at J|-;exact⟨a7,J⟩)))
   apply cL;intro K' a';simp only[go_sem];refine a' _ ?_;clear a' K';rw[oX (by rw[y];exact hZ)];simp only[go_sem,q8,s,hT,y];refine⟨_,⟨_,⟨_,_,rfl,oV (m:=m) ?_ rfl,_,_,rfl,xL ?_,rfl⟩,rfl⟩,p,rfl⟩
   .refine uq rfl ?_ rfl
    rcases Q with rfl|rfl<;>(simp only[upd];(repeat rw[j8 (by decide)]);exact cb)
   .refine qh (cells:=lQ p) (off:=0) rfl ?_ p (λn=>.int .i64 n) (λ_=>rfl) bz (λj a h=>by rw[C7];unfold lQ;rw[x8,h];rfl) (by unfold lQ;rw[j6];omega)
    simp only[upd];(repeat rw[j8 (by decide)]);exact c7
def TN(code:List Nat)(d:Nat)(inp:Str)(q:Nat)(hl:z code<=1000000)(H:∀x∈code,x<4294967296)(hd:d<=32768)(Y:q<=500000000000):
  ax Tryz.prog 35 [eZ (code,d),sv inp,stV (Mach.start d),iv .i64 q] (·=stV (runM okI code inp q (Mach.start d))):=by
 refine hdR Tryz.func35 rfl [.cell 8 91] λg=>?_;have i:=Pq code d inp q hl H hd Y;have a:=uX (okI:=okI) (inp:=inp) H (n:=q) (pZ d);generalize runM okI code inp q (Mach.start d)=M at i a|-;unfold eZ at i|-;have u:stV (Mach.start d)=.agg ((stD (Mach.start d)).map .d):=rfl;have e:List.take 22 (List.map C.d (stD (Mach.start d)))=List.map C.d (stD (Mach.start d)):=s6 (by simp[stD,Mach.start]);rw[u]at i|-;have c:z ((stD M).map C.d)=22:=by simp[stD,a.len]
 have j:((stD M).map C.d).take 22=(stD M).map C.d:=s6 a7;simp only[go_sem,e];refine⟨by simp[stD,Mach.start],?_⟩;refine fD rfl (by simp only[go_sem,e];exact i) (by simp only[go_sem,e];rfl) ?_;rintro _ ⟨p,rfl⟩;unfold stV;simp only[go_sem,c];rw[oX (by rw[c];rfl)];refine⟨a7,?_⟩;simp only[go_sem,j,c];rw[oX (by rw[c];rfl)];refine⟨a7,?_⟩;rw[j];exact⟨_,oV (m:=M) (b:=.d (kM M.mem)) (.d _) (by unfold stD;rw[B5];rfl),rfl⟩
def CZ(code:List Nat)(d:Nat)(inp:Str)(q:Nat)(hl:z code<=1000000)(H:∀x∈code,x<4294967296)(hd:d<=32768)(Y:q<=500000000000):
  ax Tryz.prog 13 [eZ (code,d),sv inp,iv .i64 q] (·=Ly (EI okI code d inp q)):=by
 refine hdR Tryz.func13 rfl [.cell 6 53] λg=>?_;have U:=Im code d hd;have r:=TN code d inp q hl H hd Y;have a:=uX (okI:=okI) (inp:=inp) H (n:=q) (pZ d);unfold EI;generalize runM okI code inp q (Mach.start d)=M at r a|-;unfold eZ at U r|-;have c:z ((stD M).map C.d)=22:=by simp[stD,a.len]
 have s:∀k,k<5->((stD M).map C.d)[17+k]?=([.d (kM M.mem),.d (.int .i64 (M.rd:Nat)),.d (.str M.out),.d (.int .i64 (M.steps:Nat)),.d (.int .i64 (M.fin:Nat))]:List C)[k]?:=λk B=>by
  have A:(stD M).map C.d=((.int .i64 (M.pc:Nat)::M.reg.map λx=>D.int .u32 (x:Nat)):List D).map C.d++[.d (kM M.mem),.d (.int .i64 (M.rd:Nat)),.d (.str M.out),.d (.int .i64 (M.steps:Nat)),.d (.int .i64 (M.fin:Nat))]:=by
   unfold stD;rw[B5];rfl
  rw[A,D4 (by simp[a.len])];simp only[j6,j9,a.len];rw[show 17+k-(16+1)=k by omega]
 have b:((stD M).map C.d)[19]?=S (.d (.str M.out)):=s 2 b9;have e:((stD M).map C.d)[20]?=S (.d (.int .i64 (M.steps:Nat))):=s 3 b9;have f:((stD M).map C.d)[21]?=S (.d (.int .i64 (M.fin:Nat))):=s 4 b9;clear s;unfold stV at r;generalize (stD M).map C.d=L at r c b e f;have E:L.take 22=L:=s6 a7;have i:stV (Mach.start d)=.agg ((stD (Mach.start d)).map .d):=rfl;rw[i]at U;simp only[go_sem];refine fL aA mixed [7] [([3],[0],[],F),([1],[0],[],F),([3],[0],[],F),([10],[0],[],F),([2],[0],[],F),([8,9,11,12],[0],[],F),([],[],[0],F),([7,13],[],[],T)] 1 c8 rfl b9 ?_;simp only[go_sem]
 iterate 3 (apply aI;· (intro t ga u p J;simp only[go_sem]at J|-;exact J))
 refine aI (v:=.agg ((stD (Mach.start d)).map .d)) (λt ga u p J=>?_) ?_
 .simp only[go_sem]at J|-
  refine fD (k:=bx p) rfl (by simp only[go_sem];exact U) VG ?_;exact SF
 (apply aI;· (intro t ga u p J;simp only[go_sem]at J|-;exact J))
 refine aI (v:=.agg L) (λt ga u p J=>?_) ?_
 .simp only[go_sem]at J|-
  refine fD (k:=bx p) rfl (by simp only[go_sem];exact r) VG ?_;exact SF
 (apply cJ;· (intro t ga u p J;simp only[go_sem]at J|-;exact J))
 apply cL;intro p w;simp only[go_sem,c];refine w _ ?_;clear w p;rw[oX (by rw[c];rfl)];have j:=c;by_cases y:M.fin=0
 .have h:(M.fin:Int)=0:=a7
  rw[l8 y];have l:(L.set 21 (C.d (D.int .i64 5)))[21]?=S (C.d (D.int .i64 5)):=jJ a7;have m:(L.set 21 (C.d (D.int .i64 5)))[20]?=S (.d (.int .i64 (M.steps:Nat))):=by rw[au b9];exact e
  have o:(L.set 21 (C.d (D.int .i64 5)))[19]?=S (.d (.str M.out)):=by rw[au b9];exact b
  simp only[go_sem,f,h,l,m,o];exact⟨a7,_,Ib,rfl⟩
 .have h:¬(M.fin:Int)=0:=a7
  rw[j8 y];simp only[go_sem,b,e,f,h];exact⟨_,Ib,rfl⟩
end
end Go.Proofs.YtlacbjnmkhndiaaGreatDoor
namespace Go.Proofs.YtlacbjnmkhndiaaGreatDoor.Low
section
open Go Go.Am Go.Asm Go.Mach
attribute[local congr]ite_cc
def gq(t:Nat)(code:List Nat)(d:Nat):Nat:=8*(t+1)*(z code+d+1)
def F_A(t:Nat)(code:List Nat)(d:Nat)(j:t<=1000)(hl:z code<=1000000)(hd:d<=32768):ax Tryz.prog 14 [iv .i64 t,eZ (code,d)] (·=iv .i64 (gq t code d:Nat)):=by
 refine hdP Tryz.func14 rfl [4] λg=>?_;have U:IntKind.i64.wrap ((t:Int)+1)=((t+1:Nat):Int):=by rw[wrap_i64]<;>omega
 have a:IntKind.i64.wrap (8*((t+1:Nat):Int))=((8*(t+1):Nat):Int):=by rw[wrap_i64]<;>omega
 have b:IntKind.i64.wrap ((z code:Int)+(d:Int))=((z code+d:Nat):Int):=by rw[wrap_i64]<;>omega
 have e:IntKind.i64.wrap (((z code+d:Nat):Int)+1)=((z code+d+1:Nat):Int):=by rw[wrap_i64]<;>omega
 have i:IntKind.i64.wrap (((8*(t+1):Nat):Int)*((z code+d+1:Nat):Int))=(gq t code d:Nat):=by
  have hb:8*(t+1)*(z code+d+1)<=8008*1032769:=Nat.mul_le_mul a7 a7;unfold gq;rw[<-N6,wrap_i64]<;>omega
 unfold eZ eO;simp only[go_sem,j6,U,a,b,e,i]
def aB:Str:=[83,69,69,68,6,0,0,0,1,0,0,0,1,0,240,1,65,0,16,1,0,0,16,17,0,0,16,16,0,0,16,24,0,0,0,26]
def aC:List Nat:=[32505857,17825857,286261248,269484032,403701760,436207616]
def a_r:ki aB=S (aC,1):=c8
def a_x:EI okI aC 1 [] (gq 0 aC 1)=(1,[65],6):=c8
def e_c:fR ⟨[],[],[]⟩=(([],0),7):=c8
def Tu{P:Program}{q:Nat}{o:cF}{f:FuncId}{R:AV->Prop}(h:bP P q o f [.agg [.d (.sl []),.d (.sl []),.d (.sl [])]] R):bP P q o f [.agg [.d .nsl,.d .nsl,.d .nsl]] R:=
 ⟨h.1,λJ w vs h0 U h2=>h.2 J w vs h0 U (by
  simp only[RVs,RV]at h2|-;obtain⟨u,us,rfl,⟨L,rfl,hl,Z⟩,al⟩:=h2;refine⟨_,us,rfl,⟨L,rfl,hl,λi c hi=>?_⟩,al⟩
  have hn:([.d .nsl,.d .nsl,.d .nsl]:List C)[i]?=S (.d .nsl):=by
   match i,hi with
   |0,_=>rfl
   |1,_=>rfl
   |2,_=>rfl
  have hs:c=.d (.sl []):=by
   match i,hi with
   |0,hi=>cases hi;rfl
   |1,hi=>cases hi;rfl
   |2,hi=>cases hi;rfl
  obtain⟨v,hv,x,I,V⟩:=Z i _ hn;cases I;cases V;exact⟨_,hv,_,hs,.sl0⟩)⟩
def mT(b:Bool):(List Nat×Nat)×Nat:=if b then((aC,1),0)else(([],0),3)
def oB(b:Bool):Str×Nat×Nat:=if b then(aB,0,0)else([],22,3)
def m_T(b:Bool):(if (rT b).2.2≠0 then(([],0),(rT b).2.2)else fR (rT b).1)=mT b:=by cases b<;>decide +kernel
def o_T(b:Bool):oB b=((if (mT b).2≠0 then []else LJ (mT b).1),(rT b).2.1,(mT b).2):=by cases b<;>decide +kernel
def wI{o:cF}(ho:jS o)(b:Bool):bP Tryz.prog 1 o 11 [sv (vD b)] (·=CM (oB b)):=by
 have hP:=PV ho b;have hT:=KV ho (p:=(rT b).1) (e:=(rT b).2.2) (λ_=>by cases b<;>decide);rw[m_T]at hT;have i:=KW (o:=o) (m:=(mT b).1) (e:=(mT b).2) (by cases b<;>decide) (by cases b<;>decide);rw[o_T];generalize rT b=r at hP hT|-;generalize mT b=m at hT i|-;obtain⟨p,j,e⟩:=r;obtain⟨⟨code,data⟩,c⟩:=m;have G:bS p=.agg [.d (.sl (p.vars.map λs=>[.str s])),.d (.sl (p.arrays.map arD)),.d (.sl (p.funcs.map fnD))]:=rfl;have a:eZ (code,data)=.agg [.d (eO code),.d (.int .i64 (data:Nat))]:=rfl;unfold GN at hP;unfold qF at hT;simp only at hP hT i|-;rw[G]at hP hT;rw[a]at hT i;refine hdG Tryz.func11 rfl [.tmp 2,.tmp 3,.tmp 4] λO bn s0 w0 g=>?_;simp only[go_sem];refine cG rfl Xp ?_;rintro _ rfl;simp only[go_sem];refine cG rfl VT ?_;rintro _ rfl;simp only[go_sem];refine cG rfl (by simp only[go_sem];exact i) ?_;rintro _ rfl;unfold CM;simp only[go_sem];exact⟨_,KT,rfl⟩
def Me{o:cF}(b:jS o):bP Tryz.prog 1 o 5 [] (·=bv T):=by
 refine hdG Tryz.func5 rfl [.tmp 0] λO bn s0 w0 g=>?_;simp only[go_sem];refine cG rfl (by simp only[go_sem];exact wI b T) ?_;rintro _ rfl;unfold CM oB;simp only[go_sem];refine ip rfl (by simp only[go_sem];exact BH aB b9) ?_;rintro _ rfl;rw[a_r];unfold Bx eZ;simp only[go_sem];refine bY aA mixed aE [6] [([4],[0],[],F),([4],[0],[],F),([23],[0],[],F),([22,24],[0],[],F),([],[],[0],F),([6,25],[],[],T)] 1 rfl c8 rfl b9 ?_;simp only[go_sem]
 iterate 2 (apply aj;(case hg=>first|exact x9|exact⟨_,rfl,by decide,rfl⟩);(case U=>intro e ga j a J;simp only[go_sem]at J|-;exact J))
 refine aj (v:=iv .i64 (gq 0 aC 1:Nat)) x9 (λe ga j a J=>?_) ?_
 .simp only[go_sem]at J|-
  refine ip rfl (by simp only[go_sem];exact F_A 0 aC 1 b9 b9 b9) ?_;exact SF
 refine aj (v:=Ly (1,[65],6)) x9 (λe ga j a J=>?_) ?_
 .simp only[go_sem]at J|-
  refine ip rfl (by simp only[go_sem];exact CZ aC 1 [] (gq 0 aC 1) b9 c8 b9 b9) ?_;rintro _ rfl;rw[a_x];exact nn
 unfold Ly
 (apply bF;(case hg=>first|exact x9|exact⟨_,rfl,by decide,rfl⟩);(case U=>intro e ga j a J;simp only[go_sem]at J|-;exact J))
 refine bZ x9 ?_;intro a l;simp only[go_sem];refine l _ ?_;clear l a;simp only[go_sem];refine cG rfl (by simp only[go_sem];exact wI b F) ?_;rintro _ rfl;unfold CM oB;simp only[go_sem];refine cG rfl (by simp only[go_sem];exact Tu (xw b (p:=⟨[],[],[]⟩) c8)) ?_;rintro _ rfl;rw[e_c];unfold qF eZ;exact hx
end
end Go.Proofs.YtlacbjnmkhndiaaGreatDoor.Low
namespace Go.Am
section
attribute[local congr]ite_cc
section
variable{ar:Sp}{s:St}{B:(Exit->St->Prop)->St->Prop}{Q:Exit->St->Prop}
def Hv{b:Box B}{q:Box Q}(d:St)(h:ar.vs s d)(J:Nat->St->Prop)(n:Nat)(e:J 0 d)
 (V:∀k f g a,k<=n->J k ⟨f,g,a⟩->B (iQ (bx λW=>∃j d,j<n-k/\ar.vs W d/\∃c,j+c=n/\J c d) q) ⟨f,g,a⟩):ng ar b q s:=
 ⟨λm K=>∃k,m+k=n/\J k K,⟨n,d,h,0,rfl,e⟩,λm K⟨k,U,i⟩=>by
  have:=V k K.f K.gen K.obj a7 i
  rwa [show n-k=m by omega]at this⟩
def dD{b:Box B}{q:Box Q}(J:Nat->St->Prop)(n:Nat)(h0:J 0 s)
 (V:∀k f g ob,k<=n->J k ⟨f,g,ob⟩->B (iQ (bx λW=>∃j d,j<n-k/\ar.vs W d/\∃k',j+k'=n/\J k' d) q) ⟨f,g,ob⟩)(hv:∀s,ar.vs s s:=by exact λs=>ae.refl s):ng ar b q s:=Hv s (hv s) J n h0 V
def bN{J:Nat->St->Prop}{n k:Nat}(h:k<n)(hJ:J (k+1) s)(hv:ar.vs s s:=by exact ae.refl _):∃j d,j<n-k/\ar.vs s d/\∃k',j+k'=n/\J k' d:=
 ⟨n-(k+1),s,a7,hv,k+1,a7,hJ⟩
end
end
end Go.Am
namespace Go.Src
section
attribute [local congr] Go.Am.ite_cc
section
mutual
def inE:Ex->Prop
 |.mk _ _ _ _ kids=>z kids<=1000000000000000000/\qI kids
def qI:List Ex->Prop
 |[]=>True
 |e::l=>inE e/\qI l
end
mutual
def inS:Stm->Prop
 |.mk _ _ e a el=>(z e<=1000000000000000000/\qI e)/\(z a<=1000000000000000000/\pR a)/\(z el<=1000000000000000000/\pR el)
def pR:List Stm->Prop
 |[]=>True
 |e::l=>inS e/\pR l
end
def Hw:∀{l:List Ex}{k:Nat}{e:Ex},qI l->l[k]?=S e->inE e
 |_::_,0,_,h,he=>by cases he;exact h.1
 |_::_,_+1,_,h,he=>Hw h.2 (by simpa using he)
def Hx:∀{l:List Stm}{k:Nat}{e:Stm},pR l->l[k]?=S e->inS e
 |_::_,0,_,h,he=>by cases he;exact h.1
 |_::_,_+1,_,h,he=>Hx h.2 (by simpa using he)
mutual
def mQ:Ex->Int->Int->Int
 |.mk _ _ _ name kids,left,b=>if b<=0\/60<(z name:Int)then -1 else cX kids (left-1) (b-1)
def cX:List Ex->Int->Int->Int
 |[],left,_=>left
 |e::l,left,b=>if left<0 then left else cX l (mQ e left b) b
end
mutual
def mR:Stm->Int->Int->Int
 |.mk _ name e a el,left,b=>if b<=0\/60<(z name:Int)then -1 else dt el (dt a (cX e (left-1) (b-1)) (b-1)) (b-1)
def dt:List Stm->Int->Int->Int
 |[],left,_=>left
 |e::l,left,b=>if left<0 then left else dt l (mR e left b) b
end
variable{left b:Int}
def Bq(h:left<0):∀l:List Ex,cX l left b=left
 |[]=>rfl
 |e::l=>by rw[cX,l8 h]
def mw(h:left<0):∀l:List Stm,dt l left b=left
 |[]=>rfl
 |e::l=>by rw[dt,l8 h]
mutual
theorem Hy:∀(e:Ex)(left b:Int),mQ e left b<0\/mQ e left b+szE e=left
 |.mk _ _ _ name kids,left,b=>by
   rw[mQ,szE];split
   .omega
   .have:=rN kids (left-1) (b-1);omega
theorem rN:∀(l:List Ex)(left b:Int),cX l left b<0\/cX l left b+bc l=left
 |[],left,b=>by rw[cX,bc];omega
 |e::l,left,b=>by
   rw[cX,bc];split
   .omega
   .have:=Hy e left b
    by_cases h:(mQ e left b)<0
    .rw[Bq h];omega
    .have:=rN l (mQ e left b) b;omega
end
mutual
theorem Hz:∀(e:Stm)(left b:Int),mR e left b<0\/mR e left b+szS e=left
 |.mk _ name e a el,left,b=>by
   rw[mR,szS];split
   .omega
   .have U:=rN e (left-1) (b-1)
    by_cases h:(cX e (left-1) (b-1))<0
    .rw[mw h,mw h];omega
    have c:=oQ a (cX e (left-1) (b-1)) (b-1);by_cases q:(dt a (cX e (left-1) (b-1)) (b-1))<0
    .rw[mw q];omega
    have d:=oQ el (dt a (cX e (left-1) (b-1)) (b-1)) (b-1);omega
theorem oQ:∀(l:List Stm)(left b:Int),dt l left b<0\/dt l left b+aD l=left
 |[],left,b=>by rw[dt,aD];omega
 |e::l,left,b=>by
   rw[dt,aD];split
   .omega
   .have:=Hz e left b
    by_cases h:(mR e left b)<0
    .rw[mw h];omega
    .have:=oQ l (mR e left b) b;omega
end
mutual
theorem HA:∀(e:Ex)(left b:Int),0<=left->-1<=mQ e left b
 |.mk _ _ _ name kids,left,b,h=>by
   rw[mQ];split
   .omega
   .exact rO kids _ _ a7
theorem rO:∀(l:List Ex)(left b:Int),-1<=left->-1<=cX l left b
 |[],left,b,h=>by rw[cX];exact h
 |e::l,left,b,h=>by
   rw[cX];split
   .exact h
   .exact rO l _ _ (HA e _ _ a7)
end
mutual
theorem HC:∀(e:Stm)(left b:Int),0<=left->-1<=mR e left b
 |.mk _ name e a el,left,b,h=>by
   rw[mR];split
   .omega
   .exact rP el _ _ (rP a _ _ (rO e _ _ a7))
theorem rP:∀(l:List Stm)(left b:Int),-1<=left->-1<=dt l left b
 |[],left,b,h=>by rw[dt];exact h
 |e::l,left,b,h=>by
   rw[dt];split
   .exact h
   .exact rP l _ _ (HC e _ _ a7)
end
end
end
end Go.Src
namespace Go.Proofs.YtlacbjnmkhndiaaGreatDoor
section
open Go Go.Am Go.Asm
open Go.Src (Ex Stm szE bc szS aD inE qI inS pR mQ cX mR dt)
attribute[local congr]ite_cc
def de{A:Type}{l:List A}{k:Nat}{e:A}(h:l[k]?=S e):l.drop k=e::l.drop (k+1):=by
 obtain⟨U,rfl⟩:=l5.1 h;exact C1 U
def getD_at{A:Type}{f:A->List D}{l:List A}{k:Nat}{e:A}(h:l[k]?=S e):(l.map f)[k]?=S (f e):=by rw[x8,h];rfl
def zz:∀(al:Nat)(l:List Ex)(left b:Int),bc l<=al->z l<=1000000000000000000->qI l->(-4000000000000000000<=left/\left<=1000000)->(0<=b/\b<=60)->ax Tryz.prog 59 [eb l,iv .i64 left,iv .i64 b] (·=iv .i64 (cX l left b)):=by
 intro al
 induction al using Nat.strongRecOn with
 |ind al A=>
 intro l left b H hl E a1 u;refine hdP Tryz.func59 rfl [6] λg=>?_;obtain⟨X,y⟩:∃X,cX l left b=X:=⟨_,rfl⟩
 rw[y];unfold eb;simp only[go_sem];refine dD (λk K=>∃c:Int,cX (l.drop k) c b=X/\(-4000000000000000000<=c/\c<=1000000)/\K.f 0=.one (.d (.sl (l.map exD)))/\K.f 1=iv .i64 c/\K.f 2=iv .i64 b/\K.f 7=iv .i64 k) (z l) ⟨left,y,a1,?_⟩ ?_
 .exact hx
 rintro k f I L hk ⟨c,Z,O,q0,i,q2,q7⟩;simp only at q0 i q2 q7;have hw:=ac (k:=k) a7;by_cases af:k<z l
 case neg=>
  have Q:¬(k:Int)<(z l:Int):=a7;rw[y9 a7,cX]at Z;simp only[go_sem,q0,i,q2,q7,Q,j6,Z]
 have Q:(k:Int)<(z l:Int):=a7;by_cases o:0<=c
 case neg=>
  rw[Src.Bq a7]at Z;subst Z;simp only[go_sem,q0,i,q2,q7,Q,j6,o]
 have t:IntKind.i64.wrap (c-1)=c-1:=wrap_i64 _ a7 a7;have w:IntKind.i64.wrap (b-1)=b-1:=wrap_i64 _ a7 a7;obtain⟨e,p⟩:=getq af;rw[de p,cX,j8 a7]at Z;have v:=Src.Hw E p;have az:=Src.LU (l6 p);obtain⟨kind,op,num,name,a⟩:=e;have G:exD (.mk kind op num name a)=[.int .i64 kind,.int .i64 op,.int .u32 num,.str name,.sl (a.map exD)]:=by simp only[exD,aK]
 have x:=getD_at (f:=exD) p;rw[G]at x;rw[mQ]at Z;rw[szE]at az;rw[inE]at v;by_cases hd:b<=0
 .rw[l8 (.inl hd),Src.Bq a7]at Z
  simp only[go_sem,q0,i,q2,q7,Q,j6,o,t,hd,<-Z]
 by_cases hn:60<(z name:Int)
 .rw[l8 (.inr hn),Src.Bq a7]at Z
  simp only[go_sem,q0,i,q2,q7,Q,j6,o,t,hd,x,hn,<-Z]
 rw[j8 a7]at Z;have ho:=Src.rN a (c-1) (b-1);have m:=Src.rO a (c-1) (b-1) a7;simp only[go_sem,q0,i,q2,q7,Q,j6,o,t,w,hd,x,hn];refine bJ rfl (by simp only[go_sem,w];exact A (bc a) a7 a (c-1) (b-1) (l7 _) v.1 v.2 a7 a7) ?_;exact U0
end
end Go.Proofs.YtlacbjnmkhndiaaGreatDoor
namespace Go.Src
section
attribute [local congr] Go.Am.ite_cc
open Go.Asm (Str)
def Bt(l:List Str):Bool:=decide (z l<=200)&&l.all λs=>decide ((z s:Int)<=60)
def Lf(left:Int):List Fn->Option Int
 |[]=>S left
 |f::l=>if Bt f.params && Bt f.locals && decide ((z f.name:Int)<=60)then Lf (dt f.body (left-z f.params-z f.locals) 60) l else N
def Tv(p:Prog)(i:Int):Bool:=
 if (Bt p.vars && decide (z p.arrays<=200) && decide (z p.funcs<=70))=F then F
 else if (p.arrays.all λa=>decide ((z a.1:Int)<=60))=F then F
 else match Lf (i-z p.vars-z p.arrays-z p.funcs) p.funcs with
  |some n=>decide (0<=n)
  |none=>F
structure InP (p:Prog):Prop where
 v:p.vars.length<=1000000000000000000
 a:p.arrays.length<=1000000000000000000
 f:p.funcs.length<=1000000000000000000
 fs:∀f∈p.funcs,(f.params.length<=1000000000000000000/\f.locals.length<=1000000000000000000)/\f.body.length<=1000000000000000000/\pR f.body
def CO:∀(l:List Fn)(left n:Int),Lf left l=S n->n<0\/n+((l.map λf=>z f.params+z f.locals+aD f.body).sum:Nat)<=left
 |[],left,n,h=>by cases h;simp
 |f::l,left,n,h=>by
   rw[Lf]at h;split at h
   .have a:=CO l _ n h
    simp only[l9,D9];have b:=oQ f.body (left-z f.params-z f.locals) 60;omega
   .cases h
def UT{p:Prog}{i:Nat}(h:Tv p i=T):z p.vars+z p.arrays+z p.funcs+(p.funcs.map λf=>z f.params+z f.locals+aD f.body).sum<=i:=by
 unfold Tv at h;split at h
 .cases h
 split at h
 .cases h
 split at h
 .rename_i n a
  have b:=M4 h;rcases CO _ _ _ a with U|U<;>omega
 .cases h
end
end Go.Src
namespace Go.Proofs.YtlacbjnmkhndiaaGreatDoor
section
open Go Go.Am Go.Asm
open Go.Src (Ex Stm szE bc szS aD inE qI inS pR mQ cX mR dt)
attribute[local congr]ite_cc
def zB:∀(al:Nat)(l:List Stm)(left b:Int),aD l<=al->z l<=1000000000000000000->pR l->(-4000000000000000000<=left/\left<=1000000)->(0<=b/\b<=60)->ax Tryz.prog 38 [eS l,iv .i64 left,iv .i64 b] (·=iv .i64 (dt l left b)):=by
 intro al
 induction al using Nat.strongRecOn with
 |ind al y=>
 intro l left b H hl E a1 u;refine hdP Tryz.func38 rfl [6] λg=>?_;obtain⟨X,A⟩:∃X,dt l left b=X:=⟨_,rfl⟩
 rw[A];unfold eS;simp only[go_sem];refine dD (λk K=>∃c:Int,dt (l.drop k) c b=X/\(-4000000000000000000<=c/\c<=1000000)/\K.f 0=.one (.d (.sl (l.map smD)))/\K.f 1=iv .i64 c/\K.f 2=iv .i64 b/\K.f 7=iv .i64 k) (z l) ⟨left,A,a1,?_⟩ ?_
 .exact hx
 rintro k f I L hk ⟨c,Z,O,q0,o,q2,q7⟩;simp only at q0 o q2 q7;have hw:=ac (k:=k) a7;by_cases af:k<z l
 case neg=>
  have Q:¬(k:Int)<(z l:Int):=a7;rw[y9 a7,dt]at Z;simp only[go_sem,q0,o,q2,q7,Q,j6,Z]
 have Q:(k:Int)<(z l:Int):=a7;by_cases t:0<=c
 case neg=>
  rw[Src.mw a7]at Z;subst Z;simp only[go_sem,q0,o,q2,q7,Q,j6,t]
 have x:IntKind.i64.wrap (c-1)=c-1:=wrap_i64 _ a7 a7;have w:IntKind.i64.wrap (b-1)=b-1:=wrap_i64 _ a7 a7;obtain⟨e,v⟩:=getq af;rw[de v,dt,j8 a7]at Z;have i:=Src.Hx E v;have az:=Src.LV (l6 v);obtain⟨kind,name,e,a,el⟩:=e;have G:smD (.mk kind name e a el)=[.int .i64 kind,.str name,.sl (e.map exD),.sl (a.map smD),.sl (el.map smD)]:=by simp only[smD,aK,dQ]
 have p:=getD_at (f:=smD) v;rw[G]at p;rw[mR]at Z;rw[szS]at az;rw[inS]at i;by_cases hd:b<=0
 .rw[l8 (.inl hd),Src.mw a7]at Z
  simp only[go_sem,q0,o,q2,q7,Q,j6,t,x,hd,<-Z]
 by_cases hn:60<(z name:Int)
 .rw[l8 (.inr hn),Src.mw a7]at Z
  simp only[go_sem,q0,o,q2,q7,Q,j6,t,x,hd,p,hn,<-Z]
 rw[j8 a7]at Z;have U:=Src.rN e (c-1) (b-1);have b2:=Src.rO e (c-1) (b-1) a7;have Y:=Src.oQ a (cX e (c-1) (b-1)) (b-1);have c2:=Src.rP a (cX e (c-1) (b-1)) (b-1) a7;have d1:=Src.oQ el (dt a (cX e (c-1) (b-1)) (b-1)) (b-1);have d2:=Src.rP el (dt a (cX e (c-1) (b-1)) (b-1)) (b-1) a7;simp only[go_sem,q0,o,q2,q7,Q,j6,t,x,w,hd,p,hn];refine bJ rfl (by simp only[go_sem,w];exact zz (bc e) e (c-1) (b-1) (l7 _) i.1.1 i.1.2 a7 a7) ?_;rintro _ rfl;simp only[go_sem,q0,q2,q7,p,w];refine bJ rfl (by simp only[go_sem,w];exact y (aD a) a7 a _ (b-1) (l7 _) i.2.1.1 i.2.1.2 a7 a7) ?_;rintro _ rfl;simp only[go_sem,q0,q2,q7,p,w];refine bJ rfl (by simp only[go_sem,w];exact y (aD el) a7 el _ (b-1) (l7 _) i.2.2.1 i.2.2.2 a7 a7) ?_;exact U0
def cQ{A:Type}{p:A->Bool}{l:List A}{k:Nat}{x:A}{X:Bool}(h:(l.drop k).all p=X)(I:l[k]?=S x):(p x=T->(l.drop (k+1)).all p=X)/\(p x=F->X=F):=by
 rw[de I,E9]at h;constructor
 .intro e;rw[e,x6]at h;exact h
 .intro e;rw[e,A7]at h;exact h.symm
def jh(l:List Str):AV:=.one (.d (.sl (l.map λs=>[.str s])))
def xE(l:List Str)(hl:z l<=1000000000000000000):ax Tryz.prog 37 [jh l] (·=bv (Src.Bt l)):=by
 refine hdP Tryz.func37 rfl [2] λg=>?_;unfold Src.Bt jh;obtain⟨X,a⟩:∃X,(l.all λs=>decide ((z s:Int)<=60))=X:=⟨_,rfl⟩
 rw[a];simp only[go_sem];refine dD (λk K=>((l.drop k).all λs=>decide ((z s:Int)<=60))=X/\K.f 0=.one (.d (.sl (l.map λs=>[.str s])))/\K.f 3=iv .i64 k) (z l) ⟨a,?_⟩ ?_
 .exact hx
 rintro k f v w x ⟨Z,q0,i⟩;simp only at q0 i;have t:=ac (k:=k) a7;by_cases o:k<z l
 case neg=>
  have Q:¬(k:Int)<(z l:Int):=a7;rw[y9 a7]at Z;have a:X=T:=Z.symm;have e:decide ((z l:Int)<=200)=decide (z l<=200):=by congr 1;exact propext ⟨λh=>by omega,λh=>by omega⟩
  simp only[go_sem,q0,i,Q,j6,a,K7,e]
 have Q:(k:Int)<(z l:Int):=a7;obtain⟨s,p⟩:=getq o;obtain⟨U,u⟩:=cQ Z p;have r:=getD_at (f:=λs:Str=>[D.str s]) p;by_cases hn:60<(z s:Int)
 .have a:X=F:=u (A4 a7)
  simp only[go_sem,q0,i,Q,j6,r,hn,a,D2]
 .simp only[go_sem,q0,i,Q,j6,r,hn,t]
  refine bN o ⟨U (C9 a7),?_⟩;exact UP
end
end Go.Proofs.YtlacbjnmkhndiaaGreatDoor

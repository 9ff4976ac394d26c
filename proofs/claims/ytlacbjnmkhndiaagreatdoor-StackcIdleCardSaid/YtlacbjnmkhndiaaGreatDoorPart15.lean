/- A part of the proof; no conditions. -/
import Derived.Test.YtlacbjnmkhndiaaGreatDoorPart14
import Derived.Shelf.SlicesE.Clone
set_option linter.unusedSimpArgs false
set_option linter.unusedVariables false
set_option linter.defProp false
open List renaming length -> z
open Option renaming some -> S, none -> N
open Bool renaming true -> T, false -> F
set_option maxHeartbeats 64000000
set_option maxRecDepth 100000
namespace Go.Mach
section
open Go.Asm (Str)
section
variable{s:Str}
def WR{a b c d:UInt8}(e:s[0]?=S a)(U:s[1]?=S b)(f:s[2]?=S c)(g:s[3]?=S d):s.take 4=[a,b,c,d]:=by
 match s with
 |h::X::i::j::r=>
   simp at e U f g;subst e U f g;rfl
 |[]=>simp at e
 |[_]=>simp at U
 |[_,_]=>simp at f
 |[_,_,_]=>simp at g
def fY(s:Str)(k:Nat):Nat:=w4 (s.getD k 0) (s.getD (k+1) 0) (s.getD (k+2) 0) (s.getD (k+3) 0)
def mh{k:Nat}(h:k<z s):s[k]?=S (s.getD k 0):=by rw[E6,v8 h];rfl
def tH(s:Str)(k:Nat):fY s k<4294967296:=by
 unfold fY w4;have a:=(s.getD k 0).toNat_lt;have b:=(s.getD (k+1) 0).toNat_lt;have Z:=(s.getD (k+2) 0).toNat_lt;have hd:=(s.getD (k+3) 0).toNat_lt;omega
def tJ{o k:Nat}(h:o+4*k+4<=z s):(iy (s.drop o))[k]?=S (fY s (o+4*k)):=by
 unfold fY;refine wI _ _ ?_ ?_ ?_ ?_<;>rw[H5]
 .exact mh a7
 .rw[show o+(4*k+1)=o+4*k+1 by omega];exact mh a7
 .rw[show o+(4*k+2)=o+4*k+2 by omega];exact mh a7
 .rw[show o+(4*k+3)=o+4*k+3 by omega];exact mh a7
def DJ(h:12<=z s):iy ((s.take 12).drop 4)=[fY s 4,fY s 8]:=by
 have c:z ((s.take 12).drop 4)=8:=by rw[G0,D3];omega
 have g:=rk ((s.take 12).drop 4);rw[c]at g;have hl:z (s.take 12)=12:=by rw[D3];omega
 have f:∀j,j<12->(s.take 12).getD j 0=s.getD j 0:=λj i=>by
  rw[E6,E6,I4,l9 i]
 have d:=tJ (s:=s.take 12) (o:=4) (k:=0) a7;have e:=tJ (s:=s.take 12) (o:=4) (k:=1) a7;unfold fY at d e;rw[f _ b9,f _ b9,f _ b9,f _ b9]at d e
 match I:iy ((s.take 12).drop 4),g with
 |[a,b],_=>
   rw[I]at d e;simp at d e;rw[d,e];rfl
def BU(h:12<=z s)(b:s.take 4=[83,69,69,68]):
  kZ s=if 16384<fY s 4\/32768<fY s 8\/z s≠12+4*fY s 4 then N else S (iy (s.drop 12),fY s 8):=by
 unfold kZ;rw[DJ h];simp only;by_cases a:65548<z s
 .rw[l9 (.inr (.inr a)),l9 a7]
 .rw[j9 (by rw[Q2,Q2];exact⟨a7,λh=>h b,a⟩)]
  by_cases Z:32768<fY s 8\/z s≠12+4*fY s 4
  .rw[l9 Z,l9 (.inr Z)]
  .rw[j9 Z,j9 a7]
end
end
end Go.Mach
namespace Go.Proofs.YtlacbjnmkhndiaaGreatDoor
section
open Go Go.Am Go.Asm Go.Mach Go.Shelf
end
section
open Go Go.Am Go.Asm Go.Mach
def okI(op a b c:Nat):Bool:=fp (op:Nat) (a:Nat) (b:Nat) (c:Nat)
def GN{op a b c:Nat}(h:okI op a b c=T):1<=op/\op<=27/\(4<=op/\op<=15->c<16):=by
 unfold okI fp at h;rw[s5]at h;obtain⟨U,d⟩:=h;unfold ke at U;rw[s5,B4,B4,B6]at U;refine⟨U.1,U.2,λe=>?_⟩
 have f:Asm.shape op=(T,T,2):=by
  unfold Asm.shape;rw[j9 a7,j9 a7,l9 e]
 rw[B6]at d;unfold qx inW at d;rw[f]at d;simp at d;omega
end
end Go.Proofs.YtlacbjnmkhndiaaGreatDoor
namespace Go.Mach
section
open Go.Asm (Str)
section
section
variable{okI:Nat->Nat->Nat->Nat->Bool}{code:List Nat}{inp:Str}
def Ov(m m':M):Prop:=z m'.mem=z m.mem/\m'.steps<=m.steps+1/\m'.rd<=m.rd+1
def Ow{m m1:M}(h:z m1.mem=z m.mem/\m1.steps<=m.steps+1/\m1.rd=m.rd)(op a b c:Nat):Ov m (doM code inp m1 op a b c):=by
 obtain⟨U,d,e⟩:=h;have g:Ov m m1:=⟨U,d,a7⟩
 have I:∀{pc f:Nat}{r:List Nat}{o:Str},Ov m {m1 with pc:=pc,fin:=f,reg:=r,out:=o}:=⟨U,d,by show m1.rd<=_;omega⟩
 unfold doM;refine dH (λ_=>I) λ_=>?_;refine dH (λ_=>I) λ_=>?_;refine dH (λ_=>I) λ_=>?_;refine dH (λ_=>?_) λ_=>?_
 .cases m1.mem[(m1.r b+c)%4294967296]?<;>exact I
 refine dH (λ_=>?_) λ_=>?_
 .cases code[(m1.r b+c)%4294967296]?<;>exact I
 refine dH (λ_=>dH (λ_=>⟨by show z (m1.mem.set _ _)=_;rw[C4];exact U,d,by show m1.rd<=_;omega⟩) λ_=>I) λ_=>?_;refine dH (λ_=>I) λ_=>?_;refine dH (λ_=>I) λ_=>?_;refine dH (λ_=>I) λ_=>?_;refine dH (λ_=>I) λ_=>?_;refine dH (λ_=>I) λ_=>?_;refine dH (λ_=>?_) λ_=>?_
 .cases inp[m1.rd]? with
  |none=>exact I
  |some x=>exact⟨U,d,by show m1.rd+1<=_;omega⟩
 refine dH (λ_=>dH (λ_=>I) λ_=>I) λ_=>?_;refine dH (λ_=>dH (λ_=>I) λ_=>I) λ_=>?_;refine dH (λ_=>I) λ_=>?_;cases applyN op (m1.r b) (m1.r c)<;>exact I
def Ha(m:M):Ov m (nY okI code inp m):=by
 unfold nY;cases code[m.pc]? with
 |none=>exact⟨rfl,by show m.steps<=_;omega,by show m.rd<=_;omega⟩
 |some w=>exact dH (λ_=>Ow (m:=m) (m1:={m with steps:=m.steps+1}) ⟨rfl,l8 _,rfl⟩ _ _ _ _) λ_=>⟨rfl,by show m.steps+1<=_;omega,by show m.rd<=_;omega⟩
end
end
end
end Go.Mach
namespace Go.Proofs.YtlacbjnmkhndiaaGreatDoor
section
open Go Go.Am Go.Asm Go.Mach
def stD(m:M):List D:=.int .i64 (m.pc:Nat)::(m.reg.map λx=>.int .u32 (x:Nat))++[lO m.mem,.int .i64 (m.rd:Nat),.str m.out,.int .i64 (m.steps:Nat),.int .i64 (m.fin:Nat)]
def stV(m:M):AV:=.agg ((stD m).map .d)
def NZ{s:St}{A B:List D}{b:C}{x:D}(a:∀y∈A,iC y=y)(hB:∀y∈B,iC y=y)(e:Frz s b x):lW s (.agg (A.map .d++b::B.map .d)) (.agg ((A++x::B).map .d)):=by
 refine⟨A++x::B,a8,λi c Z=>?_,rfl⟩;by_cases U:i<z A
 .rw[E8 (by simpa using U),w9]at Z
  rw[E8 U];cases I:A[i]? with
  |none=>rw[I]at Z;cases Z
  |some y=>
    rw[I]at Z;cases Z;exact⟨y,rfl,by have:=Frz.d (s:=s) y;rwa [a y (l7 I)]at this⟩
 .obtain⟨k,rfl⟩:∃k,i=z A+k:=⟨i-z A,a7⟩
  rw[D1 a8,j7,P7]at Z;rw[D1 a7,P7];cases k with
  |zero=>simp at Z;subst Z;exact⟨x,rfl,e⟩
  |succ k=>
    rw[u7,w9]at Z;rw[u7];cases I:B[k]? with
    |none=>rw[I]at Z;cases Z
    |some y=>
      rw[I]at Z;cases Z;exact⟨y,rfl,by have:=Frz.d (s:=s) y;rwa [hB y (l7 I)]at this⟩
def qh{s:St}{m:M}{b:C}{l:List C}(c:Frz s b (lO m.mem))(hl:l=((.int .i64 (m.pc:Nat)::m.reg.map λx=>D.int .u32 (x:Nat)):List D).map .d++b::([.int .i64 (m.rd:Nat),.str m.out,.int .i64 (m.steps:Nat),.int .i64 (m.fin:Nat)]:List D).map .d):lW s (.agg l) (stV m):=by
 rw[hl];refine NZ (λy a=>?_) (λy a=>?_) c
 .rcases A0.1 a with rfl|a
  .rfl
  .obtain⟨x,_,rfl⟩:=D6.1 a;rfl
 .simp only[A0,List.mem_nil_iff,F2]at a
  rcases a with rfl|rfl|rfl|rfl<;>rfl
def stC(m:M)(b:C):List C:=((.int .i64 (m.pc:Nat)::m.reg.map λx=>D.int .u32 (x:Nat)):List D).map .d++b::([.int .i64 (m.rd:Nat),.str m.out,.int .i64 (m.steps:Nat),.int .i64 (m.fin:Nat)]:List D).map .d
def Fg{m:M}(h:z m.reg=16)(b:C):z (stC m b)=22:=by simp[stC,h]
def yd:∀(L pre cells:List C),z cells=z L->setAt (pre++cells) (z pre) L=pre++L
 |[],pre,cells,h=>by
   obtain rfl:=z6 YU;rfl
 |c::L,pre,x::cells,h=>by
   unfold setAt;have:=yd L (pre++[c]) cells YU;rw[v7,v7,j8]at this;rw[show (pre++x::cells).set (z pre) c=pre++([c]++cells) by simp];exact this
def qi{L cells:List C}(h:z cells=z L):setAt cells 0 L=L:=yd L [] cells h
def Oa(r:Nat×Str×Nat):AV:=.agg [ag (r.1:Nat),bF r.2.1,ag (r.2.2:Nat)]
def Km{s:St}{a c:Int}{b:Str}:lW s (.agg [ag a,bF b,ag c]) (.agg [ag a,bF b,ag c]):=by
 refine⟨[.int .i64 a,.str b,.int .i64 c],rfl,λi c m=>?_,rfl⟩
 match i,m with
 |0,m=>cases m;exact⟨_,rfl,.d _⟩
 |1,m=>cases m;exact⟨_,rfl,.d _⟩
 |2,m=>cases m;exact⟨_,rfl,.d _⟩
def Dt:Option (List Nat×Nat)->AV
 |some m=>.tup [fO m,ae 0]
 |none=>.tup [fO ([],0),ae 7]
def Kn{s:St}{u:C}{code:List Nat}{d n:Nat}(Z:Frz s u (fD code)):ry s [.agg [u,ag (d:Nat)],ae (n:Nat)] (.tup [fO (code,d),ae (n:Nat)]):=by
 refine⟨_,⟨fO (code,d),_,rfl,⟨[fD code,.int .i64 (d:Nat)],rfl,λi c m=>?_,rfl⟩,_,_,rfl,⟨_,.d _,rfl⟩,rfl⟩,rfl⟩
 match i,m with
 |0,m=>cases m;exact⟨_,rfl,Z⟩
 |1,m=>cases m;exact⟨_,rfl,.d _⟩
end
section
open Go Go.Am Go.Asm Go.Mach
attribute[local congr]ite_cc
def DC(w:Nat)(o:w<4294967296):aJ Tryz.prog 152 [iv .u32 w] (·=Ff w):=by
 refine hdR Tryz.func152 rfl [.cell 2 120,.tmp 3] λg=>?_;have d:((w:Nat):Int).tdiv 16777216=((w/16777216:Nat):Int):=rfl;have e:((w:Nat):Int).tdiv 1048576=((w/1048576:Nat):Int):=rfl;have i:((w:Nat):Int).tdiv 65536=((w/65536:Nat):Int):=rfl;have j:∀x:Nat,((x:Nat):Int).tmod 16=((x%16:Nat):Int):=λ_=>rfl;have l:((w:Nat):Int).tmod 65536=((w%65536:Nat):Int):=rfl;have a:∀x:Nat,x<4294967296->IntKind.i64.wrap ((x:Nat):Int)=((x:Nat):Int):=λx I=>by rw[wrap_i64]<;>omega
 have b:=er (n:=w/16777216) a7;have c:=er (n:=w/1048576) a7;have u3:=er (n:=w/65536) a7;have u4:=er (n:=w/1048576%16) a7;have u5:=er (n:=w/65536%16) a7;have U:=er (n:=w%65536) a7;simp only[go_sem,d,e,i,j,l,b,c,u3,u4,u5,U,a (w/16777216) a7,a (w/1048576%16) a7,a (w/65536%16) a7,a (w%65536) a7,fS];refine cg rfl (by simp only[go_sem];exact Iz (w/16777216:Nat) (w/1048576%16:Nat) (w/65536%16:Nat) (w%65536:Nat)) ?_;rintro _ rfl;unfold Ff;cases p:fp (w/16777216:Nat) (w/1048576%16:Nat) (w/65536%16:Nat) (w%65536:Nat)
 .simp only[go_sem,fS]
  exact⟨_,Bw,rfl⟩
 .simp only[go_sem,fS]
  exact⟨_,Bw,rfl⟩
def Ok(s:Str)(k:Nat)(h:k+4<=z s)(A:z s<=1000000000):aJ Tryz.prog 34 [sv s,ae k] (·=iv .u32 (fY s k:Nat)):=by
 refine hdP Tryz.func34 rfl [4] λg=>?_;have n:=mh (s:=s) (k:=k) a7;have hb:=mh (s:=s) (k:=k+1) a7;have Z:=mh (s:=s) (k:=k+2) a7;have hd:=mh (s:=s) (k:=k+3) a7;unfold fY;generalize s.getD k 0=a at n|-;generalize s.getD (k+1) 0=b at hb|-;generalize s.getD (k+2) 0=c at Z|-;generalize s.getD (k+3) 0=d at hd|-;have l:=a.toNat_lt;have B:=b.toNat_lt;have j:=c.toNat_lt;have m:=d.toNat_lt;have e:IntKind.i64.wrap ((k:Int)+1)=((k+1:Nat):Int):=by rw[wrap_i64]<;>omega
 have f:IntKind.i64.wrap ((k:Int)+2)=((k+2:Nat):Int):=by rw[wrap_i64]<;>omega
 have i:IntKind.i64.wrap ((k:Int)+3)=((k+3:Nat):Int):=by rw[wrap_i64]<;>omega
 have o:(0:Int)<=(k:Int):=a7;have p:(0:Int)<=((k+1:Nat):Int):=a7;have q:(0:Int)<=((k+2:Nat):Int):=a7;have r:(0:Int)<=((k+3:Nat):Int):=a7;have t:IntKind.u32.wrap (256*((b.toNat:Nat):Int))=((256*b.toNat:Nat):Int):=by rw[IntKind.wrap_u32];omega
 have u:IntKind.u32.wrap (65536*((c.toNat:Nat):Int))=((65536*c.toNat:Nat):Int):=by rw[IntKind.wrap_u32];omega
 have v:IntKind.u32.wrap (16777216*((d.toNat:Nat):Int))=((16777216*d.toNat:Nat):Int):=by rw[IntKind.wrap_u32];omega
 have w:IntKind.u32.wrap (((a.toNat:Nat):Int)+((256*b.toNat:Nat):Int))=((a.toNat+256*b.toNat:Nat):Int):=by rw[IntKind.wrap_u32];omega
 have x:IntKind.u32.wrap (((a.toNat+256*b.toNat:Nat):Int)+((65536*c.toNat:Nat):Int))=((a.toNat+256*b.toNat+65536*c.toNat:Nat):Int):=by rw[IntKind.wrap_u32];omega
 have y:IntKind.u32.wrap (((a.toNat+256*b.toNat+65536*c.toNat:Nat):Int)+((16777216*d.toNat:Nat):Int))=((a.toNat+256*b.toNat+65536*c.toNat+16777216*d.toNat:Nat):Int):=by rw[IntKind.wrap_u32];omega
 simp only[go_sem];refine jX c9 ?_;simp only[go_sem,e,f,i,o,p,q,r,B6,n,hb,Z,hd,er (show a.toNat<4294967296 by omega),er (show b.toNat<4294967296 by omega),er (show c.toNat<4294967296 by omega),er (show d.toNat<4294967296 by omega),t,u,v,w,x,y];rfl
def Ol{x:UInt8}{n:Nat}(h:¬x=UInt8.ofNat n)(a:n<256):¬((x.toNat:Nat):Int)=(n:Nat):=λe=>h (Q9.1 (by rw[M3];omega))
def DD(s:Str)(hs:z s<=1000000000):aJ Tryz.prog 12 [sv s] (·=Dt (kZ s)):=by
 refine hdR Tryz.func12 rfl [.cell 2 31,.tmp 3] λg=>?_;have m:kZ s=N->Dt (kZ s)=.tup [fO ([],0),ae 7]:=λh=>by rw[h];rfl
 by_cases U:z s<12
 .have hi:(z s:Int)<12:=a7
  rw[m (by unfold kZ;rw[l9 (.inl U)])];simp only[go_sem,hi,fS];exact⟨_,kF,rfl⟩
 have hi:¬(z s:Int)<12:=a7;obtain⟨x0,g0⟩:=getq (l:=s) (k:=0) a7;obtain⟨x1,g1⟩:=getq (l:=s) (k:=1) a7;obtain⟨L,g2⟩:=getq (l:=s) (k:=2) a7;obtain⟨G,g3⟩:=getq (l:=s) (k:=3) a7;have ht:=WR g0 g1 g2 g3
 have b:¬(x0=83/\x1=69/\L=69/\G=68)->kZ s=N:=λh=>by
  unfold kZ;rw[l9 (.inr (.inl (by rw[ht];intro e;simp only[Q7,M6]at e;exact h e)))]
 by_cases c0:x0=83
 case neg=>
  rw[m (b (by simp[c0]))];have c0:¬((x0.toNat:Nat):Int)=83:=Ol (n:=83) c0 b9;simp only[go_sem,hi,g0,g1,g2,g3,c0,fS];exact⟨_,kF,rfl⟩
 by_cases X:x1=69
 case neg=>
  rw[m (b (by simp[X]))];have c0:((x0.toNat:Nat):Int)=83:=by rw[c0];rfl
  have X:¬((x1.toNat:Nat):Int)=69:=Ol (n:=69) X b9;simp only[go_sem,hi,g0,g1,g2,g3,c0,X,fS];exact⟨_,kF,rfl⟩
 by_cases Z:L=69
 case neg=>
  rw[m (b (by simp[Z]))];have c0:((x0.toNat:Nat):Int)=83:=by rw[c0];rfl
  have X:((x1.toNat:Nat):Int)=69:=by rw[X];rfl
  have Z:¬((L.toNat:Nat):Int)=69:=Ol (n:=69) Z b9;simp only[go_sem,hi,g0,g1,g2,g3,c0,X,Z,fS];exact⟨_,kF,rfl⟩
 by_cases c3:G=68
 case neg=>
  rw[m (b (by simp[c3]))];have c0:((x0.toNat:Nat):Int)=83:=by rw[c0];rfl
  have X:((x1.toNat:Nat):Int)=69:=by rw[X];rfl
  have Z:((L.toNat:Nat):Int)=69:=by rw[Z];rfl
  have c3:¬((G.toNat:Nat):Int)=68:=Ol (n:=68) c3 b9;simp only[go_sem,hi,g0,g1,g2,g3,c0,X,Z,c3,fS];exact⟨_,kF,rfl⟩
 have p:s.take 4=[83,69,69,68]:=by rw[ht,c0,X,Z,c3]
 have c0:((x0.toNat:Nat):Int)=83:=by rw[c0];rfl
 have X:((x1.toNat:Nat):Int)=69:=by rw[X];rfl
 have Z:((L.toNat:Nat):Int)=69:=by rw[Z];rfl
 have c3:((G.toNat:Nat):Int)=68:=by rw[c3];rfl
 have hI:=BU (s:=s) a7 p;have hW:=Ok s;have b6:∀k,k+4<=z s-12->True:=λ_ _=>trivial;have I:∀k,12+4*k+4<=z s->(iy (s.drop 12))[k]?=S (fY s (12+4*k)):=λk hk=>tJ hk;have x:z (iy (s.drop 12))=(z s-12)/4:=by rw[rk,G0]
 have hn:=tH s 4;have hd:=tH s 8;have t:=hW 4 a7 hs;have Q:=hW 8 a7 hs;rw[hI];rw[hI]at m;clear hI b ht p;generalize fY s 4=n at *;generalize fY s 8=d at *;generalize iy (s.drop 12)=xs at *;simp only[go_sem,hi,g0,g1,g2,g3,c0,X,Z,c3];refine cg rfl (by simp only[go_sem];exact t) ?_;rintro _ rfl;simp only[go_sem];refine cg rfl (by simp only[go_sem];exact Q) ?_;rintro _ rfl;have k1:IntKind.i64.wrap ((n:Nat):Int)=((n:Nat):Int):=by rw[wrap_i64]<;>omega
 have k2:IntKind.i64.wrap (4*(n:Int))=((4*n:Nat):Int):=by rw[wrap_i64]<;>omega
 have k3:IntKind.i64.wrap (12+((4*n:Nat):Int))=((12+4*n:Nat):Int):=by rw[wrap_i64]<;>omega
 have k4:IntKind.i64.wrap ((d:Nat):Int)=((d:Nat):Int):=by rw[wrap_i64]<;>omega
 by_cases b1:16384<n
 .rw[l9 (.inl b1)]
  have b1:(16384:Int)<(n:Int):=a7;simp only[go_sem,b1,fS];exact⟨_,kF,rfl⟩
 have y:¬(16384:Int)<(n:Int):=a7;by_cases b2:32768<d
 .rw[l9 (.inr (.inl b2))]
  have b2:(32768:Int)<(d:Int):=a7;simp only[go_sem,y,b2,fS];exact⟨_,kF,rfl⟩
 have A:¬(32768:Int)<(d:Int):=a7;by_cases b3:z s=12+4*n
 case neg=>
  rw[l9 (.inr (.inr b3))];have b3:¬(z s:Int)=((12+4*n:Nat):Int):=a7;simp only[go_sem,y,A,k1,k2,k3,b3,fS];exact⟨_,kF,rfl⟩
 have V:(z s:Int)=((12+4*n:Nat):Int):=a7;rw[j9 a7];have W:z xs=n:=a7;simp only[go_sem,y,A,k1,k2,k3,V,k4,fS]
 refine eM (λal K=>∃(k:Nat)(u:C),al+k=n/\K.f 0=sv s/\K.f 4=iv .u32 n/\K.f 7=ae (k:Nat)/\K.f 2=aj 2 (nxC 32 (g 2)) 0/\K.gen 2=nxC 32 (g 2)/\K.obj 2=S [.d .nsl,ag 0]/\K.f 6=aj 6 (K.gen 6) 0/\K.obj 6=S [u,ag d]/\
  ((k=0/\u=.d .nsl)\/(0<k/\u=.osl 69 (K.gen 69) 1 0 k/\K.obj 69=S (jS (xs.take k))))) n ?_ ?_
 .refine⟨0,.d .nsl,rfl,?_⟩
  simp only[go_sem];exact .inl trivial
 rintro al f g' ob ⟨k,u,hk,q0,q4,q7,q2,q,r,q6,i,O⟩;simp only at q0 q4 q7 q2 q r q6 i O;have hw:=ah (k:=k) a7;by_cases af:k<n
 .have H:(k:Int)<(n:Int):=a7
  have k5:IntKind.i64.wrap (4*(k:Int))=((4*k:Nat):Int):=by rw[wrap_i64]<;>omega
  have P:IntKind.i64.wrap (12+((4*k:Nat):Int))=((12+4*k:Nat):Int):=by rw[wrap_i64]<;>omega
  have E:=hW (12+4*k) a7 hs;have B:=I k a7;have c:=tH s (12+4*k);generalize fY s (12+4*k)=w at E B c;have av:xs.take (k+1)=xs.take k++[w]:=by rw[D2,B];rfl
  have Y:z (xs.take k)=k:=by rw[D3];omega
  simp only[go_sem,q0,q4,q7,k1,H];refine ie aO mixed [68,69,6] [([6],[0],[],F),([61],[0],[],F),([0],[],[],F),([7],[],[],F),([64],[],[],F),([65],[],[],F),([63,66],[],[],F),([67],[],[0],F),([62,68],[],[1],F),([6],[],[],F),([70,69],[],[],T)] 3 c9 rfl b9 ?_;simp only[go_sem]
  iterate 6 (apply aT;· (intro fa ga oa K' J;simp only[go_sem,q0,q7,q6,i,k5,P]at J|-;exact J))
  refine aT (v:=iv .u32 (w:Nat)) (λfa ga oa K' J=>?_) ?_
  .simp only[go_sem]at J|-
   refine gw (k:=bx K') rfl (by simp only[go_sem];exact E) XK ?_;exact S3
  (apply db;· (intro fa ga oa K' J;simp only[go_sem,ba]at J|-;exact J))
  rcases O with⟨bf,rfl⟩|⟨bf,rfl,o⟩
  ·(apply db;· (intro fa ga oa K' J;simp only[go_sem,ba]at J|-;exact⟨⟨b9,b9⟩,J⟩))
   (apply aT;· (intro fa ga oa K' J;simp only[go_sem,q6,i]at J|-;exact J))
   apply di;intro K' a';simp only[go_sem,q6,i];refine a' _ ?_;clear a' K';simp only[go_sem,q7,hw];refine cQ (al-1) a7 ⟨k+1,.osl 69 (nxC 40 (g' 69)) 1 0 1,a7,?_⟩;simp only[go_sem,q0,q4,q2,q,r,q6];subst bf;refine .inr ⟨a7,rfl,?_⟩;rw[av];rfl
  .have b5:z (jS (xs.take k))=k:=by unfold jS;rw[j7,Y]
   (apply db;· (intro fa ga oa K' J;simp only[go_sem,o,ba]at J|-;exact⟨a7,⟨b9,a7⟩,J⟩))
   (apply aT;· (intro fa ga oa K' J;simp only[go_sem,q6,i]at J|-;exact J))
   apply di;intro K' a';simp only[go_sem,q6,i];refine a' _ ?_;clear a' K';simp only[go_sem,q7,hw];refine cQ (al-1) a7 ⟨k+1,.osl 69 (nxC (apC 39 (g' 69) 0) (g' 69)) 1 0 (k+1),a7,?_⟩;simp only[go_sem,q0,q4,q2,q,r,q6];refine .inr ⟨a7,?_⟩;rw[av,s7 a7];unfold jS;simp
 .have H:¬(k:Int)<(n:Int):=a7
  obtain rfl:k=n:=a7;rw[s7 a7]at O;simp only[go_sem,q0,q4,q7,k1,H,q6,i,q2,q,r];refine⟨_,Kn (code:=xs) (d:=d) (n:=0) ?_,rfl⟩;rcases O with⟨bf,rfl⟩|⟨bf,rfl,o⟩
  .obtain rfl:xs=[]:=z6 a7
   exact .d .nsl
  .exact rr (cells:=jS xs) (off:=0) rfl (by simp[upd,o]) xs (λn=>.int .u32 (n:Nat)) (λ_=>rfl) W (λj a h=>by rw[C5];unfold jS;rw[w9,h];rfl) (by unfold jS;rw[j7];omega)
def Ky(code:List Nat)(d:Nat)(hd:d<=32768):aJ Tryz.prog 36 [fO (code,d)] (·=stV (Mach.start d)):=by
 refine hdR Tryz.func36 rfl [.cell 2 91] λg=>?_;have k:(d:Int)<=32768:=a7;unfold fO;by_cases a:d=0
 .subst a
  simp only[go_sem];exact⟨_,qh (m:=Mach.start 0) (.d .nsl) rfl,rfl⟩
 .have h:(0:Int)<(d:Int):=a7
  simp only[go_sem,h,k];refine⟨l8 _,a7,a7,_,qh (m:=Mach.start d) ?_ rfl,rfl⟩;exact vS (code:=List.replicate d 0) XL XL a8
def DE:Option Nat->AV
 |some x=>.tup [iv .u32 (x:Nat),bv T]
 |none=>.tup [iv .u32 0,bv F]
def Fj(l:List Nat)(b c:Nat)(hl:z l<=1000000)(Z:c<65536):aJ Tryz.prog 154 [.one (.d (lO l)),iv .u32 b,ae c] (·=DE (l[(b+c)%4294967296]?)):=by
 refine hdP Tryz.func154 rfl [6,7] λg=>?_;have i:=er (n:=c) a7;have e:=Fe b c;have o:(b+c)%4294967296<4294967296:=N3 _ b9;generalize (b+c)%4294967296=a at e o|-;have j:=w64 (n:=a) a7;have k:=w64 (n:=z l) a7;have p:(0:Int)<=(a:Int):=a7;unfold lO;by_cases h:a<z l
 .obtain⟨x,I⟩:=getq h
  have hn:¬(z l:Int)<=(a:Int):=a7;have q:(l.map λx=>[D.int .u32 (x:Nat)])[a]?=S [.int .u32 (x:Nat)]:=by rw[w9,I];rfl
  rw[I];simp only[go_sem,i,e,j,k,hn,p,q,j7,DE]
 .have r:(z l:Int)<=(a:Int):=a7
  rw[F3 a7];simp only[go_sem,i,e,j,k,r,j7,DE]
section
def okW(w:Nat):Bool:=okI (w/16777216) (w/1048576%16) (w/65536%16) (w%65536)
def pJ(w:Nat):List D:=if okW w=T then [.int .i64 (w/16777216:Nat),.int .i64 (w/1048576%16:Nat),.int .i64 (w/65536%16:Nat),.int .i64 (w%65536:Nat)]else [.int .i64 0,.int .i64 0,.int .i64 0,.int .i64 0]
def BD(w:Nat):z (pJ w)=4:=by unfold pJ;split<;>rfl
def GU(w:Nat):∀x∈pJ w,iC x=x:=λx I=>by
 unfold pJ at I;split at I<;>simp only[A0,B3,F2]at I<;>rcases I with rfl|rfl|rfl|rfl<;>rfl
def fQ(l:List Nat):List C:=l.flatMap λw=>(pJ w).map .d
def xm(l:List Nat):List C:=l.map λw=>bE (okW w)
def GV(l:List Nat):xm l=l.flatMap λw=>([D.bool (okW w)]).map .d:=by
 unfold xm
 induction l with
 |nil=>rfl
 |cons a l b=>simpa using b
def jw:∀l:List Nat,z (fQ l)=4*z l
 |[]=>rfl
 |w::l=>by
   have a:=jw l;unfold fQ at a|-;rw[G8,j8,j7,BD,a];simp only[l4];omega
def DF(l:List Nat)(w:Nat):fQ (l++[w])=fQ l++(pJ w).map .d:=by unfold fQ;rw[P0];simp
def GX(l:List Nat)(w:Nat):xm (l++[w])=xm l++[bE (okW w)]:=by unfold xm;simp
variable{pre rest:List C}
def Zw{p:Nat}(h:z pre=p)(e f L G a b c d:C):((((pre++e::f::L::G::rest).set p a).set (p+1) b).set (p+1+1) c).set (p+1+1+1) d=(pre++[a,b,c,d])++rest:=by
 subst h;rw[show z pre+1+1=z pre+2 from rfl,show z pre+2+1=z pre+3 from rfl];simp
def Zx{p:Nat}(h:z pre=p)(b a:C):(pre++b::rest).set p a=(pre++[a])++rest:=by
 subst h;simp
def So(w:Nat):AV:=.tup [.agg ((pJ w).map .d),ae (if okW w=T then 0 else 7)]
def Om(w:Nat):Ff w=So w:=by
 unfold Ff So pJ okW okI;split<;>rfl
def Sq(code:List Nat)(d:Nat)(hl:z code<=1000000)(o:∀w∈code,w<4294967296):aJ Tryz.prog 91 [fO (code,d)] (·=.tup [.one (aq (code.map pJ)),.one (aq (code.map λw=>[.bool (okW w)]))]):=by
 refine hdR Tryz.func91 rfl [.tmp 2,.tmp 3] λg=>?_;have p:(0:Int)<=(z code:Int):=a7;unfold fO fD;simp only[go_sem,j7,p];refine⟨l8 _,a7,a7,l8 _,a7,a7,?_⟩
 refine eM (λn K=>∃k:Nat,n+k=z code/\K.f 1=aj 1 (nxC 32 (g 1)) 0/\K.gen 1=nxC 32 (g 1)/\K.obj 1=S [aq (code.map λn=>[.int .u32 (n:Nat)]),ag (d:Nat)]/\K.f 6=ae k/\
  K.f 4=dL 12 (K.gen 12) 4 0 (z code)/\K.obj 12=S (fQ (code.take k)++(List.replicate n [C.d (.int .i64 0),ag 0,ag 0,ag 0]).flatten)/\
  K.f 5=dL 16 (K.gen 16) 1 0 (z code)/\K.obj 16=S (xm (code.take k)++(List.replicate n [C.d (.bool F)]).flatten)) (z code) ?_ ?_
 .refine⟨0,rfl,?_⟩
  simp only[go_sem]
  try exact⟨rfl,rfl⟩
 rintro n f y G ⟨k,hk,q1,i,j,q6,q4,e,q5,h⟩;simp only at q1 i j q6 q4 e q5 h;have hw:=ah (k:=k) a7;cases n with
 |zero=>
   obtain rfl:k=z code:=a7;have u:¬(z code:Int)<(z code:Int):=a7;rw[s7 (l8 _)]at e h;simp only[L6,List.flatten_nil,s9]at e h;simp only[go_sem,q1,i,j,q6,q4,q5,u,j7];exact⟨_,⟨_,⟨_,_,rfl,zz (eu (cells:=fQ code) rfl code pJ (by simp[upd,e]) rfl (λa _=>GU a) (λa _=>BD a) rfl),_,_,rfl,zz (eu (cells:=xm code) rfl code (λw=>[.bool (okW w)]) (by simp[upd,h]) (GV code) (λa _ x I=>by simp only[E3]at I;subst I;rfl) (λ_ _=>rfl) rfl),rfl⟩,rfl⟩,rfl⟩
 |succ m=>
   have q:k<z code:=a7;have H:(k:Int)<(z code:Int):=a7;have bf:(0:Int)<=(k:Int):=a7;obtain⟨w,E⟩:=getq q;have v:(code.map λn=>[D.int .u32 (n:Nat)])[k]?=S [.int .u32 (w:Nat)]:=by rw[w9,E];rfl
   have hD:=DC w (o w (l7 E));rw[Om]at hD;have an:code.take (k+1)=code.take k++[w]:=by rw[D2,E];rfl
   have Y:z (code.take k)=k:=by rw[D3];omega
   have cu:z (fQ (code.take k))=k*4:=by rw[jw,Y];omega
   have W:z (xm (code.take k))=k:=by unfold xm;rw[j7,Y]
   have c':=λx a b c d=>Zw (rest:=(List.replicate m [C.d (.int .i64 0),ag 0,ag 0,ag 0]).flatten) cu x x x x a b c d;have a1:=Zx (rest:=(List.replicate m [C.d (.bool F)]).flatten) W (C.d (.bool F));rw[F9,E7]at e h;have b3:=DF (code.take k) w;have t:=GX (code.take k) w;rw[<-an]at b3 t;generalize fQ (code.take k)=A at e cu c' b3;generalize xm (code.take k)=B at h W a1 t;unfold So pJ at hD;unfold pJ at b3;simp only[go_sem,q1,i,j,q6,H,bf,v,j7];cases l:okW w
   .rw[l,j9 a8]at hD
    rw[l,j9 a8]at b3;rw[l]at t;simp only[s6,x7,E0,B1]at hD b3;exact oo
   .rw[l,l9 rfl]at hD
    rw[l,l9 rfl]at b3;rw[l]at t;simp only[s6,x7,B5]at hD b3;exact oo
end
end
section
open Go Go.Am Go.Asm Go.Mach
section
structure WC (cs:List C) (code:List Nat) (inp:Str) (m:M) (b A u:C):Prop where
 len:cs.length=28
 c0:cs[0]?=some (ag (m.pc:Nat))
 rl:m.reg.length=16
 rg:∀a,a<16->cs[1+a]?=some (.d (.int .u32 (m.r a:Nat)))
 c17:cs[17]?=some (b)
 c18:cs[18]?=some (ag (m.rd:Nat))
 c19:cs[19]?=some (bF [])
 c20:cs[20]?=some (ag (m.steps:Nat))
 c21:cs[21]?=some (ag (m.fin:Nat))
 c22:cs[22]?=some (A)
 c23:cs[23]?=some (aq (code.map pJ))
 c24:cs[24]?=some (aq (code.map λw=>[.bool (okW w)]))
 c25:cs[25]?=some (.d (fD code))
 c26:cs[26]?=some (bF inp)
 c27:cs[27]?=some (u)
section
variable{cs:List C}{code:List Nat}{inp:Str}{m:M}{b A u:C}
def WC.setReg(h:WC cs code inp m b A u){a:Nat}(c:a<16)(x:Nat):WC (cs.set (1+a) (.d (.int .u32 (x:Nat)))) code inp {m with reg:=m.reg.set a x} b A u:=by
 have hl:=h.len;refine⟨by simp[h.len],by rw[aF a7];exact h.c0,by simp[h.rl],λk e=>?_,by rw[aF a7];exact h.c17,by rw[aF a7];exact h.c18,by rw[aF a7];exact h.c19,by rw[aF a7];exact h.c20,by rw[aF a7];exact h.c21,by rw[aF a7];exact h.c22,by rw[aF a7];exact h.c23,by rw[aF a7];exact h.c24,by rw[aF a7];exact h.c25,by rw[aF a7];exact h.c26,by rw[aF a7];exact h.c27⟩;rw[Ei h.rl c];by_cases f:k=a
 .subst f;rw[l9 rfl,kD a7]
 .rw[j9 f,aF a7];exact h.rg k e
def WC.setPc(h:WC cs code inp m b A u)(n:Nat):WC (cs.set 0 (ag (n:Nat))) code inp {m with pc:=n} b A u:=
 ⟨by simp[h.len],kD ZE,h.rl,λk a=>by rw[aF a7];exact h.rg k a,by rw[aF a7];exact h.c17,by rw[aF a7];exact h.c18,by rw[aF a7];exact h.c19,by rw[aF a7];exact h.c20,by rw[aF a7];exact h.c21,by rw[aF a7];exact h.c22,by rw[aF a7];exact h.c23,by rw[aF a7];exact h.c24,by rw[aF a7];exact h.c25,by rw[aF a7];exact h.c26,by rw[aF a7];exact h.c27⟩
def WC.setRd(h:WC cs code inp m b A u)(n:Nat):WC (cs.set 18 (ag (n:Nat))) code inp {m with rd:=n} b A u:=
 ⟨by simp[h.len],by rw[aF a7];exact h.c0,h.rl,λk a=>by rw[aF a7];exact h.rg k a,by rw[aF a7];exact h.c17,kD ZE,by rw[aF a7];exact h.c19,by rw[aF a7];exact h.c20,by rw[aF a7];exact h.c21,by rw[aF a7];exact h.c22,by rw[aF a7];exact h.c23,by rw[aF a7];exact h.c24,by rw[aF a7];exact h.c25,by rw[aF a7];exact h.c26,by rw[aF a7];exact h.c27⟩
def WC.setSteps(h:WC cs code inp m b A u)(n:Nat):WC (cs.set 20 (ag (n:Nat))) code inp {m with steps:=n} b A u:=
 ⟨by simp[h.len],by rw[aF a7];exact h.c0,h.rl,λk a=>by rw[aF a7];exact h.rg k a,by rw[aF a7];exact h.c17,by rw[aF a7];exact h.c18,by rw[aF a7];exact h.c19,kD ZE,by rw[aF a7];exact h.c21,by rw[aF a7];exact h.c22,by rw[aF a7];exact h.c23,by rw[aF a7];exact h.c24,by rw[aF a7];exact h.c25,by rw[aF a7];exact h.c26,by rw[aF a7];exact h.c27⟩
def WC.setFin(h:WC cs code inp m b A u)(n:Nat):WC (cs.set 21 (ag (n:Nat))) code inp {m with fin:=n} b A u:=
 ⟨by simp[h.len],by rw[aF a7];exact h.c0,h.rl,λk a=>by rw[aF a7];exact h.rg k a,by rw[aF a7];exact h.c17,by rw[aF a7];exact h.c18,by rw[aF a7];exact h.c19,by rw[aF a7];exact h.c20,kD ZE,by rw[aF a7];exact h.c22,by rw[aF a7];exact h.c23,by rw[aF a7];exact h.c24,by rw[aF a7];exact h.c25,by rw[aF a7];exact h.c26,by rw[aF a7];exact h.c27⟩
def WC.setOut(h:WC cs code inp m b A u)(c:C)(o:Str):WC (cs.set 22 (c)) code inp {m with out:=o} b c u:=
 ⟨by simp[h.len],by rw[aF a7];exact h.c0,h.rl,λk a=>by rw[aF a7];exact h.rg k a,by rw[aF a7];exact h.c17,by rw[aF a7];exact h.c18,by rw[aF a7];exact h.c19,by rw[aF a7];exact h.c20,by rw[aF a7];exact h.c21,kD ZE,by rw[aF a7];exact h.c23,by rw[aF a7];exact h.c24,by rw[aF a7];exact h.c25,by rw[aF a7];exact h.c26,by rw[aF a7];exact h.c27⟩
end
def mX(l:List Int):List C:=l.map λn=>ag n
structure Wn (gr:Nat) (code:List Nat) (inp:Str) (m:M) (g:Nat->Nat) (ob:Obs):Prop where
 gen:g 13=gr
 obj:∃cs mi A p,ob 13=some cs/\WC cs code inp m (.osl mi (g mi) 1 0 m.mem.length) A (.osl 47 (g 47) 1 0 code.length)/\(mi=24\/mi=27)/\ob mi=some (jS m.mem)/\ob 47=some (mX p)/\p.length=code.length/\
  (A=.osl 38 (g 38) 1 0 m.out.length/\ob 38=some (nJ m.out))
end
end
section
open Go Go.Am Go.Asm Go.Mach
attribute[local congr]ite_cc
section
def FrW(g:Nat->Nat)(ob:Obs)(g':Nat->Nat)(Y:Obs):Prop:=∀i,i<3000->i≠13->i≠24->i≠27->i≠47->i≠38->g' i=g i/\Y i=ob i
variable{gr:Nat}{code:List Nat}{inp:Str}{g g':Nat->Nat}{ob Y:Obs}{m:M}
def Wn.cells{m m':M}(h:Wn gr code inp m g ob){cd:List C}(hg:∀i,(i=13\/i=24\/i=27\/i=47\/i=38)->g' i=g i)(ho:∀i,(i=24\/i=27\/i=47\/i=38)->Y i=ob i)
 (Z:Y 13=S cd)(a:m'.mem=m.mem)(I:m'.out=m.out)(V:∀cs b A u,ob 13=S cs->WC cs code inp m b A u->WC cd code inp m' b A u):Wn gr code inp m' g' Y:=by
 obtain⟨U,cs,mi,A,p,c,d,e,f,j,k,l⟩:=h;have Q:g' mi=g mi/\Y mi=ob mi:=⟨hg mi a7,ho mi a7⟩
 refine⟨by rw[hg 13 b9];exact U,cd,mi,A,p,Z,?_,e,by rw[Q.2,a];exact f,by rw[ho 47 b9];exact j,k,by rw[hg 38 b9,ho 38 b9,I];exact l⟩;rw[Q.1,a,hg 47 b9];exact V cs _ _ _ c d
def Wn.same(h:Wn gr code inp m g ob)(hg:∀i,(i=13\/i=24\/i=27\/i=47\/i=38)->g' i=g i)(ho:∀i,(i=13\/i=24\/i=27\/i=47\/i=38)->Y i=ob i):Wn gr code inp m g' Y:=by
 obtain⟨b,_,_,_,a,_⟩:=id h.obj;exact h.cells (cd:=b) hg (λi d=>ho i a7) (by rw[ho 13 b9];exact a) rfl rfl λc _ _ _ e r=>by rw[a]at e;cases e;exact r
def Wn.done{m m':M}{cs cd:List C}(h:Wn gr code inp m g ob)(ho:ob 13=S cs)(a:∀i,(i<3000\/i=38)->g' i=g i)(q:∀i,(i≠13/\(i<3000\/i=38))->Y i=ob i)
 (Z:Y 13=S cd)(f:m'.mem=m.mem)(I:m'.out=m.out)(V:∀b A u,WC cs code inp m b A u->WC cd code inp m' b A u):FrW g ob g' Y/\Wn gr code inp m' g' Y:=
 ⟨λi d K _ _ _ _=>⟨a i (.inl d),q i ⟨K,.inl d⟩⟩,h.cells (λi d=>a i a7) (λi d=>q i a7) Z f I λc b A u e r=>by rw[ho]at e;cases e;exact V b A u r⟩
def Qa{g:Nat->Nat}{ob:Obs}(h:Wn gr code inp m g ob)(a x:Nat)(b:a<16)(o:m.pc<=4294967296000000):
  gY Tryz.prog 153 [aj 13 gr 0,ae a,iv .u32 x] g ob (λ_ g' Y=>FrW g ob g' Y/\Wn gr code inp (m.set a x) g' Y):=by
 refine hdF 4000 Tryz.func153 rfl [] ?_;obtain⟨e,j,mi,A,p,ho,V,-⟩:=id h;have an:=ah (k:=m.pc) a7;have hl:=V.len;have X:(0:Int)<=(a:Int):=a7;have u:(j.set (1+a) (.d (.int .u32 (x:Nat))))[0]?=S (ag (m.pc:Nat)):=by rw[aF a7];exact V.c0
 simp only[go_sem,e,ho,X,u,an];refine⟨a7,a7,?_⟩;exact⟨by simp only[C4];omega,bI (.inr rfl) (h.done ho (λi l=>by (try simp only[upd]);repeat (rw[j9 (by omega)]);try rfl) (λi l=>by (try simp only[upd]);repeat (rw[j9 (by omega)]);try rfl) (by simp[upd]<;>rfl) rfl rfl λ_ _ _ V=>(V.setReg b x).setPc (m.pc+1))⟩
def Sf{g:Nat->Nat}{ob:Obs}(h:Wn gr code inp m g ob)(b:Bool)(c:Nat)(o:m.pc<=4294967296000000):
  gY Tryz.prog 155 [aj 13 gr 0,bv b,ae c] g ob (λ_ g' Y=>FrW g ob g' Y/\Wn gr code inp {m with pc:=if b=T then c else m.pc+1} g' Y):=by
 refine hdF 4000 Tryz.func155 rfl [] ?_;obtain⟨d,e,mi,A,p,ho,V,-⟩:=id h;have an:=ah (k:=m.pc) a7;have hl:=V.len;cases b
 .simp only[go_sem,d,ho,V.c0,an]
  exact⟨a7,bI (.inr rfl) (h.done ho (λi a=>by (try simp only[upd]);repeat (rw[j9 (by omega)]);try rfl) (λi a=>by (try simp only[upd]);repeat (rw[j9 (by omega)]);try rfl) (by simp[upd]<;>rfl) rfl rfl λ_ _ _ V=>V.setPc (m.pc+1))⟩
 .simp only[go_sem,d,ho]
  exact⟨a7,bI (.inr rfl) (h.done ho (λi a=>by (try simp only[upd]);repeat (rw[j9 (by omega)]);try rfl) (λi a=>by (try simp only[upd]);repeat (rw[j9 (by omega)]);try rfl) (by simp[upd]<;>rfl) rfl rfl λ_ _ _ V=>V.setPc c)⟩
end
def FrW.from{g g':Nat->Nat}{ob av Y:Obs}{P:Prop}(h:FrW g av g' Y/\P)(ar:∀i,i≠13->i≠47->av i=ob i):FrW g ob g' Y/\P:=
 ⟨λi a b c d e f=>⟨(h.1 i a b c d e f).1,(h.1 i a b c d e f).2.trans (ar i b e)⟩,h.2⟩
def Sh{gr:Nat}{code:List Nat}{inp:Str}{m:M}{g:Nat->Nat}{ob:Obs}(h:Wn gr code inp m g ob)(ca:∀x∈code,x<4294967296)(v:Mach.Good m)(P:z m.mem<=1000000)(b5:z code<=1000000)(b0:m.steps<1000000000000)(b7:m.rd<=1000000000000)(hf:m.fin=0):
  gY Tryz.prog 92 [aj 13 gr 0] g ob (λ_ g' Y=>FrW g ob g' Y/\Wn gr code inp (nY okI code inp m) g' Y):=by
 refine hdF 3000 Tryz.func92 rfl [] ?_;obtain⟨hg,cs,mi,A,p,ho,V,Q,cb,c',b2,b4⟩:=id h;have hl:=V.len;have c8:¬(m.pc:Int)<0:=a7;have bl:(0:Int)<=(m.pc:Int):=a7;have an:=ah (k:=m.steps) a7;simp only[go_sem];refine cp c9 ?_;by_cases af:m.pc<z code
 case neg=>
  have a1:(z code:Int)<=(m.pc:Int):=a7;rw[show nY okI code inp m = {m with fin:=7} by unfold nY;rw[F3 a7]];simp only[go_sem,hg,ho,V.c0,V.c23,c8,j7,a1];exact⟨a7,bI (.inl rfl) (h.done ho (λi hi=>by (try simp only[upd]);repeat (rw[j9 (by omega)]);try rfl) (λi hi=>by (try simp only[upd]);repeat (rw[j9 (by omega)]);try rfl) (by simp[upd]<;>rfl) rfl rfl λ_ _ _ V=>V.setFin 7)⟩
 have a1:¬(z code:Int)<=(m.pc:Int):=a7;obtain⟨w,hw⟩:=getq af;have gk:=ca w (l7 hw);simp only[go_sem,hg,ho,V.c0,V.c23,V.c20,c8,j7,a1,an];refine⟨a7,?_⟩;refine cp c9 ?_;have b1:=V.setSteps (m.steps+1);generalize ef:cs.set 20 (ag (m.steps+1:Nat))=f at b1|-;have ch:=b1.len;obtain⟨n0,bk⟩:=getq (l:=p) (k:=m.pc) a7;have eg:(mX p)[m.pc]?=S (ag n0):=by unfold mX;rw[w9,bk];rfl
 have eh:z (mX p)=z code:=by unfold mX;rw[j7,b2]
 have bd:=b1.c0;have cc:=b1.c27;simp only[go_sem,hg,bd,cc,c',bl,C5,L8,eg];refine⟨af,af,a7,?_⟩
 have U:Wn gr code inp {m with steps:=m.steps+1} g (upd (upd ob 13 (S f)) 47 (S ((mX p).set m.pc (ag (IntKind.i64.wrap (n0+1)))))):=
  ⟨hg,f,mi,A,p.set m.pc (IntKind.i64.wrap (n0+1)),by simp[upd],b1,Q,by rcases Q with rfl|rfl<;>simpa[upd]using cb,by simp[upd,mX,N4],by rw[C4,b2],by simpa[upd]using b4⟩
 have ar:∀i,i≠13->i≠47->(upd (upd ob 13 (S f)) 47 (S ((mX p).set m.pc (ag (IntKind.i64.wrap (n0+1)))))) i=ob i:=λi a b=>by simp only[upd];rw[j9 b,j9 a]
 have t:(upd (upd ob 13 (S f)) 47 (S ((mX p).set m.pc (ag (IntKind.i64.wrap (n0+1)))))) 13=S f:=by simp[upd]
 have H:(upd (upd ob 13 (S f)) 47 (S ((mX p).set m.pc (ag (IntKind.i64.wrap (n0+1)))))) mi=S (jS m.mem):=by rcases Q with rfl|rfl<;>simpa[upd]using cb
 have ad:A=.osl 38 (g 38) 1 0 (z m.out)/\(upd (upd ob 13 (S f)) 47 (S ((mX p).set m.pc (ag (IntKind.i64.wrap (n0+1)))))) 38=S (nJ m.out):=by simpa[upd]using b4
 obtain⟨bn,cf,dd⟩:∃bn,(upd (upd ob 13 (S f)) 47 (S ((mX p).set m.pc (ag (IntKind.i64.wrap (n0+1)))))) 47=S (mX bn)/\z bn=z code:=⟨p.set m.pc (IntKind.i64.wrap (n0+1)),by simp[upd,mX,N4],by rw[C4,b2]⟩
 generalize upd (upd ob 13 (S f)) 47 (S ((mX p).set m.pc (ag (IntKind.i64.wrap (n0+1)))))=av at U ar t H ad cf|-;have bz:Mach.Good {m with steps:=m.steps+1}:=⟨v.len,v.reg,v.mem,by have:=v.pc;show m.pc<=4294967296+(m.steps+1);omega,v.out,v.fin⟩
 have hs:nY okI code inp m=if okW w=T then doM code inp {m with steps:=m.steps+1} (w/16777216) (w/1048576%16) (w/65536%16) (w%65536)else {m with steps:=m.steps+1,fin:=6}:=by
  unfold nY okW;rw[hw]
 rw[hs];have al:pJ w=pJ w:=rfl
 conv at al=>rhs;unfold pJ
 have dh:=b1.c23;have dp:=b1.c24;clear ef hs eg c' b2 bk eh V b4 cb ho;refine ie aO mixed [3002] [([0],[0],[],F),([56],[0],[],F),([57],[0],[],F),([58],[0],[],F),([0],[0],[],F),([60],[0],[],F),([61],[0],[],F),([62],[0],[],F),([63],[0],[],F),([59,64],[0],[],F),([65],[0],[],F),([],[],[0],F),([2,66],[],[],T)] 1 c9 rfl b9 ?_;simp only[go_sem];cases hR:okW w
 .rw[hR,j9 a8]at al
  rw[j9 a8]
  iterate 9 (apply aT;· (intro fa ga oa K' J;simp only[go_sem,hg,t,bd,dh]at J|-;exact J))
  iterate 2 (apply aT;· (intro fa ga oa K' J;simp only[go_sem,bl,hw,A3,al]at J|-;exact J))
  (apply db;· (intro fa ga oa K' J;simp only[go_sem]at J|-;exact J))
  apply di;intro K' a';simp only[go_sem];refine a' _ ?_;clear a' K';simp only[go_sem];refine cp c9 ?_;simp only[go_sem,hg,t,bd,dp,bl,hw,A3,hR];exact⟨a7,bI (.inl rfl) (FrW.from (U.done (m':={m with steps:=m.steps+1,fin:=6}) t (λi hi=>by (try simp only[upd]);repeat (rw[j9 (by omega)]);try rfl) (λi hi=>by (try simp only[upd]);repeat (rw[j9 (by omega)]);try rfl) (by simp[upd]<;>rfl) rfl rfl λ_ _ _ V=>V.setFin 6) ar)⟩
 .rw[hR,l9 rfl]at al
  rw[l9 rfl];obtain⟨p1,p2,p3⟩:=GN (show okI (w/16777216) (w/1048576%16) (w/65536%16) (w%65536)=T from hR);have ha:w/1048576%16<16:=a7;have hb:w/65536%16<16:=a7;have Z:w%65536<65536:=a7;generalize w/16777216=op at al p1 p2 p3|-;generalize w/1048576%16=a at al p3 ha|-;generalize w/65536%16=b at al p3 hb|-;generalize w%65536=c at al p3 Z|-
  iterate 9 (apply aT;· (intro fa ga oa K' J;simp only[go_sem,hg,t,bd,dh]at J|-;exact J))
  iterate 2 (apply aT;· (intro fa ga oa K' J;simp only[go_sem,bl,hw,A3,al]at J|-;exact J))
  (apply db;· (intro fa ga oa K' J;simp only[go_sem]at J|-;exact J))
  apply di;intro K' a';simp only[go_sem];refine a' _ ?_;clear a' K';simp only[go_sem];refine cp c9 ?_;simp only[go_sem,hg,t,bd,dp,bl,hw,A3,hR];refine cp c9 ?_;have q:=b1.rg a ha;have X:(0:Int)<=(a:Int):=a7;have rb:=b1.rg b hb;have b8:(0:Int)<=(b:Int):=a7;have o:m.pc<=4294967296000000:=by have:=v.pc;omega
  have gn:=v.r a;have gl:=v.r b;have u:=λg2 bo(h2:Wn gr code inp {m with steps:=m.steps+1} g2 bo)(x:Nat)=>Qa h2 a x ha o;have az:=λg2 bo(h2:Wn gr code inp {m with steps:=m.steps+1} g2 bo)(y:Bool)=>Sf h2 y c o;have b':IntKind.u32.wrap ((c:Nat):Int)=((c:Nat):Int):=er a7;change f[1+a]?=S (.d (.int .u32 (m.r a:Nat)))at q;change f[1+b]?=S (.d (.int .u32 (m.r b:Nat)))at rb
  have fin:∀{g2:Nat->Nat}{bo:Obs}{m':M}{g':Nat->Nat}{Y:Obs},(∀i,i<3000->g2 i=g i)->(∀i,i<3000->bo i=av i)->FrW g2 bo g' Y->Wn gr code inp m' g' Y->FrW g ob g' Y/\Wn gr code inp m' g' Y:=λe1 e2 f1 f2=>
   FrW.from (av:=av) ⟨λi hi K cy cz c1 c2=>by have:=f1 i hi K cy cz c1 c2;rw[e1 i hi,e2 i hi]at this;exact this,f2⟩ ar
  by_cases o1:op=1
  .subst o1
   rw[show doM code inp {m with steps:=m.steps+1} 1 a b c=({m with steps:=m.steps+1}:M).set a c from rfl];simp only[go_sem,hg,t,q,X,b'];refine⟨a7,?_⟩;refine cJ rfl (by simp only[go_sem];exact u _ _ (U.same (λi hi=>by (try simp only[upd]);repeat (rw[j9 (by omega)]);try rfl) (λi hi=>by (try simp only[upd]);repeat (rw[j9 (by omega)]);try rfl)) c) ?_;exact gD
  by_cases o2:op=2
  .subst o2
   rw[show doM code inp {m with steps:=m.steps+1} 2 a b c=({m with steps:=m.steps+1}:M).set a (m.r a%65536+c*65536)from rfl];have e1:((m.r a:Nat):Int).tmod 65536=((m.r a%65536:Nat):Int):=rfl;have e2:IntKind.u32.wrap ((c:Int)*65536)=((c*65536:Nat):Int):=by rw[IntKind.wrap_u32];omega
   have e3:IntKind.u32.wrap (((m.r a%65536:Nat):Int)+((c*65536:Nat):Int))=((m.r a%65536+c*65536:Nat):Int):=by rw[IntKind.wrap_u32];omega
   have e4:IntKind.u32.wrap ((m.r a%65536:Nat):Int)=((m.r a%65536:Nat):Int):=er a7;simp only[go_sem,hg,t,q,X,b',e1,e2,e3,e4];refine⟨a7,?_⟩;refine cJ rfl (by simp only[go_sem];exact u _ _ (U.same (λi hi=>by (try simp only[upd]);repeat (rw[j9 (by omega)]);try rfl) (λi hi=>by (try simp only[upd]);repeat (rw[j9 (by omega)]);try rfl)) (m.r a%65536+c*65536)) ?_;exact gD
  by_cases B:op=3
  .subst B
   rw[show doM code inp {m with steps:=m.steps+1} 3 a b c=({m with steps:=m.steps+1}:M).set a (m.r b)from rfl];simp only[go_sem,hg,t,q,X];refine⟨a7,?_⟩;refine cp c9 ?_;simp only[go_sem,hg,t,rb,b8];refine⟨a7,?_⟩;refine cJ rfl (by simp only[go_sem];exact u _ _ (U.same (λi hi=>by (try simp only[upd]);repeat (rw[j9 (by omega)]);try rfl) (λi hi=>by (try simp only[upd]);repeat (rw[j9 (by omega)]);try rfl)) (m.r b)) ?_;exact gD
  by_cases e0:op=18
  .subst e0
   rw[show doM code inp {m with steps:=m.steps+1} 18 a b c = {m with steps:=m.steps+1,pc:=c}from rfl];simp only[go_sem,hg,t,q,X];exact⟨a7,a7,bI (.inr rfl) (FrW.from (U.done (m':={m with steps:=m.steps+1,pc:=c}) t (λi hi=>by (try simp only[upd]);repeat (rw[j9 (by omega)]);try rfl) (λi hi=>by (try simp only[upd]);repeat (rw[j9 (by omega)]);try rfl) (by simp[upd]<;>rfl) rfl rfl λ_ _ _ V=>V.setPc c) ar)⟩
  by_cases e5:op=19
  .subst e5
   rw[show doM code inp {m with steps:=m.steps+1} 19 a b c = {m with steps:=m.steps+1,pc:=if m.r a=0 then c else m.pc+1}from rfl];by_cases hz:m.r a=0
   .have e:((m.r a:Nat):Int)=0:=a7
    rw[l9 hz];exact p8
   .have e:¬((m.r a:Nat):Int)=0:=a7
    rw[j9 hz];exact pv
  by_cases e6:op=20
  .subst e6
   rw[show doM code inp {m with steps:=m.steps+1} 20 a b c = {m with steps:=m.steps+1,pc:=if m.r a=0 then m.pc+1 else c}from rfl];by_cases hz:m.r a=0
   .have e:((m.r a:Nat):Int)=0:=a7
    rw[l9 hz];exact pv
   .have e:¬((m.r a:Nat):Int)=0:=a7
    rw[j9 hz];exact p8
  by_cases cv:op=22
  .subst cv
   rw[show doM code inp {m with steps:=m.steps+1} 22 a b c = {m with steps:=m.steps+1,pc:=m.r a}from rfl];have e7:IntKind.i64.wrap ((m.r a:Nat):Int)=((m.r a:Nat):Int):=by rw[wrap_i64]<;>omega
   simp only[go_sem,hg,t,q,X,e7];exact⟨a7,a7,bI (.inr rfl) (FrW.from (U.done (m':={m with steps:=m.steps+1,pc:=m.r a}) t (λi hi=>by (try simp only[upd]);repeat (rw[j9 (by omega)]);try rfl) (λi hi=>by (try simp only[upd]);repeat (rw[j9 (by omega)]);try rfl) (by simp[upd]<;>rfl) rfl rfl λ_ _ _ V=>V.setPc (m.r a)) ar)⟩
  by_cases e8:op=26
  .subst e8
   rw[show doM code inp {m with steps:=m.steps+1} 26 a b c = {m with steps:=m.steps+1,fin:=1}from rfl];simp only[go_sem,hg,t,q,X];exact⟨a7,a7,bI (.inr rfl) (FrW.from (U.done (m':={m with steps:=m.steps+1,fin:=1}) t (λi hi=>by (try simp only[upd]);repeat (rw[j9 (by omega)]);try rfl) (λi hi=>by (try simp only[upd]);repeat (rw[j9 (by omega)]);try rfl) (by simp[upd]<;>rfl) rfl rfl λ_ _ _ V=>V.setFin 1) ar)⟩
  by_cases e9:op=25
  .subst e9
   rw[show doM code inp {m with steps:=m.steps+1} 25 a b c=(if c<=m.r a then({m with steps:=m.steps+1,fin:=3}:M)else {m with steps:=m.steps+1,pc:=m.pc+1})from rfl];have cd:=ah (k:=m.pc) a7;by_cases hz:c<=m.r a
   .have e:((c:Nat):Int)<=((m.r a:Nat):Int):=a7
    rw[l9 hz];simp only[go_sem,hg,t,q,X,b',e];exact⟨a7,a7,bI (.inl rfl) (FrW.from (U.done (m':={m with steps:=m.steps+1,fin:=3}) t (λi hi=>by (try simp only[upd]);repeat (rw[j9 (by omega)]);try rfl) (λi hi=>by (try simp only[upd]);repeat (rw[j9 (by omega)]);try rfl) (by simp[upd]<;>rfl) rfl rfl λ_ _ _ V=>V.setFin 3) ar)⟩
   .have e:¬((c:Nat):Int)<=((m.r a:Nat):Int):=a7
    rw[j9 hz];simp only[go_sem,hg,t,q,X,b',e,bd,cd];exact⟨a7,a7,bI (.inr rfl) (FrW.from (U.done (m':={m with steps:=m.steps+1,pc:=m.pc+1}) t (λi hi=>by (try simp only[upd]);repeat (rw[j9 (by omega)]);try rfl) (λi hi=>by (try simp only[upd]);repeat (rw[j9 (by omega)]);try rfl) (by simp[upd]<;>rfl) rfl rfl λ_ _ _ V=>V.setPc (m.pc+1)) ar)⟩
  by_cases cx:op=21
  .subst cx
   rw[show doM code inp {m with steps:=m.steps+1} 21 a b c = {m with steps:=m.steps+1,reg:=m.reg.set a ((m.pc+1)%4294967296),pc:=c}from rfl];have e1:IntKind.u32.wrap ((m.pc:Nat):Int)=((m.pc%4294967296:Nat):Int):=w32 _;have e2:IntKind.u32.wrap (((m.pc%4294967296:Nat):Int)+1)=(((m.pc+1)%4294967296:Nat):Int):=by rw[IntKind.wrap_u32];omega
   simp only[go_sem,hg,t,q,X];refine⟨a7,?_⟩;refine cp c9 ?_;simp only[go_sem,hg,t,bd,X,e1,e2];refine⟨a7,a7,?_⟩;exact⟨by simp only[C4];omega,bI (.inr rfl) (FrW.from (U.done (m':={m with steps:=m.steps+1,reg:=m.reg.set a ((m.pc+1)%4294967296),pc:=c}) t (λi hi=>by (try simp only[upd]);repeat (rw[j9 (by omega)]);try rfl) (λi hi=>by (try simp only[upd]);repeat (rw[j9 (by omega)]);try rfl) (by simp[upd]<;>rfl) rfl rfl λ_ _ _ V=>(V.setReg ha _).setPc c) ar)⟩
  by_cases cu:op=23
  .subst cu
   have ds:¬(m.rd:Int)<0:=a7;have ec:(0:Int)<=(m.rd:Int):=a7;have ek:=ah (k:=m.rd) a7;have c4:=b1.c18;have c6:=b1.c26;cases I:inp[m.rd]? with
   |none=>
     have c7:(z inp:Int)<=(m.rd:Int):=by have:=Pe.1 I;omega
     rw[show doM code inp {m with steps:=m.steps+1} 23 a b c=({m with steps:=m.steps+1}:M).set a 256 by show (match inp[m.rd]? with|some x=>_|none=>_)=_;rw[I]];simp only[go_sem,hg,t,q,X];refine⟨a7,?_⟩;refine cp c9 ?_;simp only[go_sem,hg,t,c4,c6,ds,c7];refine cJ rfl (by simp only[go_sem];exact u _ _ (U.same (λi hi=>by (try simp only[upd]);repeat (rw[j9 (by omega)]);try rfl) (λi hi=>by (try simp only[upd]);repeat (rw[j9 (by omega)]);try rfl)) 256) ?_;rintro r g' Y ⟨f1,f2⟩;simp only[go_sem];exact bI (.inl rfl) (fin (λi hi=>by (try simp only[upd]);repeat (rw[j9 (by omega)]);try rfl) (λi hi=>by (try simp only[upd]);repeat (rw[j9 (by omega)]);try rfl) f1 f2)
   |some x=>
     have gm:=(l6.1 I).1;have c7:¬(z inp:Int)<=(m.rd:Int):=a7;have gv:=x.toNat_lt;rw[show doM code inp {m with steps:=m.steps+1} 23 a b c=({m with steps:=m.steps+1,rd:=m.rd+1}:M).set a x.toNat by show (match inp[m.rd]? with|some x=>_|none=>_)=_;rw[I];rfl];simp only[go_sem,hg,t,q,X];refine⟨a7,?_⟩;refine cp c9 ?_;simp only[go_sem,hg,t,c4,c6,ds,c7];refine cp c9 ?_;simp only[go_sem,hg,t,c4,c6,ec,I,ek,er (show x.toNat<4294967296 by omega)];refine⟨a7,?_⟩;refine cJ rfl (by simp only[go_sem];exact Qa (m:={m with steps:=m.steps+1,rd:=m.rd+1}) ((U.done (m':={m with steps:=m.steps+1,rd:=m.rd+1}) t (λi hi=>by (try simp only[upd]);repeat (rw[j9 (by omega)]);try rfl) (λi hi=>by (try simp only[upd]);repeat (rw[j9 (by omega)]);try rfl) (by simp[upd]<;>rfl) rfl rfl λ_ _ _ V=>V.setRd (m.rd+1)).2) a x.toNat ha o) ?_;rintro r g' Y ⟨f1,f2⟩;simp only[go_sem];refine bI (.inr rfl) (FrW.from (av:=av) ⟨λi hi K cy cz c1 c2=>?_,f2⟩ ar);have:=f1 i hi K cy cz c1 c2;simp only[upd]at this
     repeat rw[j9 (by omega)]at this
     exact this
  by_cases e':op=16
  .subst e'
   have L:=b1.c17;have hF:=Fj m.mem (m.r b) c P Z;have E:mi≠13/\mi≠3002:=a7;simp only[go_sem,hg,t,q,X];refine⟨a7,?_⟩;simp only[go_sem,hg,t,L];refine dr aO mixed c9 ?_;simp only[go_sem,hg,t,rb,b8];refine⟨a7,?_⟩
   have dc:∀{s:St}(x y:D),s.gen mi=g mi->s.obj mi=S (jS m.mem)->dU s [dL mi (g mi) 1 0 (z m.mem),.one (.d x),.one (.d y)] [.one (.d (lO m.mem)),.one (.d (iC x)),.one (.d (iC y))]:=λx y e1 e2=>
    Sr (zz (rr (cells:=jS m.mem) (off:=0) e1 e2 m.mem (λn=>.int .u32 (n:Nat)) (λ_=>rfl) rfl (λj a h=>by rw[C5];unfold jS;rw[w9,h];rfl) (by unfold jS;rw[j7];omega))) (kM _) (kM _)
   have e1:∀(x:Nat),(upd g 3002 x) mi=g mi:=λx=>by simp only[upd];rw[j9 E.2]
   cases I:m.mem[(m.r b+c)%4294967296]? with
   |none=>
     rw[I]at hF;unfold DE at hF;rw[show doM code inp {m with steps:=m.steps+1} 16 a b c = {m with steps:=m.steps+1,fin:=8} by show (match m.mem[(m.r b+c)%4294967296]? with|some x=>_|none=>_)=_;rw[I]];refine bc rfl hF Zd rfl ?_;exact oy
   |some x=>
     rw[I]at hF;unfold DE at hF;rw[show doM code inp {m with steps:=m.steps+1} 16 a b c=({m with steps:=m.steps+1}:M).set a x by show (match m.mem[(m.r b+c)%4294967296]? with|some x=>_|none=>_)=_;rw[I]];refine bc rfl hF Zd rfl ?_;exact km
  by_cases fl:op=27
  .subst fl
   have L:=b1.c17;have dx:=b1.c25;have hF:=Fj code (m.r b) c b5 Z;unfold fD at dx;unfold lO at hF;simp only[go_sem,hg,t,q,X];refine⟨a7,?_⟩;simp only[go_sem,hg,t,L,dx];refine dr aO mixed c9 ?_;simp only[go_sem,hg,t,rb,b8];refine⟨a7,?_⟩;cases I:code[(m.r b+c)%4294967296]? with
   |none=>
     rw[I]at hF;unfold DE at hF;rw[show doM code inp {m with steps:=m.steps+1} 27 a b c = {m with steps:=m.steps+1,fin:=8} by show (match code[(m.r b+c)%4294967296]? with|some x=>_|none=>_)=_;rw[I]];refine bc rfl hF (cG rfl) rfl ?_;exact oy
   |some x=>
     rw[I]at hF;unfold DE at hF;rw[show doM code inp {m with steps:=m.steps+1} 27 a b c=({m with steps:=m.steps+1}:M).set a x by show (match code[(m.r b+c)%4294967296]? with|some x=>_|none=>_)=_;rw[I]];refine bc rfl hF (cG rfl) rfl ?_;exact km
  have dz:=ah (k:=m.pc) a7;by_cases bf:4<=op/\op<=15
  .have eo:=p3 bf
   have rc:=b1.rg c eo;change f[1+c]?=S (.d (.int .u32 (m.r c:Nat)))at rc;have fm:(0:Int)<=(c:Int):=a7;have hA:=BC op (m.r b) (m.r c) bf.1 bf.2 (v.r b) (v.r c)
   have hD:doM code inp {m with steps:=m.steps+1} op a b c=match applyN op (m.r b) (m.r c)with|some x=>({m with steps:=m.steps+1}:M).set a x|none=>{m with steps:=m.steps+1,fin:=2}:=by
    obtain rfl|rfl|rfl|rfl|rfl|rfl|rfl|rfl|rfl|rfl|rfl|rfl:op=4\/op=5\/op=6\/op=7\/op=8\/op=9\/op=10\/op=11\/op=12\/op=13\/op=14\/op=15:=a7
    all_goals rfl
   rw[hD];clear hD;generalize applyN op (m.r b) (m.r c)=res at hA|-;unfold NY at hA;have k1:¬(op:Int)=1:=a7;have k2:¬(op:Int)=2:=a7;have k3:¬(op:Int)=3:=a7;have fo:¬(op:Int)=16:=a7;have fr:¬(op:Int)=17:=a7;have fs:¬(op:Int)=18:=a7;have ft:¬(op:Int)=19:=a7;have fu:¬(op:Int)=20:=a7;have fw:¬(op:Int)=21:=a7;have fx:¬(op:Int)=22:=a7;have fz:¬(op:Int)=23:=a7;have f':¬(op:Int)=24:=a7;have gb:¬(op:Int)=25:=a7;have gd:¬(op:Int)=26:=a7;have gh:¬(op:Int)=27:=a7;simp only[go_sem,hg,t,q,X,k1,k2,k3,fo,fr,fs,ft,fu,fw,fx,fz,f',gb,gd,gh];refine⟨a7,?_⟩;refine dr aO mixed c9 ?_;simp only[go_sem,hg,t,rb,rc,b8,fm];refine⟨a7,a7,?_⟩;cases res with
   |none=>
     refine bc rfl hA (cG rfl) rfl ?_;simp only[go_sem,hg,t];exact⟨a7,bI (.inl rfl) (FrW.from (U.done (m':={m with steps:=m.steps+1,fin:=2}) t (λi hi=>by (try simp only[upd]);repeat (rw[j9 (by omega)]);try rfl) (λi hi=>by (try simp only[upd]);repeat (rw[j9 (by omega)]);try rfl) (by simp[upd]<;>rfl) rfl rfl λ_ _ _ V=>V.setFin 2) ar)⟩
   |some x=>
     refine bc rfl hA (cG rfl) rfl ?_;exact km
  by_cases gi:op=17
  .subst gi
   have L:=b1.c17;have E:mi≠13/\mi≠3002/\mi≠47/\mi≠38:=a7;have e2:=Fe (m.r b) c;have b6:(m.r b+c)%4294967296<4294967296:=N3 _ b9;rw[show doM code inp {m with steps:=m.steps+1} 17 a b c=(if (m.r b+c)%4294967296<z m.mem then({m with steps:=m.steps+1,mem:=m.mem.set ((m.r b+c)%4294967296) (m.r a),pc:=m.pc+1}:M)else {m with steps:=m.steps+1,fin:=8})from rfl];generalize (m.r b+c)%4294967296=at' at e2 b6|-;have e3:=w64 (n:=at') a7;have e4:=w64 (n:=z m.mem) a7;have et:(0:Int)<=(at':Int):=a7;simp only[go_sem,hg,t,q,X];refine⟨a7,?_⟩;refine cp c9 ?_;by_cases hz:at'<z m.mem
   .have e:¬(z m.mem:Int)<=(at':Int):=a7
    have b3:z (jS m.mem)=z m.mem:=by unfold jS;rw[j7]
    rw[l9 hz];simp only[go_sem,hg,t,rb,b8,b',e2,L,e3,e4,e,et,H,E.2.1,B7 E.1,C5,L8,bd,dz];refine⟨a7,hz,a7,?_⟩;refine⟨a7,bI (.inr rfl) (FrW.from (av:=av) ⟨λi hi K cy cz c1 c2=>⟨(λi hi=>by (try simp only[upd]);repeat (rw[j9 (by omega)]);try rfl) i hi,by simp only[upd];(repeat rw[j9 (by omega)])⟩,⟨by simp[upd,hg],f.set 0 (ag (m.pc+1:Nat)),mi,A,bn,by simp[upd],?_,Q,?_,?_,dd,?_⟩⟩ ar)⟩
    .have hp:=b1.setPc (m.pc+1)
     simp only[upd,C4]
     (repeat rw[j9 (by omega)])
     exact⟨hp.len,hp.c0,hp.rl,hp.rg,hp.c17,hp.c18,hp.c19,hp.c20,hp.c21,hp.c22,hp.c23,hp.c24,hp.c25,hp.c26,hp.c27⟩
    .simp only[upd];(repeat rw[j9 (by omega)]);simp[jS,N4]
    .simp only[upd];(repeat rw[j9 (by omega)]);exact cf
    .simp only[upd];(repeat rw[j9 (by omega)]);exact ad
   .have e:(z m.mem:Int)<=(at':Int):=a7
    rw[j9 hz];simp only[go_sem,hg,t,rb,b8,b',e2,L,e3,e4,e,E.2.1,H];exact⟨a7,a7,bI (.inl rfl) (FrW.from (U.done (m':={m with steps:=m.steps+1,fin:=8}) t (λi hi=>by (try simp only[upd]);repeat (rw[j9 (by omega)]);try rfl) (λi hi=>by (try simp only[upd]);repeat (rw[j9 (by omega)]);try rfl) (by simp[upd]<;>rfl) rfl rfl λ_ _ _ V=>V.setFin 8) ar)⟩
  by_cases bs:op=24
  .subst bs
   have d':=b1.c22;have W:=v.out;rw[show doM code inp {m with steps:=m.steps+1} 24 a b c=(if 65536<=z m.out then({m with steps:=m.steps+1,fin:=4}:M)else {m with steps:=m.steps+1,out:=m.out++[UInt8.ofNat (m.r a)],pc:=m.pc+1})from rfl];have e1:((m.r a:Nat):Int).tmod 256=((m.r a%256:Nat):Int):=rfl;have e2:IntKind.u32.wrap ((m.r a%256:Nat):Int)=((m.r a%256:Nat):Int):=er a7;have e3:IntKind.u8.wrap ((m.r a%256:Nat):Int)=((m.r a%256:Nat):Int):=by rw[IntKind.wrap_u8];omega
   have gj:(UInt8.ofNat (m.r a)).toNat=m.r a%256:=by rw[M3]
   obtain⟨rfl,G⟩:=ad;have cm:z (nJ m.out)=z m.out:=by unfold nJ;rw[j7]
   by_cases O:65536<=z m.out
   .have a6:(65536:Int)<=(z m.out:Int):=a7
    rw[l9 O];simp only[go_sem,hg,t,q,X,d',G,a6];exact⟨a7,a7,bI (.inl rfl) (FrW.from (U.done (m':={m with steps:=m.steps+1,fin:=4}) t (λi hi=>by (try simp only[upd]);repeat (rw[j9 (by omega)]);try rfl) (λi hi=>by (try simp only[upd]);repeat (rw[j9 (by omega)]);try rfl) (by simp[upd]<;>rfl) rfl rfl λ_ _ _ V=>V.setFin 4) ar)⟩
   .have a6:¬(65536:Int)<=(z m.out:Int):=a7
    rw[j9 O];have ev:∀x,(f.set 22 x)[0]?=S (ag (m.pc:Nat)):=λx=>by rw[aF a7];exact bd
    simp only[go_sem,hg,t,q,X,d',G,a6,e1,e2,e3,ba,ev,dz];have E:mi≠13/\mi≠3002/\mi≠47/\mi≠38:=a7;refine⟨a7,a7,⟨b9,a7⟩,a7,by simp only[C4];omega,bI (.inr rfl) (FrW.from (av:=av) ⟨λi hi K cy cz c1 c2=>⟨by simp only[upd];(repeat rw[j9 (by omega)]),by simp only[upd];(repeat rw[j9 (by omega)])⟩,⟨by simp[upd,hg],(f.set 22 (.osl 38 (nxC (apC 5 (g 38) 0) (g 38)) 1 0 (z m.out+1))).set 0 (ag (m.pc+1:Nat)),mi,(.osl 38 (nxC (apC 5 (g 38) 0) (g 38)) 1 0 (z m.out+1)),bn,by simp[upd],?_,Q,?_,?_,dd,?_,?_⟩⟩ ar)⟩
    .have hp:=(b1.setOut (.osl 38 (nxC (apC 5 (g 38) 0) (g 38)) 1 0 (z m.out+1)) (m.out++[UInt8.ofNat (m.r a)])).setPc (m.pc+1)
     simp only[upd]
     (repeat rw[j9 (by omega)])
     exact hp
    .simp only[upd];(repeat rw[j9 (by omega)]);exact H
    .simp only[upd];(repeat rw[j9 (by omega)]);exact cf
    .simp[upd]
    .simp only[upd,B5]
     rw[j9 b9];simp[nJ,gj];exact s7 a8
  exfalso;omega
def Zv(l:List Int):D:=.sl (l.map λn=>[.int .i64 n])
def WC.state{cs cd:List C}{code:List Nat}{inp:Str}{m:M}{b A u:C}(h:WC cs code inp m b A u)(hl:z cd=28)(c:∀i,i<22->i≠19->cd[i]?=cs[i]?){o:Str}(ho:cd[19]?=S (bF o)):cd.take 22=stC {m with out:=o} b:=by
 have f:=Fg (m:={m with out:=o}) h.rl b;refine L0 λi=>?_;rw[I4];by_cases d:i<22
 .rw[l9 d]
  unfold stC;by_cases e:i=0
  .subst e;exact(c 0 a7 a7).trans h.c0
  by_cases U:i<=16
  .obtain⟨a,rfl⟩:∃a,i=a+1:=⟨i-1,a7⟩
   rw[c (a+1) a7 a7,show a+1=1+a by omega,h.rg a a7];rw[show 1+a=a+1 by omega,E8 (by simp[h.rl];omega),s6,u7,Qf,w9];have:a<z m.reg:=by rw[h.rl];omega
   rw[v8 this];unfold M.r;rw[E6,v8 this];rfl
  .obtain⟨k,rfl⟩:∃k,i=17+k:=⟨i-17,a7⟩
   rw[D1 (by simp[h.rl])];simp only[j7,l4,h.rl];rw[show 17+k-(16+1)=k by omega];obtain rfl|rfl|rfl|rfl|rfl:k=0\/k=1\/k=2\/k=3\/k=4:=a7
   .exact(c 17 a7 a7).trans h.c17
   .exact(c 18 a7 a7).trans h.c18
   .exact ho
   .exact(c 20 a7 a7).trans h.c20
   .exact(c 21 a7 a7).trans h.c21
 .rw[j9 d,F3 a7]
def DB(l:List Nat):List.map C.d (l.map λx=>[D.int .u32 (x:Nat)]).flatten=jS l:=by
 unfold jS
 induction l with
 |nil=>rfl
 |cons a l b=>simp only[s6,E7,C6,A7,b]
def Ku(n:Nat):(List.replicate n [C.d (.int .i64 0)]).flatten=mX (List.replicate n 0):=by
 unfold mX
 induction n with
 |zero=>rfl
 |succ n a=>simp only[F9,E7,s6,C6,A7,a]
def Si(code:List Nat)(d:Nat)(inp:Str)(q:Nat)(hl:z code<=1000000)(ca:∀x∈code,x<4294967296)(hd:d<=32768)(b3:q<=500000000000):
  aJ Tryz.prog 58 [fO (code,d),sv inp,stV (Mach.start d),ae q] (λr=>∃p:List Int,r=.tup [stV (runM okI code inp q (Mach.start d)),.one (.d (Zv p))]):=by
 refine hdR Tryz.func58 rfl [.cell 8 91,.tmp 9] λg=>?_;have hC:=Sq code d hl ca;have u:stV (Mach.start d)=.agg [ag 0,.d (.int .u32 0),.d (.int .u32 0),.d (.int .u32 0),.d (.int .u32 0),.d (.int .u32 0),.d (.int .u32 0),.d (.int .u32 0),.d (.int .u32 0),.d (.int .u32 0),.d (.int .u32 0),.d (.int .u32 0),.d (.int .u32 0),.d (.int .u32 0),.d (.int .u32 0),.d (.int .u32 0),.d (.int .u32 0),.d (lO (List.replicate d 0)),ag 0,bF [],ag 0,ag 0]:=rfl;rw[u];have B:=DB (List.replicate d 0);have U:∀e∈((List.replicate d 0).map λx=>[D.int .u32 ((x:Nat):Int)]),z e=1:=λe he=>by obtain⟨x,_,rfl⟩:=D6.1 he;rfl
 have G:z ((List.replicate d 0).map λx=>[D.int .u32 ((x:Nat):Int)])=d:=a8;have t:(Mach.start d).mem=List.replicate d 0:=rfl;have P:z (List.replicate d 0)=d:=G4;unfold lO;generalize ((List.replicate d 0).map λx=>[D.int .u32 ((x:Nat):Int)])=W at B U G|-;have bd:(0:Int)<=(z code:Int):=a7;unfold fO at hC|-;simp only at hC|-;generalize hI:code.map pJ=I at hC;generalize X:(code.map λw=>[D.bool (okW w)])=O at hC;unfold fD at hC|-;simp only[go_sem];refine cg rfl (by simp only[go_sem];exact hC) ?_;rintro _ rfl;simp only[go_sem];refine ie aO mixed [24,12] [([6],[0,1],[],F),([20],[0,1],[],F),([6],[0,1],[],F),([22],[0,1],[],F),([],[1],[0],F),([6],[0,1],[],F),([25],[0,1],[],F),([24,26],[1],[0],F),([6],[0,1],[],F),([28],[0,1],[],F),([6],[0,1],[],F),([30],[0,1],[],F),([6],[0,1],[],F),([32],[0,1],[],F),([21,23,27,29,31,33],[1],[],F),([],[0],[1],F),([12,34],[],[],T)] 2 c9 rfl b9 ?_;simp only[go_sem]
 iterate 4 (apply aT;· (intro fa ga oa K' J;simp only[go_sem]at J|-;exact J))
 (apply db;· (intro fa ga oa K' J;simp only[go_sem,ba]at J|-;exact J))
 iterate 2 (apply aT;· (intro fa ga oa K' J;simp only[go_sem]at J|-;exact J))
 (apply db;· (intro fa ga oa K' J;simp only[go_sem,ba]at J|-;exact⟨U,⟨b9,a7⟩,J⟩))
 iterate 7 (apply aT;· (intro fa ga oa K' J;simp only[go_sem]at J|-;exact J))
 (apply db;· (intro fa ga oa K' J;simp only[go_sem]at J|-;exact J))
 apply di;intro K' a';simp only[go_sem];refine a' _ ?_;clear a' K';simp only[go_sem];refine ie aO mixed [38,47,13] [([12],[0,1,2],[],F),([6],[1,2],[],F),([36],[1,2],[],F),([37],[1,2],[0],F),([10],[0,1,2],[],F),([11],[0,1,2],[],F),([4],[0,1,2],[],F),([41],[0,1,2],[],F),([1],[0,1,2],[],F),([4],[0,2],[],F),([44],[0,2],[],F),([45],[0,2],[],F),([46],[0,2],[1],F),([35,38,39,40,42,43,47],[2],[],F),([],[0,1],[2],F),([13,48],[],[],T)] 3 c9 rfl b9 ?_;simp only[go_sem]
 iterate 3 (apply aT;· (intro fa ga oa K' J;simp only[go_sem]at J|-;exact J))
 (apply db;· (intro fa ga oa K' J;simp only[go_sem,ba]at J|-;exact J))
 iterate 8 (apply aT;· (intro fa ga oa K' J;simp only[go_sem,j7]at J|-;exact J))
 (apply db;· (intro fa ga oa K' J;simp only[go_sem,bd]at J|-;exact⟨l8 _,a7,a7,J⟩))
 (apply aT;· (intro fa ga oa K' J;simp only[go_sem]at J|-;exact J))
 (apply db;· (intro fa ga oa K' J;simp only[go_sem]at J|-;exact J))
 apply di;intro K' a';simp only[go_sem];refine a' _ ?_;clear a' K';simp only[go_sem];refine eM (λn K=>∃(k:Nat)(m:M),n+k=q/\runM okI code inp q (Mach.start d)=runM okI code inp n m/\Mach.Good m/\z m.mem=d/\m.steps<=k/\m.rd<=k/\Wn (nxC 188 (g 13)) code inp m K.gen K.obj/\K.f 3=ae q/\K.f 14=ae k/\K.f 13=aj 13 (nxC 188 (g 13)) 0/\K.f 8=aj 8 (nxC 92 (g 8)) 0/\K.gen 8=nxC 92 (g 8)/\∃Z,K.obj 8=S Z/\z Z=22) q ?_ ?_
 .refine⟨0,Mach.start d,rfl,rfl,rj d,P,L1 _,L1 _,⟨?_,_,24,_,List.replicate (z code) 0,by simp only[upd,B5]<;>rfl,⟨rfl,rfl,rfl,λa ha=>?_,?_,rfl,rfl,rfl,rfl,rfl,?_,?_,rfl,rfl,?_⟩,.inl rfl,?_,?_,G4,?_,?_⟩,?_⟩
  .simp only[upd,B5]
  .obtain rfl|rfl|rfl|rfl|rfl|rfl|rfl|rfl|rfl|rfl|rfl|rfl|rfl|rfl|rfl|rfl:a=0\/a=1\/a=2\/a=3\/a=4\/a=5\/a=6\/a=7\/a=8\/a=9\/a=10\/a=11\/a=12\/a=13\/a=14\/a=15:=a7
   all_goals rfl
  .rw[show z (Mach.start d).mem=z W by rw[t,P,G]];rfl
  .rw[hI];rfl
  .rw[X];rfl
  .rfl
  .rw[t,<-B];rfl
  .rw[<-Ku];rfl
  .rfl
  .rfl
  .simp only[go_sem]
   exact⟨_,rfl,rfl⟩
 rintro n f g' ob ⟨k,m,hn,bz,v,ad,b0,b7,hW,q3,E,c,q8,s,Z,o8,Y⟩;simp only at hW q3 E c q8 s o8;obtain⟨l,cs,mi,A,p,ho,V,Q,cb,c',b2,rfl,ar⟩:=id hW;have an:=ah (k:=k) a7;by_cases av:k<q/\m.fin=0
 .obtain⟨af,hf⟩:=av
  have H:(k:Int)<(q:Int):=a7;have a6:(m.fin:Int)=0:=a7;simp only[go_sem,q3,E,c,H,l,ho,V.c21,a6];refine cJ rfl (by simp only[go_sem,c];exact Sh hW ca v a7 hl a7 a7 hf) ?_;rintro r g2 bo ⟨f1,f2⟩;obtain⟨n1,n2,n3⟩:=Ha (okI:=okI) (code:=code) (inp:=inp) m;simp only[go_sem,E,an];refine cQ (n-1) a7 ⟨k+1,nY okI code inp m,a7,?_,yj v ca,a7,a7,a7,f2,?_⟩
  .rw[bz,show n=(n-1)+1 by omega,GZ hf];rfl
  simp only[go_sem,q3,c,q8];have h8:=f1 8 b9 b9 b9 b9 b9 b9;exact⟨h8.1.trans s,Z,h8.2.trans o8,Y⟩
 .have b':runM okI code inp q (Mach.start d)=m:=by
   rw[bz];by_cases hf:m.fin=0
   .rw[show n=0 by omega];rfl
   .exact KD hf n
  rw[b'];have bl:(¬(k:Int)<(q:Int))\/((k:Int)<(q:Int)/\¬(m.fin:Int)=0):=a7;have L:u8s (List.take (z m.out) (nJ m.out))=S (m.out.map λb=>((b.toNat:Nat):Int)):=by rw[s7 (by simp[nJ])];exact qa _
  have b5:=V.len;have cm:z (nJ m.out)=z m.out:=by simp[nJ]
  have hb:(List.map (λn:Int=>UInt8.ofNat n.toNat) (List.map (λb:UInt8=>((b.toNat:Nat):Int)) m.out))=m.out:=by
   rw[Qf]
   conv=>rhs;rw[<-T0 m.out]
   exact R8 λb _=>by simp
  have hL:=V.state (cd:=cs.set 19 (C.d (D.str m.out))) (o:=m.out) (by rw[C4];exact b5) (λi hi al=>aF a7) (kD a7);have cc:(cs.set 19 (C.d (D.str m.out)))[27]?=S (.osl 47 (g' 47) 1 0 (z code)):=(aF a7).trans V.c27;have y:=Fg (m:={m with out:=m.out}) V.rl (.osl mi (g' mi) 1 0 (z m.mem));have hT:(stC {m with out:=m.out} (.osl mi (g' mi) 1 0 (z m.mem))).take 22=stC {m with out:=m.out} (.osl mi (g' mi) 1 0 (z m.mem)):=s7 a7;rcases bl with H|⟨H,a6⟩
  case' inl=>simp only[go_sem,q3,E,c,H,l,ho,V.c22,ar,L8,D7,L,hb]
  case' inr=>simp only[go_sem,q3,E,c,H,l,ho,V.c21,a6,V.c22,ar,L8,D7,L,hb]
  all_goals
   refine⟨a7,a7,?_⟩;refine ie aO mixed [8] [([13],[],[],F),([66],[],[],F),([13],[0],[],F),([68],[0],[],F),([8,67],[],[0],F),([69],[],[],T)] 1 c9 rfl b9 ?_;simp only[go_sem]
   (apply aT;· (intro fa ga oa K' J;simp only[go_sem,c,l]at J|-;exact J))
   (apply aT;· (intro fa ga oa K' J;simp only[go_sem,l,D7,hL]at J|-;exact⟨by rw[C4];omega,J⟩))
   (apply aT;· (intro fa ga oa K' J;simp only[go_sem,c,l]at J|-;exact J))
   (apply aT;· (intro fa ga oa K' J;simp only[go_sem,l,cc]at J|-;exact J))
   (apply jY;(focus simp);(focus (intro fa ga oa K' J;simp only[go_sem,q8,s,o8,y]at J|-;exact⟨a7,J⟩)))
   apply di;intro K' a';simp only[go_sem];refine a' _ ?_;clear a' K';rw[qi (by rw[y];exact Y)];simp only[go_sem,q8,s,hT,y];refine⟨_,⟨_,⟨_,_,rfl,qh (m:=m) ?_ rfl,_,_,rfl,zz ?_,rfl⟩,rfl⟩,p,rfl⟩
   .refine vS rfl ?_ rfl
    rcases Q with rfl|rfl<;>(simp only[upd];(repeat rw[j9 (by decide)]);exact cb)
   .refine rr (cells:=mX p) (off:=0) rfl ?_ p (λn=>.int .i64 n) (λ_=>rfl) b2 (λj a h=>by rw[C5];unfold mX;rw[w9,h];rfl) (by unfold mX;rw[j7];omega)
    simp only[upd];(repeat rw[j9 (by decide)]);exact c'
def WJ(code:List Nat)(d:Nat)(inp:Str)(q:Nat)(hl:z code<=1000000)(j:∀x∈code,x<4294967296)(hd:d<=32768)(l:q<=500000000000):
  aJ Tryz.prog 35 [fO (code,d),sv inp,stV (Mach.start d),ae q] (·=stV (runM okI code inp q (Mach.start d))):=by
 refine hdR Tryz.func35 rfl [.cell 8 91] λg=>?_;have i:=Si code d inp q hl j hd l;have a:=wH (okI:=okI) (inp:=inp) j (n:=q) (rj d);generalize runM okI code inp q (Mach.start d)=M at i a|-;unfold fO at i|-;have u:stV (Mach.start d)=.agg ((stD (Mach.start d)).map .d):=rfl;have e:List.take 22 (List.map C.d (stD (Mach.start d)))=List.map C.d (stD (Mach.start d)):=s7 (by simp[stD,Mach.start]);rw[u]at i|-;have c:z ((stD M).map C.d)=22:=by simp[stD,a.len]
 have k:((stD M).map C.d).take 22=(stD M).map C.d:=s7 a7;simp only[go_sem,e];refine⟨by simp[stD,Mach.start],?_⟩;refine gw rfl (by simp only[go_sem,e];exact i) (by simp only[go_sem,e];rfl) ?_;rintro _ ⟨p,rfl⟩;unfold stV;simp only[go_sem,c];rw[qi (by rw[c];rfl)];refine⟨a7,?_⟩;simp only[go_sem,k,c];rw[qi (by rw[c];rfl)];refine⟨a7,?_⟩;rw[k];exact⟨_,qh (m:=M) (b:=.d (lO M.mem)) (.d _) (by unfold stD;rw[A8];rfl),rfl⟩
def Fi(code:List Nat)(d:Nat)(inp:Str)(q:Nat)(hl:z code<=1000000)(w:∀x∈code,x<4294967296)(hd:d<=32768)(B:q<=500000000000):
  aJ Tryz.prog 13 [fO (code,d),sv inp,ae q] (·=Oa (BI okI code d inp q)):=by
 refine hdR Tryz.func13 rfl [.cell 6 53] λg=>?_;have U:=Ky code d hd;have r:=WJ code d inp q hl w hd B;have a:=wH (okI:=okI) (inp:=inp) w (n:=q) (rj d);unfold BI;generalize runM okI code inp q (Mach.start d)=M at r a|-;unfold fO at U r|-;have c:z ((stD M).map C.d)=22:=by simp[stD,a.len]
 have s:∀k,k<5->((stD M).map C.d)[17+k]?=([.d (lO M.mem),ag (M.rd:Nat),bF M.out,ag (M.steps:Nat),ag (M.fin:Nat)]:List C)[k]?:=λk G=>by
  have E:(stD M).map C.d=((.int .i64 (M.pc:Nat)::M.reg.map λx=>D.int .u32 (x:Nat)):List D).map C.d++[.d (lO M.mem),ag (M.rd:Nat),bF M.out,ag (M.steps:Nat),ag (M.fin:Nat)]:=by
   unfold stD;rw[A8];rfl
  rw[E,D1 (by simp[a.len])];simp only[j7,l4,a.len];rw[show 17+k-(16+1)=k by omega]
 have b:((stD M).map C.d)[19]?=S (bF M.out):=s 2 b9;have e:((stD M).map C.d)[20]?=S (ag (M.steps:Nat)):=s 3 b9;have f:((stD M).map C.d)[21]?=S (ag (M.fin:Nat)):=s 4 b9;clear s;unfold stV at r;generalize (stD M).map C.d=L at r c b e f;have H:L.take 22=L:=s7 a7;have j:stV (Mach.start d)=.agg ((stD (Mach.start d)).map .d):=rfl;rw[j]at U;simp only[go_sem];refine ie aO mixed [7] [([3],[0],[],F),([1],[0],[],F),([3],[0],[],F),([10],[0],[],F),([2],[0],[],F),([8,9,11,12],[0],[],F),([],[],[0],F),([7,13],[],[],T)] 1 c9 rfl b9 ?_;simp only[go_sem]
 iterate 3 (apply aT;· (intro t ga u p J;simp only[go_sem]at J|-;exact J))
 refine aT (v:=.agg ((stD (Mach.start d)).map .d)) (λt ga u p J=>?_) ?_
 .simp only[go_sem]at J|-
  refine gw (k:=bx p) rfl (by simp only[go_sem];exact U) XK ?_;exact S3
 (apply aT;· (intro t ga u p J;simp only[go_sem]at J|-;exact J))
 refine aT (v:=.agg L) (λt ga u p J=>?_) ?_
 .simp only[go_sem]at J|-
  refine gw (k:=bx p) rfl (by simp only[go_sem];exact r) XK ?_;exact S3
 (apply db;· (intro t ga u p J;simp only[go_sem]at J|-;exact J))
 apply di;intro p y;simp only[go_sem,c];refine y _ ?_;clear y p;rw[qi (by rw[c];rfl)];have i:=c;by_cases A:M.fin=0
 .have h:(M.fin:Int)=0:=a7
  rw[l9 A];have l:(L.set 21 (C.d (D.int .i64 5)))[21]?=S (C.d (D.int .i64 5)):=kD a7;have m:(L.set 21 (C.d (D.int .i64 5)))[20]?=S (ag (M.steps:Nat)):=by rw[aF b9];exact e
  have o:(L.set 21 (C.d (D.int .i64 5)))[19]?=S (bF M.out):=by rw[aF b9];exact b
  simp only[go_sem,f,h,l,m,o];exact⟨a7,_,Km,rfl⟩
 .have h:¬(M.fin:Int)=0:=a7
  rw[j9 A];simp only[go_sem,b,e,f,h];exact⟨_,Km,rfl⟩
end
end Go.Proofs.YtlacbjnmkhndiaaGreatDoor
namespace Go.Proofs.YtlacbjnmkhndiaaGreatDoor.Low
section
open Go Go.Am Go.Asm Go.Mach
attribute[local congr]ite_cc
def iw(t:Nat)(code:List Nat)(d:Nat):Nat:=8*(t+1)*(z code+d+1)
def F_A(t:Nat)(code:List Nat)(d:Nat)(j:t<=1000)(hl:z code<=1000000)(hd:d<=32768):aJ Tryz.prog 14 [ae t,fO (code,d)] (·=ae (iw t code d:Nat)):=by
 refine hdP Tryz.func14 rfl [4] λg=>?_;have U:IntKind.i64.wrap ((t:Int)+1)=((t+1:Nat):Int):=by rw[wrap_i64]<;>omega
 have a:IntKind.i64.wrap (8*((t+1:Nat):Int))=((8*(t+1):Nat):Int):=by rw[wrap_i64]<;>omega
 have b:IntKind.i64.wrap ((z code:Int)+(d:Int))=((z code+d:Nat):Int):=by rw[wrap_i64]<;>omega
 have e:IntKind.i64.wrap (((z code+d:Nat):Int)+1)=((z code+d+1:Nat):Int):=by rw[wrap_i64]<;>omega
 have i:IntKind.i64.wrap (((8*(t+1):Nat):Int)*((z code+d+1:Nat):Int))=(iw t code d:Nat):=by
  have hb:8*(t+1)*(z code+d+1)<=8008*1032769:=Nat.mul_le_mul a7 a7;unfold iw;rw[<-P3,wrap_i64]<;>omega
 unfold fO fD;simp only[go_sem,j7,U,a,b,e,i]
def aB:Str:=[83,69,69,68,6,0,0,0,1,0,0,0,1,0,240,1,65,0,16,1,0,0,16,17,0,0,16,16,0,0,16,24,0,0,0,26]
def aC:List Nat:=[32505857,17825857,286261248,269484032,403701760,436207616]
def a_r:kZ aB=S (aC,1):=c9
def a_x:BI okI aC 1 [] (iw 0 aC 1)=(1,[65],6):=c9
def e_c:iH ⟨[],[],[]⟩=(([],0),7):=c9
def Wq{P:Program}{q:Nat}{o:cT}{f:FuncId}{R:AV->Prop}(h:ck P q o f [.agg [aq [],aq [],aq []]] R):ck P q o f [.agg [.d .nsl,.d .nsl,.d .nsl]] R:=
 ⟨h.1,λJ w vs h0 U h2=>h.2 J w vs h0 U (by
  simp only[RVs,RV]at h2|-;obtain⟨u,us,rfl,⟨L,rfl,hl,Z⟩,al⟩:=h2;refine⟨_,us,rfl,⟨L,rfl,hl,λi c hi=>?_⟩,al⟩
  have hn:([.d .nsl,.d .nsl,.d .nsl]:List C)[i]?=S (.d .nsl):=by
   match i,hi with
   |0,_=>rfl
   |1,_=>rfl
   |2,_=>rfl
  have hs:c=aq []:=by
   match i,hi with
   |0,hi=>cases hi;rfl
   |1,hi=>cases hi;rfl
   |2,hi=>cases hi;rfl
  obtain⟨v,hv,x,I,V⟩:=Z i _ hn;cases I;cases V;exact⟨_,hv,_,hs,.sl0⟩)⟩
def mT(b:Bool):(List Nat×Nat)×Nat:=if b then((aC,1),0)else(([],0),3)
def oB(b:Bool):Str×Nat×Nat:=if b then(aB,0,0)else([],22,3)
def m_T(b:Bool):(if (rT b).2.2≠0 then(([],0),(rT b).2.2)else iH (rT b).1)=mT b:=by cases b<;>decide +kernel
def o_T(b:Bool):oB b=((if (mT b).2≠0 then []else On (mT b).1),(rT b).2.1,(mT b).2):=by cases b<;>decide +kernel
def yu{o:cT}(ho:kN o)(b:Bool):ck Tryz.prog 1 o 11 [sv (xo b)] (·=EU (oB b)):=by
 have hP:=SX ho b;have hT:=Ny ho (p:=(rT b).1) (e:=(rT b).2.2) (λ_=>by cases b<;>decide);rw[m_T]at hT;have i:=Nz (o:=o) (m:=(mT b).1) (e:=(mT b).2) (by cases b<;>decide) (by cases b<;>decide);rw[o_T];generalize rT b=r at hP hT|-;generalize mT b=m at hT i|-;obtain⟨p,j,e⟩:=r;obtain⟨⟨code,data⟩,h⟩:=m;have G:cl p=.agg [aq (p.v.map λs=>[.str s]),aq (p.a.map arD),aq (p.f.map fnD)]:=rfl;have c:fO (code,data)=.agg [.d (fD code),ag (data:Nat)]:=rfl;unfold Jg at hP;unfold rR at hT;simp only at hP hT i|-;rw[G]at hP hT;rw[c]at hT i;refine hdG Tryz.func11 rfl [.tmp 2,.tmp 3,.tmp 4] λO bn s0 w0 g=>?_;simp only[go_sem];refine cU rfl ZQ ?_;rintro _ rfl;simp only[go_sem];refine cU rfl Ys ?_;rintro _ rfl;simp only[go_sem];refine cU rfl (by simp only[go_sem];exact i) ?_;rintro _ rfl;unfold EU;simp only[go_sem];exact⟨_,Nw,rfl⟩
def OT{o:cT}(b:kN o):ck Tryz.prog 1 o 5 [] (·=bv T):=by
 refine hdG Tryz.func5 rfl [.tmp 0] λO bn s0 w0 g=>?_;simp only[go_sem];refine cU rfl (by simp only[go_sem];exact yu b T) ?_;rintro _ rfl;unfold EU oB;simp only[go_sem];refine jd rfl (by simp only[go_sem];exact DD aB b9) ?_;rintro _ rfl;rw[a_r];unfold Dt fO;simp only[go_sem];refine cB aO mixed aL [6] [([4],[0],[],F),([4],[0],[],F),([23],[0],[],F),([22,24],[0],[],F),([],[],[0],F),([6,25],[],[],T)] 1 rfl c9 rfl b9 ?_;simp only[go_sem]
 iterate 2 (apply aw;(case hg=>first|exact y8|exact⟨_,rfl,by decide,rfl⟩);(case U=>intro e ga j a J;simp only[go_sem]at J|-;exact J))
 refine aw (v:=ae (iw 0 aC 1:Nat)) y8 (λe ga j a J=>?_) ?_
 .simp only[go_sem]at J|-
  refine jd rfl (by simp only[go_sem];exact F_A 0 aC 1 b9 b9 b9) ?_;exact S3
 refine aw (v:=Oa (1,[65],6)) y8 (λe ga j a J=>?_) ?_
 .simp only[go_sem]at J|-
  refine jd rfl (by simp only[go_sem];exact Fi aC 1 [] (iw 0 aC 1) b9 c9 b9 b9) ?_;rintro _ rfl;rw[a_x];exact lv
 unfold Oa
 (apply bV;(case hg=>first|exact y8|exact⟨_,rfl,by decide,rfl⟩);(case U=>intro e ga j a J;simp only[go_sem]at J|-;exact J))
 refine cC y8 ?_;intro a l;simp only[go_sem];refine l _ ?_;clear l a;simp only[go_sem];refine cU rfl (by simp only[go_sem];exact yu b F) ?_;rintro _ rfl;unfold EU oB;simp only[go_sem];refine cU rfl (by simp only[go_sem];exact Wq (zg b (p:=⟨[],[],[]⟩) c9)) ?_;rintro _ rfl;rw[e_c];unfold rR fO;exact gW
end
end Go.Proofs.YtlacbjnmkhndiaaGreatDoor.Low
namespace Go.Am
section
attribute[local congr]ite_cc
section
variable{ar:Sp}{s:St}{B:(Exit->St->Prop)->St->Prop}{Q:Exit->St->Prop}
def JK{b:Box B}{q:Box Q}(d:St)(h:ar.vs s d)(J:Nat->St->Prop)(n:Nat)(e:J 0 d)
 (V:∀k f g a,k<=n->J k ⟨f,g,a⟩->B (jD (bx λW=>∃j d,j<n-k/\ar.vs W d/\∃c,j+c=n/\J c d) q) ⟨f,g,a⟩):oF ar b q s:=
 ⟨λm K=>∃k,m+k=n/\J k K,⟨n,d,h,0,rfl,e⟩,λm K⟨k,U,i⟩=>by
  have:=V k K.f K.gen K.obj a7 i
  rwa [show n-k=m by omega]at this⟩
def dv{b:Box B}{q:Box Q}(J:Nat->St->Prop)(n:Nat)(h0:J 0 s)
 (V:∀k f g ob,k<=n->J k ⟨f,g,ob⟩->B (jD (bx λW=>∃j d,j<n-k/\ar.vs W d/\∃k',j+k'=n/\J k' d) q) ⟨f,g,ob⟩)(hv:∀s,ar.vs s s:=by exact λs=>ai.refl s):oF ar b q s:=JK s (hv s) J n h0 V
def bN{J:Nat->St->Prop}{n k:Nat}(h:k<n)(hJ:J (k+1) s)(hv:ar.vs s s:=by exact ai.refl _):∃j d,j<n-k/\ar.vs s d/\∃k',j+k'=n/\J k' d:=
 ⟨n-(k+1),s,a7,hv,k+1,a7,hJ⟩
end
end
end Go.Am
namespace Go.Src
section
attribute [local congr] Go.Am.ite_cc
section
mutual
def inE:Ex->Prop
 |.mk _ _ _ _ kids=>z kids<=1000000000000000000/\rV kids
def rV:List Ex->Prop
 |[]=>True
 |e::l=>inE e/\rV l
end
mutual
def inS:Stm->Prop
 |.mk _ _ e a el=>(z e<=1000000000000000000/\rV e)/\(z a<=1000000000000000000/\qY a)/\(z el<=1000000000000000000/\qY el)
def qY:List Stm->Prop
 |[]=>True
 |e::l=>inS e/\qY l
end
def JL:∀{l:List Ex}{k:Nat}{e:Ex},rV l->l[k]?=S e->inE e
 |_::_,0,_,h,he=>by cases he;exact h.1
 |_::_,_+1,_,h,he=>JL h.2 (by simpa using he)
def JM:∀{l:List Stm}{k:Nat}{e:Stm},qY l->l[k]?=S e->inS e
 |_::_,0,_,h,he=>by cases he;exact h.1
 |_::_,_+1,_,h,he=>JM h.2 (by simpa using he)
mutual
def nW:Ex->Int->Int->Int
 |.mk _ _ _ name kids,left,b=>if b<=0\/60<(z name:Int)then -1 else dG kids (left-1) (b-1)
def dG:List Ex->Int->Int->Int
 |[],left,_=>left
 |e::l,left,b=>if left<0 then left else dG l (nW e left b) b
end
mutual
def nX:Stm->Int->Int->Int
 |.mk _ name e a el,left,b=>if b<=0\/60<(z name:Int)then -1 else dW el (dW a (dG e (left-1) (b-1)) (b-1)) (b-1)
def dW:List Stm->Int->Int->Int
 |[],left,_=>left
 |e::l,left,b=>if left<0 then left else dW l (nX e left b) b
end
variable{left b:Int}
def Dl(h:left<0):∀l:List Ex,dG l left b=left
 |[]=>rfl
 |e::l=>by rw[dG,l9 h]
def nC(h:left<0):∀l:List Stm,dW l left b=left
 |[]=>rfl
 |e::l=>by rw[dW,l9 h]
mutual
theorem JN:∀(e:Ex)(left b:Int),nW e left b<0\/nW e left b+szE e=left
 |.mk _ _ _ name kids,left,b=>by
   rw[nW,szE];split
   .omega
   .have:=tt kids (left-1) (b-1);omega
theorem tt:∀(l:List Ex)(left b:Int),dG l left b<0\/dG l left b+bw l=left
 |[],left,b=>by rw[dG,bw];omega
 |e::l,left,b=>by
   rw[dG,bw];split
   .omega
   .have:=JN e left b
    by_cases h:(nW e left b)<0
    .rw[Dl h];omega
    .have:=tt l (nW e left b) b;omega
end
mutual
theorem JO:∀(e:Stm)(left b:Int),nX e left b<0\/nX e left b+szS e=left
 |.mk _ name e a el,left,b=>by
   rw[nX,szS];split
   .omega
   .have U:=tt e (left-1) (b-1)
    by_cases h:(dG e (left-1) (b-1))<0
    .rw[nC h,nC h];omega
    have c:=qd a (dG e (left-1) (b-1)) (b-1);by_cases q:(dW a (dG e (left-1) (b-1)) (b-1))<0
    .rw[nC q];omega
    have d:=qd el (dW a (dG e (left-1) (b-1)) (b-1)) (b-1);omega
theorem qd:∀(l:List Stm)(left b:Int),dW l left b<0\/dW l left b+aN l=left
 |[],left,b=>by rw[dW,aN];omega
 |e::l,left,b=>by
   rw[dW,aN];split
   .omega
   .have:=JO e left b
    by_cases h:(nX e left b)<0
    .rw[nC h];omega
    .have:=qd l (nX e left b) b;omega
end
mutual
theorem JP:∀(e:Ex)(left b:Int),0<=left->-1<=nW e left b
 |.mk _ _ _ name kids,left,b,h=>by
   rw[nW];split
   .omega
   .exact tu kids _ _ a7
theorem tu:∀(l:List Ex)(left b:Int),-1<=left->-1<=dG l left b
 |[],left,b,h=>by rw[dG];exact h
 |e::l,left,b,h=>by
   rw[dG];split
   .exact h
   .exact tu l _ _ (JP e _ _ a7)
end
mutual
theorem JQ:∀(e:Stm)(left b:Int),0<=left->-1<=nX e left b
 |.mk _ name e a el,left,b,h=>by
   rw[nX];split
   .omega
   .exact tv el _ _ (tv a _ _ (tu e _ _ a7))
theorem tv:∀(l:List Stm)(left b:Int),-1<=left->-1<=dW l left b
 |[],left,b,h=>by rw[dW];exact h
 |e::l,left,b,h=>by
   rw[dW];split
   .exact h
   .exact tv l _ _ (JQ e _ _ a7)
end
end
end
end Go.Src
namespace Go.Proofs.YtlacbjnmkhndiaaGreatDoor
section
open Go Go.Am Go.Asm
open Go.Src (Ex Stm szE bw szS aN inE rV inS qY nW dG nX dW)
attribute[local congr]ite_cc
def dk{A:Type}{l:List A}{k:Nat}{e:A}(h:l[k]?=S e):l.drop k=e::l.drop (k+1):=by
 obtain⟨U,rfl⟩:=l6.1 h;exact C3 U
def getD_at{A:Type}{f:A->List D}{l:List A}{k:Nat}{e:A}(h:l[k]?=S e):(l.map f)[k]?=S (f e):=by rw[w9,h];rfl
def Bm:∀(al:Nat)(l:List Ex)(left b:Int),bw l<=al->z l<=1000000000000000000->rV l->(-4000000000000000000<=left/\left<=1000000)->(0<=b/\b<=60)->aJ Tryz.prog 59 [eJ l,ae left,ae b] (·=ae (dG l left b)):=by
 intro al
 induction al using Nat.strongRecOn with
 |ind al E=>
 intro l left b H hl bl a1 u;refine hdP Tryz.func59 rfl [6] λg=>?_;obtain⟨X,A⟩:∃X,dG l left b=X:=⟨_,rfl⟩
 rw[A];unfold eJ;simp only[go_sem];refine dv (λk K=>∃c:Int,dG (l.drop k) c b=X/\(-4000000000000000000<=c/\c<=1000000)/\K.f 0=.one (aq (l.map exD))/\K.f 1=ae c/\K.f 2=ae b/\K.f 7=ae k) (z l) ⟨left,A,a1,?_⟩ ?_
 .exact gW
 rintro k f I L hk ⟨c,Z,O,q0,i,q2,q7⟩;simp only at q0 i q2 q7;have hw:=ah (k:=k) a7;by_cases af:k<z l
 case neg=>
  have Q:¬(k:Int)<(z l:Int):=a7;rw[y9 a7,dG]at Z;simp only[go_sem,q0,i,q2,q7,Q,j7,Z]
 have Q:(k:Int)<(z l:Int):=a7;by_cases o:0<=c
 case neg=>
  rw[Src.Dl a7]at Z;subst Z;simp only[go_sem,q0,i,q2,q7,Q,j7,o]
 have v:IntKind.i64.wrap (c-1)=c-1:=wrap_i64 _ a7 a7;have w:IntKind.i64.wrap (b-1)=b-1:=wrap_i64 _ a7 a7;obtain⟨e,t⟩:=getq af;rw[dk t,dG,j9 a7]at Z;have x:=Src.JL bl t;have az:=Src.Oz (l7 t);obtain⟨kind,op,num,name,a⟩:=e;have G:exD (.mk kind op num name a)=[.int .i64 kind,.int .i64 op,.int .u32 num,.str name,.sl (a.map exD)]:=by simp only[exD,aV]
 have y:=getD_at (f:=exD) t;rw[G]at y;rw[nW]at Z;rw[szE]at az;rw[inE]at x;by_cases hd:b<=0
 .rw[l9 (.inl hd),Src.Dl a7]at Z
  simp only[go_sem,q0,i,q2,q7,Q,j7,o,v,hd,<-Z]
 by_cases hn:60<(z name:Int)
 .rw[l9 (.inr hn),Src.Dl a7]at Z
  simp only[go_sem,q0,i,q2,q7,Q,j7,o,v,hd,y,hn,<-Z]
 rw[j9 a7]at Z;have ho:=Src.tt a (c-1) (b-1);have p:=Src.tu a (c-1) (b-1) a7;simp only[go_sem,q0,i,q2,q7,Q,j7,o,v,w,hd,y,hn];refine cg rfl (by simp only[go_sem,w];exact E (bw a) a7 a (c-1) (b-1) (l8 _) x.1 x.2 a7 a7) ?_;exact Xf
end
end Go.Proofs.YtlacbjnmkhndiaaGreatDoor
namespace Go.Src
section
attribute [local congr] Go.Am.ite_cc
open Go.Asm (Str)
def Dn(l:List Str):Bool:=decide (z l<=200)&&l.all λs=>decide ((z s:Int)<=60)
def NJ(left:Int):List Fn->Option Int
 |[]=>S left
 |f::l=>if Dn f.p && Dn f.l && decide ((z f.name:Int)<=60)then NJ (dW f.body (left-z f.p-z f.l) 60) l else N
def Ws(p:Prog)(d:Int):Bool:=
 if (Dn p.v && decide (z p.a<=200) && decide (z p.f<=70))=F then F
 else if (p.a.all λa=>decide ((z a.1:Int)<=60))=F then F
 else match NJ (d-z p.v-z p.a-z p.f) p.f with
  |some n=>decide (0<=n)
  |none=>F
structure InP (p:Prog):Prop where
 v:p.v.length<=1000000000000000000
 a:p.a.length<=1000000000000000000
 f:p.f.length<=1000000000000000000
 fs:∀f∈p.f,(f.p.length<=1000000000000000000/\f.l.length<=1000000000000000000)/\f.body.length<=1000000000000000000/\qY f.body
def EW:∀(l:List Fn)(left n:Int),NJ left l=S n->n<0\/n+((l.map λf=>z f.p+z f.l+aN f.body).sum:Nat)<=left
 |[],left,n,h=>by cases h;simp
 |f::l,left,n,h=>by
   rw[NJ]at h;split at h
   .have a:=EW l _ n h
    simp only[s6,D8];have b:=qd f.body (left-z f.p-z f.l) 60;omega
   .cases h
def XT{p:Prog}{d:Nat}(h:Ws p d=T):z p.v+z p.a+z p.f+(p.f.map λf=>z f.p+z f.l+aN f.body).sum<=d:=by
 unfold Ws at h;split at h
 .cases h
 split at h
 .cases h
 split at h
 .rename_i n b
  have c:=OX h;rcases EW _ _ _ b with U|U<;>omega
 .cases h
end
end Go.Src
namespace Go.Proofs.YtlacbjnmkhndiaaGreatDoor
section
open Go Go.Am Go.Asm
open Go.Src (Ex Stm szE bw szS aN inE rV inS qY nW dG nX dW)
attribute[local congr]ite_cc
def Bo:∀(al:Nat)(l:List Stm)(left b:Int),aN l<=al->z l<=1000000000000000000->qY l->(-4000000000000000000<=left/\left<=1000000)->(0<=b/\b<=60)->aJ Tryz.prog 38 [fH l,ae left,ae b] (·=ae (dW l left b)):=by
 intro al
 induction al using Nat.strongRecOn with
 |ind al y=>
 intro l left b G hl bl a1 u;refine hdP Tryz.func38 rfl [6] λg=>?_;obtain⟨X,A⟩:∃X,dW l left b=X:=⟨_,rfl⟩
 rw[A];unfold fH;simp only[go_sem];refine dv (λk K=>∃c:Int,dW (l.drop k) c b=X/\(-4000000000000000000<=c/\c<=1000000)/\K.f 0=.one (aq (l.map smD))/\K.f 1=ae c/\K.f 2=ae b/\K.f 7=ae k) (z l) ⟨left,A,a1,?_⟩ ?_
 .exact gW
 rintro k f H I hk ⟨c,Z,L,q0,o,q2,q7⟩;simp only at q0 o q2 q7;have hw:=ah (k:=k) a7;by_cases af:k<z l
 case neg=>
  have Q:¬(k:Int)<(z l:Int):=a7;rw[y9 a7,dW]at Z;simp only[go_sem,q0,o,q2,q7,Q,j7,Z]
 have Q:(k:Int)<(z l:Int):=a7;by_cases t:0<=c
 case neg=>
  rw[Src.nC a7]at Z;subst Z;simp only[go_sem,q0,o,q2,q7,Q,j7,t]
 have x:IntKind.i64.wrap (c-1)=c-1:=wrap_i64 _ a7 a7;have w:IntKind.i64.wrap (b-1)=b-1:=wrap_i64 _ a7 a7;obtain⟨e,v⟩:=getq af;rw[dk v,dW,j9 a7]at Z;have i:=Src.JM bl v;have az:=Src.OA (l7 v);obtain⟨kind,name,e,a,el⟩:=e;have E:smD (.mk kind name e a el)=[.int .i64 kind,.str name,.sl (e.map exD),.sl (a.map smD),.sl (el.map smD)]:=by simp only[smD,aV,ez]
 have p:=getD_at (f:=smD) v;rw[E]at p;rw[nX]at Z;rw[szS]at az;rw[inS]at i;by_cases hd:b<=0
 .rw[l9 (.inl hd),Src.nC a7]at Z
  simp only[go_sem,q0,o,q2,q7,Q,j7,t,x,hd,<-Z]
 by_cases hn:60<(z name:Int)
 .rw[l9 (.inr hn),Src.nC a7]at Z
  simp only[go_sem,q0,o,q2,q7,Q,j7,t,x,hd,p,hn,<-Z]
 rw[j9 a7]at Z;have O:=Src.tt e (c-1) (b-1);have U:=Src.tu e (c-1) (b-1) a7;have Y:=Src.qd a (dG e (c-1) (b-1)) (b-1);have c2:=Src.tv a (dG e (c-1) (b-1)) (b-1) a7;have d1:=Src.qd el (dW a (dG e (c-1) (b-1)) (b-1)) (b-1);have d2:=Src.tv el (dW a (dG e (c-1) (b-1)) (b-1)) (b-1) a7;simp only[go_sem,q0,o,q2,q7,Q,j7,t,x,w,hd,p,hn];refine cg rfl (by simp only[go_sem,w];exact Bm (bw e) e (c-1) (b-1) (l8 _) i.1.1 i.1.2 a7 a7) ?_;rintro _ rfl;simp only[go_sem,q0,q2,q7,p,w];refine cg rfl (by simp only[go_sem,w];exact y (aN a) a7 a _ (b-1) (l8 _) i.2.1.1 i.2.1.2 a7 a7) ?_;rintro _ rfl;simp only[go_sem,q0,q2,q7,p,w];refine cg rfl (by simp only[go_sem,w];exact y (aN el) a7 el _ (b-1) (l8 _) i.2.2.1 i.2.2.2 a7 a7) ?_;exact Xf
def dw{A:Type}{p:A->Bool}{l:List A}{k:Nat}{x:A}{X:Bool}(h:(l.drop k).all p=X)(I:l[k]?=S x):(p x=T->(l.drop (k+1)).all p=X)/\(p x=F->X=F):=by
 rw[dk I,E9]at h;constructor
 .intro e;rw[e,x8]at h;exact h
 .intro e;rw[e,A9]at h;exact h.symm
def jy(l:List Str):AV:=.one (aq (l.map λs=>[.str s]))
def zp(l:List Str)(hl:z l<=1000000000000000000):aJ Tryz.prog 37 [jy l] (·=bv (Src.Dn l)):=by
 refine hdP Tryz.func37 rfl [2] λg=>?_;unfold Src.Dn jy;obtain⟨X,a⟩:∃X,(l.all λs=>decide ((z s:Int)<=60))=X:=⟨_,rfl⟩
 rw[a];simp only[go_sem];refine dv (λk K=>((l.drop k).all λs=>decide ((z s:Int)<=60))=X/\K.f 0=.one (aq (l.map λs=>[.str s]))/\K.f 3=ae k) (z l) ⟨a,?_⟩ ?_
 .exact gW
 rintro k f v w x ⟨Z,q0,i⟩;simp only at q0 i;have t:=ah (k:=k) a7;by_cases o:k<z l
 case neg=>
  have Q:¬(k:Int)<(z l:Int):=a7;rw[y9 a7]at Z;have a:X=T:=Z.symm;have e:decide ((z l:Int)<=200)=decide (z l<=200):=by congr 1;exact propext ⟨λh=>by omega,λh=>by omega⟩
  simp only[go_sem,q0,i,Q,j7,a,K8,e]
 have Q:(k:Int)<(z l:Int):=a7;obtain⟨s,p⟩:=getq o;obtain⟨U,u⟩:=dw Z p;have r:=getD_at (f:=λs:Str=>[D.str s]) p;by_cases hn:60<(z s:Int)
 .have a:X=F:=u (A5 a7)
  simp only[go_sem,q0,i,Q,j7,r,hn,a,D5]
 .simp only[go_sem,q0,i,Q,j7,r,hn,t]
  refine bN o ⟨U (C8 a7),?_⟩;exact W7
end
end Go.Proofs.YtlacbjnmkhndiaaGreatDoor

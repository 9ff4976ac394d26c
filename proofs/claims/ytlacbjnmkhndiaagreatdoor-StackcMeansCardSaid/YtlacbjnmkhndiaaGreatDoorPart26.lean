/- A part of the proof; no conditions. -/
import Derived.Test.YtlacbjnmkhndiaaGreatDoorPart25
import Derived.Shelf.SlicesE.Clone
set_option linter.unusedSimpArgs false
set_option linter.unusedVariables false
set_option linter.defProp false
open List renaming length -> z
open Option renaming some -> S, none -> N
open Bool renaming true -> T, false -> F
set_option maxHeartbeats 64000000
set_option maxRecDepth 100000
namespace Go.Mach
section
open Go.Asm (Str)
section
variable{s:Str}
def TV{a b c d:UInt8}(e:s[0]?=S a)(U:s[1]?=S b)(f:s[2]?=S c)(g:s[3]?=S d):s.take 4=[a,b,c,d]:=by
 match s with
 |h::X::i::j::r=>
   simp at e U f g;subst e U f g;rfl
 |[]=>simp at e
 |[_]=>simp at U
 |[_,_]=>simp at f
 |[_,_,_]=>simp at g
def fq(s:Str)(k:Nat):Nat:=w4 (s.getD k 0) (s.getD (k+1) 0) (s.getD (k+2) 0) (s.getD (k+3) 0)
def lh{k:Nat}(h:k<z s):s[k]?=S (s.getD k 0):=by rw[ES,v8 h];rfl
def rY(s:Str)(k:Nat):fq s k<4294967296:=by
 unfold fq w4;have a:=(s.getD k 0).toNat_lt;have b:=(s.getD (k+1) 0).toNat_lt;have Z:=(s.getD (k+2) 0).toNat_lt;have hd:=(s.getD (k+3) 0).toNat_lt;omega
def rZ{o k:Nat}(h:o+4*k+4<=z s):(fU (s.drop o))[k]?=S (fq s (o+4*k)):=by
 unfold fq;refine uY _ _ ?_ ?_ ?_ ?_<;>rw[H0]
 .exact lh a7
 .rw[show o+(4*k+1)=o+4*k+1 by omega];exact lh a7
 .rw[show o+(4*k+2)=o+4*k+2 by omega];exact lh a7
 .rw[show o+(4*k+3)=o+4*k+3 by omega];exact lh a7
def BN(h:12<=z s):fU ((s.take 12).drop 4)=[fq s 4,fq s 8]:=by
 have c:z ((s.take 12).drop 4)=8:=by rw[F7,D1];omega
 have g:=qa ((s.take 12).drop 4);rw[c]at g;have hl:z (s.take 12)=12:=by rw[D1];omega
 have f:∀j,j<12->(s.take 12).getD j 0=s.getD j 0:=λj i=>by
  rw[ES,ES,I1,l8 i]
 have d:=rZ (s:=s.take 12) (o:=4) (k:=0) a7;have e:=rZ (s:=s.take 12) (o:=4) (k:=1) a7;unfold fq at d e;rw[f _ b9,f _ b9,f _ b9,f _ b9]at d e
 match I:fU ((s.take 12).drop 4),g with
 |[a,b],_=>
   rw[I]at d e;simp at d e;rw[d,e];rfl
def Ae(h:12<=z s)(b:s.take 4=[83,69,69,68]):
  ki s=if 16384<fq s 4\/32768<fq s 8\/z s≠12+4*fq s 4 then N else S (fU (s.drop 12),fq s 8):=by
 unfold ki;rw[BN h];simp only;by_cases a:65548<z s
 .rw[l8 (.inr (.inr a)),l8 a7]
 .rw[j8 (by rw[R7,R7];exact⟨a7,λh=>h b,a⟩)]
  by_cases Z:32768<fq s 8\/z s≠12+4*fq s 4
  .rw[l8 Z,l8 (.inr Z)]
  .rw[j8 Z,j8 a7]
end
end
end Go.Mach
namespace Go.Proofs.YtlacbjnmkhndiaaGreatDoor
section
open Go Go.Am Go.Asm Go.Mach Go.Shelf
end
section
open Go Go.Am Go.Asm Go.Mach
def okI(op a b c:Nat):Bool:=eI (op:Nat) (a:Nat) (b:Nat) (c:Nat)
def Ey{op a b c:Nat}(h:okI op a b c=T):1<=op/\op<=27/\(4<=op/\op<=15->c<16):=by
 unfold okI eI at h;rw[s5]at h;obtain⟨U,d⟩:=h;unfold jt at U;rw[s5,B4,B4,B3]at U;refine⟨U.1,U.2,λe=>?_⟩
 have f:Asm.shape op=(T,T,2):=by
  unfold Asm.shape;rw[j8 a7,j8 a7,l8 e]
 rw[B3]at d;unfold pn inW at d;rw[f]at d;simp at d;omega
end
end Go.Proofs.YtlacbjnmkhndiaaGreatDoor
namespace Go.Mach
section
open Go.Asm (Str)
section
section
variable{okI:Nat->Nat->Nat->Nat->Bool}{code:List Nat}{inp:Str}
def LP(m m':M):Prop:=z m'.mem=z m.mem/\m'.steps<=m.steps+1/\m'.rd<=m.rd+1
def LQ{m m1:M}(h:z m1.mem=z m.mem/\m1.steps<=m.steps+1/\m1.rd=m.rd)(op a b c:Nat):LP m (doM code inp m1 op a b c):=by
 obtain⟨U,d,e⟩:=h;have g:LP m m1:=⟨U,d,a7⟩
 have I:∀{pc f:Nat}{r:List Nat}{o:Str},LP m {m1 with pc:=pc,fin:=f,reg:=r,out:=o}:=⟨U,d,by show m1.rd<=_;omega⟩
 unfold doM;refine cY (λ_=>I) λ_=>?_;refine cY (λ_=>I) λ_=>?_;refine cY (λ_=>I) λ_=>?_;refine cY (λ_=>?_) λ_=>?_
 .cases m1.mem[(m1.r b+c)%4294967296]?<;>exact I
 refine cY (λ_=>?_) λ_=>?_
 .cases code[(m1.r b+c)%4294967296]?<;>exact I
 refine cY (λ_=>cY (λ_=>⟨by show z (m1.mem.set _ _)=_;rw[C2];exact U,d,by show m1.rd<=_;omega⟩) λ_=>I) λ_=>?_;refine cY (λ_=>I) λ_=>?_;refine cY (λ_=>I) λ_=>?_;refine cY (λ_=>I) λ_=>?_;refine cY (λ_=>I) λ_=>?_;refine cY (λ_=>I) λ_=>?_;refine cY (λ_=>?_) λ_=>?_
 .cases inp[m1.rd]? with
  |none=>exact I
  |some x=>exact⟨U,d,by show m1.rd+1<=_;omega⟩
 refine cY (λ_=>cY (λ_=>I) λ_=>I) λ_=>?_;refine cY (λ_=>cY (λ_=>I) λ_=>I) λ_=>?_;refine cY (λ_=>I) λ_=>?_;cases applyN op (m1.r b) (m1.r c)<;>exact I
def EJ(m:M):LP m (mV okI code inp m):=by
 unfold mV;cases code[m.pc]? with
 |none=>exact⟨rfl,by show m.steps<=_;omega,by show m.rd<=_;omega⟩
 |some w=>exact cY (λ_=>LQ (m:=m) (m1:={m with steps:=m.steps+1}) ⟨rfl,l7 _,rfl⟩ _ _ _ _) λ_=>⟨rfl,by show m.steps+1<=_;omega,by show m.rd<=_;omega⟩
end
end
end
end Go.Mach
namespace Go.Proofs.YtlacbjnmkhndiaaGreatDoor
section
open Go Go.Am Go.Asm Go.Mach
def stD(m:M):List D:=.int .i64 (m.pc:Nat)::(m.reg.map λx=>.int .u32 (x:Nat))++[kM m.mem,.int .i64 (m.rd:Nat),.str m.out,.int .i64 (m.steps:Nat),.int .i64 (m.fin:Nat)]
def stV(m:M):AV:=.agg ((stD m).map .d)
def Lx{s:St}{A B:List D}{b:C}{x:D}(a:∀y∈A,ge y=y)(hB:∀y∈B,ge y=y)(e:Frz s b x):kR s (.agg (A.map .d++b::B.map .d)) (.agg ((A++x::B).map .d)):=by
 refine⟨A++x::B,a8,λi c Z=>?_,rfl⟩;by_cases U:i<z A
 .rw[F0 (by simpa using U),x8]at Z
  rw[F0 U];cases I:A[i]? with
  |none=>rw[I]at Z;cases Z
  |some y=>
    rw[I]at Z;cases Z;exact⟨y,rfl,by have:=Frz.d (s:=s) y;rwa [a y (l6 I)]at this⟩
 .obtain⟨k,rfl⟩:∃k,i=z A+k:=⟨i-z A,a7⟩
  rw[D4 a8,j6,O6]at Z;rw[D4 a7,O6];cases k with
  |zero=>simp at Z;subst Z;exact⟨x,rfl,e⟩
  |succ k=>
    rw[s9,x8]at Z;rw[s9];cases I:B[k]? with
    |none=>rw[I]at Z;cases Z
    |some y=>
      rw[I]at Z;cases Z;exact⟨y,rfl,by have:=Frz.d (s:=s) y;rwa [hB y (l6 I)]at this⟩
def oV{s:St}{m:M}{b:C}{l:List C}(c:Frz s b (kM m.mem))(hl:l=((.int .i64 (m.pc:Nat)::m.reg.map λx=>D.int .u32 (x:Nat)):List D).map .d++b::([.int .i64 (m.rd:Nat),.str m.out,.int .i64 (m.steps:Nat),.int .i64 (m.fin:Nat)]:List D).map .d):kR s (.agg l) (stV m):=by
 rw[hl];refine Lx (λy a=>?_) (λy a=>?_) c
 .rcases A3.1 a with rfl|a
  .rfl
  .obtain⟨x,_,rfl⟩:=E3.1 a;rfl
 .simp only[A3,List.mem_nil_iff,E6]at a
  rcases a with rfl|rfl|rfl|rfl<;>rfl
def stC(m:M)(b:C):List C:=((.int .i64 (m.pc:Nat)::m.reg.map λx=>D.int .u32 (x:Nat)):List D).map .d++b::([.int .i64 (m.rd:Nat),.str m.out,.int .i64 (m.steps:Nat),.int .i64 (m.fin:Nat)]:List D).map .d
def CY{m:M}(h:z m.reg=16)(b:C):z (stC m b)=22:=by simp[stC,h]
def wy:∀(L pre cells:List C),z cells=z L->setAt (pre++cells) (z pre) L=pre++L
 |[],pre,cells,h=>by
   obtain rfl:=y7 Wl;rfl
 |c::L,pre,x::cells,h=>by
   unfold setAt;have:=wy L (pre++[c]) cells Wl;rw[u7,u7,j7]at this;rw[show (pre++x::cells).set (z pre) c=pre++([c]++cells) by simp];exact this
def oX{L cells:List C}(h:z cells=z L):setAt cells 0 L=L:=wy L [] cells h
def Ly(r:Nat×Str×Nat):AV:=.agg [.d (.int .i64 (r.1:Nat)),.d (.str r.2.1),.d (.int .i64 (r.2.2:Nat))]
def Ib{s:St}{a c:Int}{b:Str}:kR s (.agg [.d (.int .i64 a),.d (.str b),.d (.int .i64 c)]) (.agg [.d (.int .i64 a),.d (.str b),.d (.int .i64 c)]):=by
 refine⟨[.int .i64 a,.str b,.int .i64 c],rfl,λi c l=>?_,rfl⟩
 match i,l with
 |0,l=>cases l;exact⟨_,rfl,.d _⟩
 |1,l=>cases l;exact⟨_,rfl,.d _⟩
 |2,l=>cases l;exact⟨_,rfl,.d _⟩
def Bx:Option (List Nat×Nat)->AV
 |some m=>.tup [eZ m,iv .i64 0]
 |none=>.tup [eZ ([],0),iv .i64 7]
def Ic{s:St}{u:C}{code:List Nat}{d n:Nat}(Z:Frz s u (eO code)):ql s [.agg [u,.d (.int .i64 (d:Nat))],iv .i64 (n:Nat)] (.tup [eZ (code,d),iv .i64 (n:Nat)]):=by
 refine⟨_,⟨eZ (code,d),_,rfl,⟨[eO code,.int .i64 (d:Nat)],rfl,λi c l=>?_,rfl⟩,_,_,rfl,⟨_,.d _,rfl⟩,rfl⟩,rfl⟩
 match i,l with
 |0,l=>cases l;exact⟨_,rfl,Z⟩
 |1,l=>cases l;exact⟨_,rfl,.d _⟩
end
end Go.Proofs.YtlacbjnmkhndiaaGreatDoor

/- A part of the proof; no conditions. -/
import Derived.Test.YtlacbjnmkhndiaaGreatDoorPart19
set_option linter.unusedSimpArgs false
set_option linter.unusedVariables false
set_option linter.defProp false
set_option linter.unusedSectionVars false
open List renaming length -> z
open Option renaming some -> S, none -> N
open Bool renaming true -> T, false -> F
set_option maxHeartbeats 64000000
set_option maxRecDepth 100000
namespace Go.Emit
section
open Go.Lower (Ins Code Sig codeOf takes Az jI Good OkI gu)
open Go.Src (CFn Fn Pl ab dy aZ sigs dP au vO gV gA aN)
open Go.Asm (Str)
def UQ:∀(l:List Str)(m:Pl)(w:Int),(gV l m w).2=w+z l
 |[],m,w=>by simp[gV]
 |n::l,m,w=>by rw[gV,UQ l];simp only[l4];omega
def UR:∀(l:List (Str×Int))(m:Pl)(w:Int),(gA l m w).2=w+(l.map (·.2)).sum
 |[],m,w=>by simp[gA]
 |n::l,m,w=>by rw[gA,UR l];simp only[s6,D8];omega
def Av(o:Pl):∀(l:List Src.Fn)(w:Int),(dy o l w).2=w+((l.map λf=>z f.p+z f.l).sum:Nat)
 |[],w=>by simp[dy]
 |f::l,w=>by simp only[dy,Av o l,s6,D8];omega
def Ii(p:Src.Prog):(ab p).words=z p.v+(p.a.map (·.2)).sum+((p.f.map λf=>z f.p+z f.l).sum:Nat):=by
 unfold ab au;simp only;rw[Av,UR,UQ];omega
def qM:∀(l:List Int)(d m:Int),(∀x∈l,x<=m)->d<=m->deepest l d<=m
 |[],d,m,_,hd=>hd
 |a::l,d,m,h,hd=>by
   rw[rK];have:=h a a8;exact qM l _ m (λx I=>h x YN) a7
def xI(n:Nat):∀(l:List (List Int))(k:Nat)(w:Int),(dN n k l w).2.2<=w+z l+(l.map λo=>deepest o 0).sum
 |[],k,w=>by simp[dN]
 |o::l,k,w=>by
   have a:=xI n l (k+1) ((if k+1=n then w else w+1)+deepest o 0);have b:(if k+1=n then w else w+1)<=w+1:=by split<;>omega
   simp only[dN,l4,s6,D8];omega
def vH{A:Type}(f:A->Int)(g:A->Nat):∀l:List A,(∀x∈l,f x<=g x)->(l.map f).sum<=((l.map g).sum:Nat)
 |[],_=>by simp
 |a::l,h=>by
   have:=vH f g l λx I=>h x YN;have:=h a a8;simp only[s6,D8];omega
def xJ(d:iA):Prop:=(∀v∈d.ent,0<=v/\v<=(z d.code:Int))/\∀l∈d.pls,∀v∈l,0<=v/\v<=(z d.code:Int)
def FZ(fs:List CFn)(P:Plan)(f:Nat)(A:Lower.Code)(ds:List Int)(n:Nat){a b:Nat}(h:a<=b):z (fB fs P f A ds a n).code<=z (fB fs P f A ds b n).code:=by
 induction h with
 |refl=>exact l8 _
 |step _ c=>rw[fB];simp only[ax,j8];omega
def Aw{A:Type}{l:List A}{k:Nat}{a x:A}(h:x∈l.set k a):x∈l\/x=a:=J6 h
def xJ.add{fs:List CFn}{P:Plan}{d:iA}{f:Nat}(h:xJ d):xJ (ei fs P d f):=by
 unfold ei;split
 .rename_i y ds _ _
  simp only;refine⟨λv a=>?_,λl hl v a=>?_⟩
  .simp only[j8]
   rcases Aw a with a|rfl
   .have:=h.1 v a;omega
   .omega
  .simp only[j8]
   rcases Aw hl with hl|rfl
   .have:=h.2 l hl v a;omega
   .unfold placesOf at a
    obtain⟨k,b,rfl⟩:=D6.1 a;have:=FZ fs P f (codeOf y.word y.body) ds (z d.code) (P9 (D4.1 b));omega
 .exact h
def ph(fs:List CFn)(P:Plan):∀k,xJ (qs fs P k)
 |0=>xJ.add ⟨λv a=>by rw[F6 a];simp,λl hl v a=>by rw[F6 hl]at a;cases a⟩
 |k+1=>(ph fs P k).add
def Ij{d:iA}(h:xJ d)(q:Int×Int):0<=fC d q/\fC d q<=(z d.code:Int):=by
 unfold fC;split
 .cases hl:d.pls[q.1.toNat]? with
  |none=>simp
  |some l=>
    simp only[A6];cases a:l[q.2.toNat]? with
    |none=>simp
    |some v=>exact h.2 l (l7 hl) v (l7 a)
 .cases a:d.ent[q.1.toNat]? with
  |none=>simp
  |some v=>exact h.1 v (l7 a)
def US{p:Src.Prog}(h:aZ p=0)(hn:vO p)(Q:z p.v+z p.f+((p.f.map λf=>z f.p+z f.l).sum+(p.f.map λf=>aN f.body).sum)<=150)(hA:(p.a.map (·.2)).sum<=4096):
  (ab p).words<=32768/\0<=(df (ab p).words (ab p).f).data/\(df (ab p).words (ab p).f).data<=32768/\z (filled (whole (ab p).f (df (ab p).words (ab p).f)))<=16384/\∀x∈filled (whole (ab p).f (df (ab p).words (ab p).f)),rM x:=by
 obtain⟨V,_,_⟩:=Src.uq h
 have hl:1<=z p.f/\∀f∈p.f,z f.p<=6:=by
  unfold dP at V;simp only[s5,B4,x9]at V;refine⟨V.1.1.1,λf hf=>?_⟩;exact Xu
 obtain⟨P,Z⟩:∃P,df (ab p).words (ab p).f=P:=⟨_,rfl⟩
 have hw:=Ii p;have b0:=yV p;have A:=CO h;have ad:0<=(ab p).words:=by have:(au p).2<=(ab p).words:=Src.yl _ _ _;omega
 have h2:=qN (λx:CFn=>z (cw x)) (λx=>Src.oh x.body) (λx=>Src.TN x.word x.body) (ab p).f;have h3:((ab p).f.map λx=>Src.oh x.body).sum=(p.f.map λf=>aN f.body).sum:=Src.BL _ _ _;have c7:P.depths=(ab p).f.map λx=>bG (cw x):=by rw[<-Z];rfl
 have hd:=xI (z (ab p).f) P.depths 0 (ab p).words;have b3:=sW (z (ab p).f) P.depths 0 (ab p).words λo _=>ik o 0;have b:P.data=(dN (z (ab p).f) 0 P.depths (ab p).words).2.2:=by rw[<-Z];rfl
 have i:P.base=(dN (z (ab p).f) 0 P.depths (ab p).words).2.1:=by rw[<-Z];rfl
 have m:P.back=(dN (z (ab p).f) 0 P.depths (ab p).words).1:=by rw[<-Z];rfl
 have ch:∀x∈(ab p).f,z (cw x)<=1000:=λx I=>by
  have U:=Src.TN x.word x.body;have h2:=Src.Oy (λx:CFn=>Src.oh x.body) I;unfold cw;omega
 have ar:(P.depths.map λo=>deepest o 0).sum<=(((ab p).f.map λx=>z (cw x)).sum:Nat):=by
  rw[c7,Qf];exact vH _ _ _ λx I=>qM _ _ _ (λd hd=>((xL h I).2 d hd).2) a7
 have cu:(z P.depths:Int)=z p.f:=by rw[c7,j7,b0]
 have W:P.data<=32768:=a7;have H:rL (ab p).f P 6:=by rw[<-Z];exact PE h hl.2
 have hW:=uN H (z (ab p).f-1) (l8 _);have G:=Gd (ab p).f 6 (k:=z (ab p).f-1) a7 (l8 _);have az:=yU (ab p).f 6 (z (ab p).f) (l8 _);rw[I1]at az;have b5:z (whole (ab p).f P).code<=16384:=D0 hW.c a7;have B:=Gh H
 have bd:z (filled (whole (ab p).f P))=z (whole (ab p).f P).code:=by
  have e:=qP (whole (ab p).f P) (whole (ab p).f P).holes (whole (ab p).f P).code λh hh=>(hW.h h hh).1;unfold filled;rw[e,lp]
 have E:∀q,0<=fC (whole (ab p).f P) q/\fC (whole (ab p).f P) q<=65535:=λq=>by
  have:=Ij (ph (ab p).f P (z (ab p).f-1)) q;have e:qs (ab p).f P (z (ab p).f-1)=whole (ab p).f P:=rfl;rw[e]at this;omega
 have bl:∀(l:List Int)(f:Nat),(∀x∈l,(ab p).words<=x/\x<=P.data)->0<=(l[f]?).getD 0/\(l[f]?).getD 0<=32768:=λl f I=>by
  cases hv:l[f]? with
  |none=>simp
  |some v=>have:=I v (l7 hv);simp only[A6];omega
 have K:∀x∈P.back,(ab p).words<=x/\x<=P.data:=by
  rw[m,b]
  have:∀(l:List (List Int))(k:Nat)(w:Int),∀x∈(dN (z (ab p).f) k l w).1,w<=x/\x<=(dN (z (ab p).f) k l w).2.2:=by
   intro l
   induction l with
   |nil=>intro k w x I;cases I
   |cons o l ih=>
     intro k w x I;have av:=sW (z (ab p).f) (o::l) k w λo _=>ik o 0;simp only[dN]at I av|-;rcases A0.1 I with rfl|I
     .exact⟨C7 _,av.1⟩
     .have:=ih _ _ x I
      have hb:w<=(if k+1=z (ab p).f then w else w+1):=by split<;>omega
      have:=ik o 0;omega
  exact this _ _ _
 have hA:∀f,Mv (ab p).f P f (ab p).words:=λf=>by
  refine⟨bl _ f (by rw[i,b];exact b3.2),bl _ f K,a7,λy hy=>?_⟩;obtain⟨g,w,_,h2,rfl,h4⟩:=Im hy;simp only[Src.mY];omega
 have s:(ab p).f.map (λx=>(x.p,x.word))=sigs p.f:=Io p
 have r:∀f n,n+z (vL (fC (whole (ab p).f P)) (ab p).f P f n)<=60000->∀x∈vL (fC (whole (ab p).f P)) (ab p).f P f n,rM x:=λf n J x I=>by
  unfold vL at I J;cases hf:(ab p).f[f]? with
  |none=>rw[hf]at I;cases I
  |some y=>
    cases O:P.depths[f]? with
    |none=>rw[hf,O]at I;cases I
    |some ds=>
      rw[hf,O]at I J;simp only at I J;have hy:=l7 hf;obtain⟨h0,cb⟩:=sX h hy
      have u:ds=bG (cw y):=by
       rw[c7,w9,hf]at O;exact(H0 O).symm
      obtain⟨hm,_⟩:=kV (λ_=>rfl) h0 cb;refine(AD E (hA f) (word:=y.word) (by rw[hf];rfl) (λk X d hk j eo=>?_) _).2 n (by rw[js]at J;exact J) x I;rw[u]at j;have L:=(xL h hy).2 d (l7 j);have:=ch y hy;refine⟨Src.Yo h hn hy X (l7 hk),a7,?_⟩;obtain⟨t,q,U,_,h3,_⟩:=gu cb hk;refine⟨t,q,by rw[s];exact U,?_⟩;rcases hm.inv.2.1 k d j with e|⟨e,_⟩
      .omega
      .simp only[hk]at e
       have e:X.2=d:=H0 e;omega
 have Y:∀k,z (toC (fC (whole (ab p).f P)) (ab p).f P k)<=16384->∀x∈toC (fC (whole (ab p).f P)) (ab p).f P k,rM x:=by
  intro k
  induction k with
  |zero=>
    intro hl x I;rw[toC]at hl I;simp only[j8,l4,l5]at hl;rcases C1.1 I with I|I
    .rw[E3.1 I];exact vP b9 b9 b9
    .exact r _ _ a7 x I
  |succ k ih=>
    intro hl x I;rw[toC]at hl I;rw[j8]at hl;rcases C1.1 I with I|I
    .exact ih a7 x I
    .exact r _ _ a7 x I
 rw[Z];refine⟨a7,a7,W,a7,λx I=>?_⟩;rw[B]at I bd;exact Y _ a7 x I
end
end Go.Emit
namespace Go.Mn
section
open Go.Asm (Str)
open Go.Mach (M applyN)
open Go.Emit (MI)
section
def ey(x:MI):Nat:=Asm.word x.1.toNat x.2.1.toNat x.2.2.1.toNat x.2.2.2.toNat
def Dec(okI:Nat->Nat->Nat->Nat->Bool)(x:MI):Prop:=
 ey x/16777216=x.1.toNat/\ey x/1048576%16=x.2.1.toNat/\ey x/65536%16=x.2.2.1.toNat/\ey x%65536=x.2.2.2.toNat/\okI x.1.toNat x.2.1.toNat x.2.2.1.toNat x.2.2.2.toNat=T
structure Cf where
 pc:Nat
 a:Nat
 b:Nat
 t:Nat
 l:Nat
 mem:Int->Nat
 rd:Nat
 out:Str
def up(mem:Int->Nat)(x:Int)(v:Nat):Int->Nat:=λy=>if y=x then v else mem y
structure Ms (D:Nat) (c:Cf) (m:M):Prop where
 fin:m.fin=0
 pc:m.pc=c.pc
 len:m.reg.length=16
 r0:m.r 0=0
 r15:m.r 15=1
 a:m.r 1=c.a
 b:m.r 2=c.b
 t:m.r 3=c.t
 l:m.r 14=c.l
 ml:m.mem.length=D
 mem:∀k:Nat,k<D->m.mem[k]?=some (c.mem k)
 rd:m.rd=c.rd
 out:m.out=c.out
section
variable(okI:Nat->Nat->Nat->Nat->Bool)(C:List MI)(inp:Str)(D:Nat)
def Rn(k:Nat)(c c':Cf):Prop:=∀m,Ms D c m->∃m',Ms D c' m'/\∀al,Mach.runM okI (C.map ey) inp (k+al) m=Mach.runM okI (C.map ey) inp al m'
def RE(k:Nat)(c:Cf)(e:Nat)(o:Str):Prop:=e≠0/\∀m,Ms D c m->∀al,k<=al->(Mach.runM okI (C.map ey) inp al m).fin=e/\(Mach.runM okI (C.map ey) inp al m).out=o
end
variable{c:Cf}{x:MI}{m:M}{i j e:Nat}
section
variable{okI:Nat->Nat->Nat->Nat->Bool}{C:List MI}{inp:Str}{D:Nat}
theorem Rn.refl:Rn okI C inp D 0 c c:=λm h=>⟨m,h,λal=>by rw[C5]⟩
theorem Rn.trans{i j:Nat}{c a b:Cf}(U:Rn okI C inp D i c a)(d:Rn okI C inp D j a b):Rn okI C inp D (i+j) c b:=λm h=>by
 obtain⟨f,g,k⟩:=U m h;obtain⟨l,n,o⟩:=d f g;exact⟨l,n,λal=>by rw[C2,k,o]⟩
theorem Rn.re{o:Str}{c a:Cf}(U:Rn okI C inp D i c a)(b:RE okI C inp D j a e o):RE okI C inp D (i+j) c e o:=⟨b.1,λm h al k=>by
 obtain⟨d,f,g⟩:=U m h;obtain⟨q,rfl⟩:∃q,al=i+q:=⟨al-i,a7⟩
 rw[g];exact b.2 d f q a7⟩
theorem RE.mono{o:Str}(h:RE okI C inp D i c e o)(ds:i<=j):RE okI C inp D j c e o:=⟨h.1,λm a al b=>h.2 m a al a7⟩
theorem Ei{k v j:Nat}(a:k<z m.reg):(m.set k v).r j=if j=k then v else m.r j:=by
 unfold M.r M.set;rw[E6,E6,C0];by_cases h:k=j
 .rw[l9 h,l9 h.symm,l9 a];rfl
 .rw[j9 h,j9 (B7 h)]
theorem step1(hd:∀x∈C,Dec okI x)(hf:m.fin=0)(I:C[m.pc]?=S x)(al:Nat):
  Mach.runM okI (C.map ey) inp (1+al) m=Mach.runM okI (C.map ey) inp al (Mach.doM (C.map ey) inp {m with steps:=m.steps+1} x.1.toNat x.2.1.toNat x.2.2.1.toNat x.2.2.2.toNat):=by
 obtain⟨a,b,d,f,g⟩:=hd x (l7 I);rw[U4,Mach.GZ hf];congr 1;unfold Mach.nY;rw[w9,I];simp only[A3];rw[a,b,d,f,l9 g]
variable(hd:∀x∈C,Dec okI x)
include hd
theorem kJ{k:Nat}(I:C[c.pc]?=S x){v a b t l:Nat}(n:(k=1/\a=v/\b=c.b/\t=c.t/\l=c.l)\/(k=2/\a=c.a/\b=v/\t=c.t/\l=c.l)\/(k=3/\a=c.a/\b=c.b/\t=v/\l=c.l)\/(k=14/\a=c.a/\b=c.b/\t=c.t/\l=v))
 {rd:Nat}(h:∀m,Ms D c m->∃f,Mach.doM (C.map ey) inp {m with steps:=m.steps+1} x.1.toNat x.2.1.toNat x.2.2.1.toNat x.2.2.2.toNat = {({m with steps:=m.steps+1}:M).set k v with rd:=rd}/\f=m):Rn okI C inp D 1 c ⟨c.pc+1,a,b,t,l,c.mem,rd,c.out⟩:=λm hm=>by
 obtain⟨_,g,_⟩:=h m hm;refine⟨_,?_,λal=>step1 hd hm.fin Y5 al⟩;rw[g];have d:∀j,({({m with steps:=m.steps+1}:M).set k v with rd:=rd}:M).r j=if j=k then v else m.r j:=λj=>Ei (m:={m with steps:=m.steps+1}) (by rw[hm.len];omega)
 refine⟨hm.fin,by show m.pc+1=c.pc+1;rw[hm.pc],by show z (m.reg.set k v)=16;rw[C4,hm.len],?_,?_,?_,?_,?_,?_,hm.ml,hm.mem,rfl,hm.out⟩
 .rw[d,j9 a7];exact hm.r0
 .rw[d,j9 a7];exact hm.r15
 .rw[d];have:=hm.a;split<;>simp only<;>omega
 .rw[d];have:=hm.b;split<;>simp only<;>omega
 .rw[d];have:=hm.t;split<;>simp only<;>omega
 .rw[d];have:=hm.l;split<;>simp only<;>omega
theorem Ao(I:C[c.pc]?=S x){pc:Nat}(h:∀m,Ms D c m->Mach.doM (C.map ey) inp {m with steps:=m.steps+1} x.1.toNat x.2.1.toNat x.2.2.1.toNat x.2.2.2.toNat = {m with steps:=m.steps+1,pc:=pc}):Rn okI C inp D 1 c ⟨pc,c.a,c.b,c.t,c.l,c.mem,c.rd,c.out⟩:=λm hm=>by
 refine⟨_,?_,λal=>step1 hd hm.fin Y5 al⟩;rw[h m hm];exact⟨hm.fin,rfl,hm.len,hm.r0,hm.r15,hm.a,hm.b,hm.t,hm.l,hm.ml,hm.mem,hm.rd,hm.out⟩
theorem yQ(I:C[c.pc]?=S x){e:Nat}(a:e≠0)(h:∀m,Ms D c m->Mach.doM (C.map ey) inp {m with steps:=m.steps+1} x.1.toNat x.2.1.toNat x.2.2.1.toNat x.2.2.2.toNat = {m with steps:=m.steps+1,fin:=e}):RE okI C inp D 1 c e c.out:=⟨a,λm hm al b=>by
 obtain⟨q,rfl⟩:∃q,al=1+q:=⟨al-1,a7⟩
 rw[step1 hd hm.fin Y5,h m hm,Mach.KD a];exact⟨rfl,hm.out⟩⟩
variable{c:Cf}{x y:Int}
theorem xf(I:C[c.pc]?=S (16,1,0,x))(h:0<=x/\x<D)(hD:D<=60000):Rn okI C inp D 1 c ⟨c.pc+1,c.mem x,c.b,c.t,c.l,c.mem,c.rd,c.out⟩:=
 kJ hd I (k:=1) (v:=c.mem x) (.inl ⟨rfl,rfl,rfl,rfl,rfl⟩) λm a=>⟨m,by
  show (match m.mem[(m.r 0+x.toNat)%4294967296]? with|some x=>({m with steps:=m.steps+1}:M).set 1 x|none=>_)=_;rw[a.r0,show (0+x.toNat)%4294967296=x.toNat by omega,a.mem x.toNat a7,show ((x.toNat:Nat):Int)=x by omega,<-a.rd];rfl,rfl⟩
theorem UC(I:C[c.pc]?=S (16,2,0,x))(h:0<=x/\x<D)(hD:D<=60000):Rn okI C inp D 1 c ⟨c.pc+1,c.a,c.mem x,c.t,c.l,c.mem,c.rd,c.out⟩:=
 kJ hd I (k:=2) (v:=c.mem x) (.inr (.inl ⟨rfl,rfl,rfl,rfl,rfl⟩)) λm b=>⟨m,by
  show (match m.mem[(m.r 0+x.toNat)%4294967296]? with|some x=>({m with steps:=m.steps+1}:M).set 2 x|none=>_)=_;rw[b.r0,show (0+x.toNat)%4294967296=x.toNat by omega,b.mem x.toNat a7,show ((x.toNat:Nat):Int)=x by omega,<-b.rd];rfl,rfl⟩
theorem UD(I:C[c.pc]?=S (16,14,0,x))(h:0<=x/\x<D)(hD:D<=60000):Rn okI C inp D 1 c ⟨c.pc+1,c.a,c.b,c.t,c.mem x,c.mem,c.rd,c.out⟩:=
 kJ hd I (k:=14) (v:=c.mem x) (.inr (.inr (.inr ⟨rfl,rfl,rfl,rfl,rfl⟩))) λm d=>⟨m,by
  show (match m.mem[(m.r 0+x.toNat)%4294967296]? with|some x=>({m with steps:=m.steps+1}:M).set 14 x|none=>_)=_;rw[d.r0,show (0+x.toNat)%4294967296=x.toNat by omega,d.mem x.toNat a7,show ((x.toNat:Nat):Int)=x by omega,<-d.rd];rfl,rfl⟩
theorem Yb(I:C[c.pc]?=S (16,1,1,x))(h:0<=x/\x+c.a<D)(hD:D<=60000):Rn okI C inp D 1 c ⟨c.pc+1,c.mem (x+c.a),c.b,c.t,c.l,c.mem,c.rd,c.out⟩:=
 kJ hd I (k:=1) (v:=c.mem (x+c.a)) (.inl ⟨rfl,rfl,rfl,rfl,rfl⟩) λm d=>⟨m,by
  show (match m.mem[(m.r 1+x.toNat)%4294967296]? with|some x=>({m with steps:=m.steps+1}:M).set 1 x|none=>_)=_;rw[d.a,show (c.a+x.toNat)%4294967296=c.a+x.toNat by omega,d.mem _ a7,show ((c.a+x.toNat:Nat):Int)=x+c.a by omega,<-d.rd];rfl,rfl⟩
theorem Ap{r q v:Nat}(I:C[c.pc]?=S (17,(r:Int),(q:Int),x))(h:0<=x){X:Int}(hD:D<=60000)(f:∀m,Ms D c m->m.r r=v/\X=m.r q+x/\X<D):Rn okI C inp D 1 c ⟨c.pc+1,c.a,c.b,c.t,c.l,up c.mem X v,c.rd,c.out⟩:=λm hm=>by
 refine⟨_,?_,λal=>step1 hd hm.fin Y5 al⟩;obtain⟨U,n,o⟩:=f m hm
 have e:Mach.doM (C.map ey) inp {m with steps:=m.steps+1} 17 r q x.toNat = {m with steps:=m.steps+1,mem:=m.mem.set X.toNat v,pc:=m.pc+1}:=by
  show (if (m.r q+x.toNat)%4294967296<z m.mem then {m with steps:=m.steps+1,mem:=m.mem.set ((m.r q+x.toNat)%4294967296) (m.r r),pc:=m.pc+1}else _)=_;rw[show (m.r q+x.toNat)%4294967296=X.toNat by omega,hm.ml,l9 a7,U]
 simp only[B6];rw[show ((17:Int)).toNat=17 from rfl,e];refine⟨hm.fin,by show m.pc+1=_;rw[hm.pc],hm.len,hm.r0,hm.r15,hm.a,hm.b,hm.t,hm.l,by show z (m.mem.set X.toNat v)=D;rw[C4,hm.ml],λk g=>?_,hm.rd,hm.out⟩;show (m.mem.set X.toNat v)[k]?=S (up c.mem X v k);rw[C0];unfold up;by_cases d:X.toNat=k
 .rw[l9 d,l9 (by rw[hm.ml];omega),l9 a7]
 .rw[j9 d,j9 a7];exact hm.mem k g
theorem vD(I:C[c.pc]?=S (17,1,0,x))(h:0<=x/\x<D)(hD:D<=60000):Rn okI C inp D 1 c ⟨c.pc+1,c.a,c.b,c.t,c.l,up c.mem x c.a,c.rd,c.out⟩:=
 Ap hd (r:=1) (q:=0) I h.1 hD λm d=>⟨d.a,by rw[d.r0];omega,h.2⟩
theorem Yc(I:C[c.pc]?=S (17,0,0,x))(h:0<=x/\x<D)(hD:D<=60000):Rn okI C inp D 1 c ⟨c.pc+1,c.a,c.b,c.t,c.l,up c.mem x 0,c.rd,c.out⟩:=
 Ap hd (r:=0) (q:=0) I h.1 hD λm d=>⟨d.r0,by rw[d.r0];omega,h.2⟩
theorem Yd(I:C[c.pc]?=S (17,14,0,x))(h:0<=x/\x<D)(hD:D<=60000):Rn okI C inp D 1 c ⟨c.pc+1,c.a,c.b,c.t,c.l,up c.mem x c.l,c.rd,c.out⟩:=
 Ap hd (r:=14) (q:=0) I h.1 hD λm d=>⟨d.l,by rw[d.r0];omega,h.2⟩
theorem Ye(I:C[c.pc]?=S (17,2,1,x))(h:0<=x/\x+c.a<D)(hD:D<=60000):Rn okI C inp D 1 c ⟨c.pc+1,c.a,c.b,c.t,c.l,up c.mem (x+c.a) c.b,c.rd,c.out⟩:=
 Ap hd (r:=2) (q:=1) I h.1 hD λm d=>⟨d.b,by rw[d.a];omega,h.2⟩
theorem Yf(I:C[c.pc]?=S (17,0,1,0))(h:c.a<D)(hD:D<=60000):Rn okI C inp D 1 c ⟨c.pc+1,c.a,c.b,c.t,c.l,up c.mem c.a 0,c.rd,c.out⟩:=
 Ap hd (r:=0) (q:=1) I b9 hD λm d=>⟨d.r0,by rw[d.a];omega,a7⟩
theorem QJ(I:C[c.pc]?=S (1,1,0,x)):Rn okI C inp D 1 c ⟨c.pc+1,x.toNat,c.b,c.t,c.l,c.mem,c.rd,c.out⟩:=
 kJ hd I (k:=1) (v:=x.toNat) (.inl ⟨rfl,rfl,rfl,rfl,rfl⟩) λm a=>⟨m,by rw[<-a.rd];rfl,rfl⟩
theorem Yg(I:C[c.pc]?=S (1,2,0,x)):Rn okI C inp D 1 c ⟨c.pc+1,c.a,x.toNat,c.t,c.l,c.mem,c.rd,c.out⟩:=
 kJ hd I (k:=2) (v:=x.toNat) (.inr (.inl ⟨rfl,rfl,rfl,rfl,rfl⟩)) λm b=>⟨m,by rw[<-b.rd];rfl,rfl⟩
theorem UE(I:C[c.pc]?=S (2,1,0,x)):Rn okI C inp D 1 c ⟨c.pc+1,c.a%65536+x.toNat*65536,c.b,c.t,c.l,c.mem,c.rd,c.out⟩:=
 kJ hd I (k:=1) (v:=c.a%65536+x.toNat*65536) (.inl ⟨rfl,rfl,rfl,rfl,rfl⟩) λm d=>⟨m,by rw[<-d.rd,<-d.a];rfl,rfl⟩
theorem HY{op:Nat}{r q s:Nat}(ho:4<=op/\op<=15):Mach.doM (C.map ey) inp m op r q s=match applyN op (m.r q) (m.r s)with|some x=>m.set r x|none=>{m with fin:=2}:=by
 unfold Mach.doM
 repeat rw[j9 (by omega)]
 cases applyN op (m.r q) (m.r s)<;>rfl
theorem Yh{v:Nat}(I:C[c.pc]?=S (x,1,1,2))(h:4<=x/\x<=15)(f:applyN x.toNat c.a c.b=S v):Rn okI C inp D 1 c ⟨c.pc+1,v,c.b,c.t,c.l,c.mem,c.rd,c.out⟩:=
 kJ hd I (k:=1) (v:=v) (.inl ⟨rfl,rfl,rfl,rfl,rfl⟩) λm d=>⟨m,by
  rw[HY hd XS];show (match applyN x.toNat (m.r 1) (m.r 2)with|some x=>_|none=>_)=_;rw[d.a,d.b,f,<-d.rd];rfl,rfl⟩
theorem Yi(I:C[c.pc]?=S (x,1,1,2))(h:4<=x/\x<=15)(f:applyN x.toNat c.a c.b=N):RE okI C inp D 1 c 2 c.out:=
 yQ hd I b9 λm d=>by
  rw[HY hd XS];show (match applyN x.toNat (m.r 1) (m.r 2)with|some x=>_|none=>_)=_;rw[d.a,d.b,f]
theorem UF(I:C[c.pc]?=S (15,1,1,0)):Rn okI C inp D 1 c ⟨c.pc+1,if c.a=0 then 1 else 0,c.b,c.t,c.l,c.mem,c.rd,c.out⟩:=
 kJ hd I (k:=1) (v:=if c.a=0 then 1 else 0) (.inl ⟨rfl,rfl,rfl,rfl,rfl⟩) λm d=>⟨m,by
  rw[<-d.rd];show ({m with steps:=m.steps+1}:M).set 1 (if m.r 1=m.r 0 then 1 else 0)=_;rw[d.r0,d.a];rfl,rfl⟩
theorem QK(I:C[c.pc]?=S (4,1,1,15))(h:c.a<4294967295):Rn okI C inp D 1 c ⟨c.pc+1,c.a+1,c.b,c.t,c.l,c.mem,c.rd,c.out⟩:=
 kJ hd I (k:=1) (v:=c.a+1) (.inl ⟨rfl,rfl,rfl,rfl,rfl⟩) λm d=>⟨m,by
  rw[<-d.rd];show ({m with steps:=m.steps+1}:M).set 1 ((m.r 1+m.r 15)%4294967296)=_;rw[d.r15,d.a,L2 a7];rfl,rfl⟩
theorem Yj(I:C[c.pc]?=S (14,3,1,2)):Rn okI C inp D 1 c ⟨c.pc+1,c.a,c.b,if c.a<c.b then 1 else 0,c.l,c.mem,c.rd,c.out⟩:=
 kJ hd I (k:=3) (v:=if c.a<c.b then 1 else 0) (.inr (.inr (.inl ⟨rfl,rfl,rfl,rfl,rfl⟩))) λm d=>⟨m,by
  rw[<-d.rd];show ({m with steps:=m.steps+1}:M).set 3 (if m.r 1<m.r 2 then 1 else 0)=_;rw[d.b,d.a];rfl,rfl⟩
theorem UG(I:C[c.pc]?=S (23,1,0,0)):Rn okI C inp D 1 c ⟨c.pc+1,Ai inp c.rd,c.b,c.t,c.l,c.mem,xG inp c.rd,c.out⟩:=
 kJ hd I (k:=1) (v:=Ai inp c.rd) (.inl ⟨rfl,rfl,rfl,rfl,rfl⟩) λm a=>⟨m,by
  show (match inp[m.rd]? with|some x=>{({m with steps:=m.steps+1}:M).set 1 x.toNat with rd:=m.rd+1}|none=>({m with steps:=m.steps+1}:M).set 1 256)=_;unfold Ai xG;rw[<-a.rd];cases inp[m.rd]?<;>rfl,rfl⟩
theorem Pv(I:C[c.pc]?=S (25,1,0,x))(h:(c.a:Int)<x):Rn okI C inp D 1 c ⟨c.pc+1,c.a,c.b,c.t,c.l,c.mem,c.rd,c.out⟩:=
 Ao hd I λm d=>by
  show (if x.toNat<=m.r 1 then _ else {m with steps:=m.steps+1,pc:=m.pc+1})=_;rw[d.a,j9 a7,d.pc]
theorem Pw(I:C[c.pc]?=S (25,1,0,x))(h:¬(c.a:Int)<x):RE okI C inp D 1 c 3 c.out:=
 yQ hd I b9 λm b=>by
  show (if x.toNat<=m.r 1 then {m with steps:=m.steps+1,fin:=3}else _)=_;rw[b.a,l9 a7]
theorem UH(I:C[c.pc]?=S (18,0,0,x)):Rn okI C inp D 1 c ⟨x.toNat,c.a,c.b,c.t,c.l,c.mem,c.rd,c.out⟩:=Ao hd I λm d=>rfl
theorem Yk(I:C[c.pc]?=S (19,1,0,x)):Rn okI C inp D 1 c ⟨if c.a=0 then x.toNat else c.pc+1,c.a,c.b,c.t,c.l,c.mem,c.rd,c.out⟩:=
 Ao hd I λm d=>by
  show {m with steps:=m.steps+1,pc:=if m.r 1=0 then x.toNat else m.pc+1}=_;rw[d.a,d.pc]
theorem UI(I:C[c.pc]?=S (20,3,0,x)):Rn okI C inp D 1 c ⟨if c.t=0 then c.pc+1 else x.toNat,c.a,c.b,c.t,c.l,c.mem,c.rd,c.out⟩:=
 Ao hd I λm d=>by
  show {m with steps:=m.steps+1,pc:=if m.r 3=0 then m.pc+1 else x.toNat}=_;rw[d.t,d.pc]
theorem Px(I:C[c.pc]?=S (22,14,0,0)):Rn okI C inp D 1 c ⟨c.l,c.a,c.b,c.t,c.l,c.mem,c.rd,c.out⟩:=
 Ao hd I λm d=>by
  show {m with steps:=m.steps+1,pc:=m.r 14}=_;rw[d.l]
theorem QL(I:C[c.pc]?=S (21,14,0,x))(h:c.pc<4294967295):Rn okI C inp D 1 c ⟨x.toNat,c.a,c.b,c.t,c.pc+1,c.mem,c.rd,c.out⟩:=λm hm=>by
 refine⟨_,?_,λal=>step1 hd hm.fin Y5 al⟩;have e:Mach.doM (C.map ey) inp {m with steps:=m.steps+1} 21 14 0 x.toNat = {({m with steps:=m.steps+1}:M).set 14 ((m.pc+1)%4294967296)with pc:=x.toNat}:=rfl;show Ms D _ (Mach.doM (C.map ey) inp {m with steps:=m.steps+1} 21 14 0 x.toNat);rw[e];have d:∀j,({({m with steps:=m.steps+1}:M).set 14 ((m.pc+1)%4294967296)with pc:=x.toNat}:M).r j=if j=14 then(m.pc+1)%4294967296 else m.r j:=λj=>Ei (m:={m with steps:=m.steps+1}) (by rw[hm.len];omega)
 refine⟨hm.fin,rfl,by show z (m.reg.set _ _)=16;rw[C4,hm.len],?_,?_,?_,?_,?_,?_,hm.ml,hm.mem,hm.rd,hm.out⟩
 .rw[d];exact hm.r0
 .rw[d];exact hm.r15
 .rw[d];exact hm.a
 .rw[d];exact hm.b
 .rw[d];exact hm.t
 .rw[d,l9 rfl,hm.pc,L2 a7]
theorem UJ(I:C[c.pc]?=S (24,1,0,0))(h:¬65536<=z c.out):Rn okI C inp D 1 c ⟨c.pc+1,c.a,c.b,c.t,c.l,c.mem,c.rd,c.out++[UInt8.ofNat c.a]⟩:=λm hm=>by
 refine⟨_,?_,λal=>step1 hd hm.fin Y5 al⟩
 have e:Mach.doM (C.map ey) inp {m with steps:=m.steps+1} 24 1 0 0 = {m with steps:=m.steps+1,out:=m.out++[UInt8.ofNat (m.r 1)],pc:=m.pc+1}:=by
  show (if 65536<=z m.out then _ else {m with steps:=m.steps+1,out:=m.out++[UInt8.ofNat (m.r 1)],pc:=m.pc+1})=_;rw[j9 (by rw[hm.out];exact h)]
 show Ms D _ (Mach.doM (C.map ey) inp {m with steps:=m.steps+1} 24 1 0 0);rw[e];exact⟨hm.fin,by show m.pc+1=_;rw[hm.pc],hm.len,hm.r0,hm.r15,hm.a,hm.b,hm.t,hm.l,hm.ml,hm.mem,hm.rd,by show m.out++[UInt8.ofNat (m.r 1)]=_;rw[hm.out,hm.a]⟩
theorem UK(I:C[c.pc]?=S (24,1,0,0))(h:65536<=z c.out):RE okI C inp D 1 c 4 c.out:=
 yQ hd I b9 λm a=>by
  show (if 65536<=z m.out then {m with steps:=m.steps+1,fin:=4}else _)=_;rw[l9 (by rw[a.out];exact h)]
theorem QM(I:C[c.pc]?=S (26,0,0,0)):RE okI C inp D 1 c 1 c.out:=yQ hd I b9 λm a=>rfl
end
end
end
section
open Go.Emit (MI Plan Wr ax eC kL jR fB close cM iD whole qs ei ll toC vL fC placesOf cw bG rL pj deepest dN js)
open Go.Src (CFn)
section
def At(C:List MI)(n:Nat)(l:List MI):Prop:=∀(j:Nat)(x:MI),l[j]?=S x->C[n+j]?=S x
variable{n:Nat}{C l:List MI}
theorem At.app{C l r:List MI}(h:At C n (l++r)):At C n l/\At C (n+z l) r:=by
 refine⟨λj x I=>h j x ?_,λj x I=>?_⟩
 .rw[E8 (l6.1 I).1];exact I
 .rw[C2]
  refine h _ x ?_;rw[D1 a7,show z l+j-z l=j by omega];exact I
theorem At.mk{C a l b:List MI}(h:C=a++(l++b))(c:z a=n):At C n l:=λj x I=>by
 rw[h,D1 a7,show n+j-z a=j by omega,E8 (l6.1 I).1];exact I
theorem At.hd{x:MI}(h:At C n (x::l)):C[n]?=S x:=h 0 x rfl
theorem At.tl{x:MI}(h:At C n (x::l)):At C (n+1) l:=λj y a=>by rw[C2,U4 1 j];exact h (j+1) y a
def plc(fs:List CFn)(P:Plan)(f:Nat)(x:CFn)(n k:Nat):Nat:=n+z (fB fs P f (cw x) (bG (cw x)) k n).code
section
variable{fs:List CFn}{P:Plan}{ar:Nat}(H:rL fs P ar)(hd:∀(f:Nat)(x:CFn),fs[f]?=S x->P.depths[f]?=S (bG (cw x)))
include H hd
theorem Py{env:Int×Int->Int}:∀k,k<=z fs-1->∀(f:Nat)(x:CFn),fs[f]?=S x->f<k\/f=z fs-1->∃c a b,toC env fs P k=a++(close env (fB fs P f (cw x) (bG (cw x)) (z (cw x))) c++b)/\z a=c/\(qs fs P k).ent[f]?=S (c:Int)/\(qs fs P k).pls[f]?=S (placesOf fs P f (cw x) (bG (cw x)) c)/\(f=z fs-1->c=1)
 |0,_,f,x,I,hf=>by
   obtain rfl:f=z fs-1:=hf.resolve_left a7;have i:=H.n;refine⟨1,[(1,15,0,1)],[],?_,rfl,?_,?_,λ_=>rfl⟩
   .rw[toC,vL,I,hd _ _ I,s9]
   .show (ei fs P _ _).ent[_]?=_
    rw[ll I (hd _ _ I)];simp only[l4,l5,C0,G4,l9 i,B5];rw[l9 a7]
   .show (ei fs P _ _).pls[_]?=_
    rw[ll I (hd _ _ I)];simp only[l4,l5,C0,G4,B5];rw[l9 a7]
 |k+1,q,f,x,I,hf=>by
   obtain⟨y,d⟩:∃y,fs[k]?=S y:=⟨_,v8 a7⟩
   have g:qs fs P (k+1)=_:=ll d (hd _ _ d);have X:=Emit.uN H k a7;have Z:z (toC env fs P k)=z (qs fs P k).code:=by rw[<-Emit.vM H k a7];exact Emit.lp _ _
   by_cases e:f=k
   .subst e
    rw[I]at d;cases d;refine⟨z (qs fs P f).code,toC env fs P f,[],?_,Z,?_,?_,λe=>absurd e a7⟩
    .rw[toC,vL,I,hd _ _ I,s9,Z]
    .rw[g]
     simp only[C0,B5];rw[l9 (by rw[X.el];omega)]
    .rw[g]
     simp only[C0,B5];rw[l9 (by rw[X.pl];omega)]
   .obtain⟨c,a,b,U,j,m,o,p⟩:=Py (env:=env) k a7 f x I a7
    refine⟨c,a,b++vL env fs P k (z (toC env fs P k)),?_,j,?_,?_,p⟩
    .rw[toC,U];simp only[v7]
    .rw[g]
     simp only[C0];rw[j9 (B7 e)];exact m
    .rw[g]
     simp only[C0];rw[j9 (B7 e)];exact o
structure QN (C:List MI) (env:Int×Int->Int) (fs:List CFn) (P:Plan) (f:Nat) (x:CFn) (en:Nat) (pl:Nat->Nat):Prop where
 head:At C en (close env (jR fs P f) en)/\pl 0=en+(close env (jR fs P f) en).length
 ins:∀(k:Nat)(y:Lower.Ins×Int)(d:Int),(cw x)[k]?=some y->(bG (cw x))[k]?=some d->0<=d->At C (pl k) (close env (kL fs P f d y.1) (pl k))/\pl (k+1)=pl k+(close env (kL fs P f d y.1) (pl k)).length
 mono:∀k,pl k<=pl (k+1)
 ev:∀k,k<(cw x).length->env ((f:Int),(k:Int))=pl k
 ent:env ((f:Int),-1)=en
 le:pl (cw x).length<=C.length
theorem UL{f:Nat}{x:CFn}(I:fs[f]?=S x):∃en pl,QN (Emit.filled (whole fs P)) (fC (whole fs P)) fs P f x en pl/\(f=z fs-1->en=1):=by
 have J:=H.n;have K:=(l6.1 I).1;obtain⟨c,a,b,U,q,v,w,A⟩:=Py H hd (env:=fC (whole fs P)) (z fs-1) (l8 _) f x I a7;have m:∀k,iD (fB fs P f (cw x) (bG (cw x)) k):=λk=>(H.fits I _ k).inner;have h:iD (jR fs P f):=m 0;rw[<-Emit.Gh H]at U;have t:=l7 I
 have hW:∀(k:Nat)(y:Lower.Ins×Int)(d:Int),(cw x)[k]?=S y->iD (kL fs P f d y.1):=λk y d i=>by
  have L:=l7 i;exact(Emit.Il (ar:=ar) (Q:=λ_=>True) (λo X B=>⟨H.p X (l7 B),trivial⟩) λ_=>trivial).inner
 have g:∀j k,k<=j->∃r,close (fC (whole fs P)) (fB fs P f (cw x) (bG (cw x)) j) c=close (fC (whole fs P)) (fB fs P f (cw x) (bG (cw x)) k) c++r:=by
  intro j
  induction j with
  |zero=>
        intro k i;obtain rfl:k=0:=a7;exact⟨[],by rw[s9]⟩
  |succ j E=>
    intro k i;by_cases e:k=j+1
    .subst e;exact⟨[],by rw[s9]⟩
    .obtain⟨r,V⟩:=E k a7
     rw[fB];cases Z:(cw x)[j]? with
     |none=>simp only;rw[cM (m j) Emit.lr,V,v7];exact⟨_,rfl⟩
     |some y=>
       cases s:(bG (cw x))[j]? with
       |none=>simp only;rw[cM (m j) Emit.lr,V,v7];exact⟨_,rfl⟩
       |some d=>
         simp only;split
         .rw[cM (m j) (hW j y d Z),V,v7];exact⟨_,rfl⟩
         .rw[cM (m j) Emit.lr,V,v7];exact⟨_,rfl⟩
 refine⟨c,plc fs P f x c,⟨⟨?_,?_⟩,λk y d i s G=>?_,λk=>?_,λk i=>?_,?_,?_⟩,A⟩
 .obtain⟨r,V⟩:=g (z (cw x)) 0 a7
  rw[V]at U;exact(At.mk (U.trans (by rw[v7])) q:At _ c (close _ (fB fs P f (cw x) (bG (cw x)) 0) c))
 .rw[js];rfl
 .have O:=(l6.1 i).1
  have u:close (fC (whole fs P)) (fB fs P f (cw x) (bG (cw x)) (k+1)) c=close (fC (whole fs P)) (fB fs P f (cw x) (bG (cw x)) k) c++close (fC (whole fs P)) (kL fs P f d y.1) (plc fs P f x c k):=by
   rw[fB,i,s];simp only;rw[l9 G,cM (m k) (hW k y d i)];rfl
  refine⟨?_,?_⟩
  .obtain⟨r,V⟩:=g (z (cw x)) (k+1) a7
   rw[V,u]at U;refine At.mk (a:=a++close (fC (whole fs P)) (fB fs P f (cw x) (bG (cw x)) k) c) (b:=r++b) (U.trans (by simp only[v7])) ?_;rw[j8,js,q];rfl
  .have:=congrArg z u
   rw[j8,js,js]at this;unfold plc at this|-;omega
 .unfold plc
  rw[fB];simp only[ax,j8];omega
 .unfold fC
  simp only[Int.natCast_nonneg,B5,B6];rw[show (whole fs P).pls[f]?=_ from w];simp only[A6,placesOf,w9,R7 i,A3];rfl
 .unfold fC
  simp only[show ¬(0:Int)<=-1 by decide,B1,B6];rw[show (whole fs P).ent[f]?=_ from v];rfl
 .have:=congrArg z U
  simp only[j8,js]at this;unfold plc;omega
end
theorem Ej(n:Nat):∀(l:List (List Int))(k:Nat)(w:Int),∃bk:Nat->Int,bk 0=w/\bk (z l)=(dN n k l w).2.2/\∀(f:Nat)(o:List Int),l[f]?=S o->(dN n k l w).1[f]?=S (bk f)/\(dN n k l w).2.1[f]?=S (if k+f+1=n then bk f else bk f+1)/\bk (f+1)=(if k+f+1=n then bk f else bk f+1)+deepest o 0
 |[],k,w=>⟨λ_=>w,rfl,rfl,λf o h=>by simp at h⟩
 |o::l,k,w=>by
   obtain⟨bk,U,b,c⟩:=Ej n l (k+1) ((if k+1=n then w else w+1)+deepest o 0);refine⟨λf=>match f with|0=>w|f+1=>bk f,rfl,b,λf g a=>?_⟩;cases f with
   |zero=>
     simp at a;subst a;exact⟨rfl,rfl,U⟩
   |succ f=>
     obtain⟨d,e,i⟩:=c f g (by simpa using a);rw[show k+(f+1)+1=k+1+f+1 by omega];exact⟨d,e,i⟩
theorem Aq(o:Src.Pl):∀(l:List Src.Fn)(w:Int),∃ft:Nat->Int,ft 0=w/\ft (z l)=(Src.dy o l w).2/\∀(f:Nat)(fn:Src.Fn),l[f]?=S fn->(Src.dy o l w).1[f]?=S (Src.mY o fn (ft f))/\ft (f+1)=ft f+(z fn.p+z fn.l)
 |[],w=>⟨λ_=>w,rfl,rfl,λf fn h=>by simp at h⟩
 |g::l,w=>by
   obtain⟨ft,U,b,c⟩:=Aq o l (w+(z g.p+z g.l));refine⟨λf=>match f with|0=>w|f+1=>ft f,rfl,b,λf fn a=>?_⟩;cases f with
   |zero=>
     simp at a;subst a;exact⟨rfl,U⟩
   |succ f=>exact c f fn (by simpa using a)
end
end
section
open Go.Emit (MI Plan Wr ax eC kL jR fB close cM iD fC cw bG kV deepest js jh gy dO jg lq lr)
open Go.Src (CFn Prog Fn ab mY au lP ct kH dK bm coreS bP aZ ff lf sigs aR aI aM)
open Go.Lower (Ins Code cE cEs cS cSs cAO kh takes next OkI Good)
section
def iP(fn:Src.Fn)(w:Int):Src.Pl:=lP (w+z fn.p) 0 fn.l (lP w 0 fn.p [])
def xP(p:Prog)(fn:Src.Fn)(w:Int):CFn:=mY (au p).1 fn w
structure Lay (okI:Nat->Nat->Nat->Nat->Bool) (p:Prog) (C:List MI) (env:Int×Int->Int) (D:Nat) where
 ft:Nat->Int
 bk:Nat->Int
 bs:Nat->Int
 en:Nat->Nat
 pl:Nat->Nat->Nat
 P:Plan
 snd:aZ p=0
 dec:∀x∈C,Dec okI x
 hD:D<=32768
 hC:C.length<=16384
 ft0:ft 0=(au p).2
 ftn:ft p.f.length=bk 0
 bkn:bk p.f.length=D
 fs:∀(f:Nat)(fn:Src.Fn),p.f[f]?=some fn->(ab p).f[f]?=some (xP p fn (ft f))
 at_:∀(f:Nat)(fn:Src.Fn),p.f[f]?=some fn->QN C env (ab p).f P f (xP p fn (ft f)) (en f) (pl f)
 fts:∀(f:Nat)(fn:Src.Fn),p.f[f]?=some fn->ft (f+1)=ft f+(fn.p.length+fn.l.length)
 base:∀(f:Nat)(fn:Src.Fn),p.f[f]?=some fn->(P.base[f]?).getD 0=bs f/\(P.back[f]?).getD 0=bk f/\bs f=(if f+1=p.f.length then bk f else bk f+1)/\bk (f+1)=bs f+deepest (bG (cw (xP p fn (ft f)))) 0
def ik:∀(l:List Int)(d:Int),d<=deepest l d/\∀x∈l,x<=deepest l d
 |[],d=>⟨C7 _,λ_ h=>by cases h⟩
 |a::l,d=>by
   obtain⟨U,b⟩:=ik l (max d a);rw[Emit.rK]
   exact⟨a7,λx I=>by
    rcases A0.1 I with rfl|I
    .omega
    .exact b x I⟩
variable{fn:Src.Fn}{f:Nat}{m:Int->Nat}{x:Ins×Int}
section
variable{okI:Nat->Nat->Nat->Nat->Bool}{p:Prog}{C:List MI}{env:Int×Int->Int}{D:Nat}(Y:Lay okI p C env D)
namespace Lay
def ftm{i j:Nat}(h:i<=j)(b:j<=z p.f):Y.ft i<=Y.ft j:=by
 induction h with
 |refl=>exact C7 _
 |@step j h a=>
   have:=a a7;have:=Y.fts j _ (v8 a7);simp only[Nat.succ_eq_add_one];omega
def bks(hf:f<z p.f):Y.bk f<=Y.bs f/\Y.bs f<=Y.bk (f+1):=by
 obtain⟨_,_,a,b⟩:=Y.base f _ (v8 hf);have c:=(ik (bG (cw (xP p (p.f[f]) (Y.ft f)))) 0).1;split at a<;>omega
def bkm{i j:Nat}(h:i<=j)(b:j<=z p.f):Y.bk i<=Y.bk j:=by
 induction h with
 |refl=>exact C7 _
 |@step j h a=>have:=a a7;have:=Y.bks (f:=j) a7;simp only[Nat.succ_eq_add_one];omega
def globs:0<=Y.ft 0:=by
 have V:=(Src.uq Y.snd).1;rw[Y.ft0];unfold au;simp only;rw[Src.KF,Src.KE];unfold Src.dP at V;simp only[s5,x9]at V
 have:∀m:List (Asm.Str×Int),(∀x∈m,Src.iY x=T)->0<=(m.map (·.2)).sum:=by
  intro m b
  induction m with
  |nil=>simp
  |cons y m d=>
    have U:=d (λX hz=>b X ZJ);have c:=b y a8;unfold Src.iY at c;simp only[s5,B4]at c;simp only[s6,D8];omega
 have:=this p.a V.2.1;simp only;omega
end Lay
def Lay.cd(f:Nat)(fn:Src.Fn):Lower.Code:=cw (xP p fn (Y.ft f))
def Rch(f:Nat)(fn:Src.Fn)(k:Nat)(d:Int):Prop:=0<=d/\(bG (Y.cd f fn))[k]?=S d
def mid(hf:p.f[f]?=S fn):Emit.vI (λk=>((Y.cd f fn)[k]?).map Prod.snd) (Y.cd f fn) (bG (Y.cd f fn)) []/\(bG (Y.cd f fn))[0]?=S 0/\Lower.Good (sigs p.f) fn.word (λk=>((Y.cd f fn)[k]?).map Prod.snd) 0 (Y.cd f fn):=by
 obtain⟨b,a⟩:=Emit.sX Y.snd (l7 (Y.fs f fn hf));obtain⟨U,c⟩:=kV (λ_=>rfl) b a;exact⟨U,c,a⟩
variable{Y}
def Rch.dp{f k:Nat}{d:Int}(hf:p.f[f]?=S fn)(h:Rch Y f fn k d):Y.bs f+d<=Y.bk (f+1)/\Y.bk (f+1)<=D/\0<=Y.bk f/\Y.bk f<=Y.bs f/\0<=Y.ft f/\Y.ft (f+1)<=Y.bk 0/\Y.bk 0<=Y.bk f/\Y.ft f<=Y.ft (f+1):=by
 have a:=(l6.1 hf).1;obtain⟨_,_,c,g⟩:=Y.base f fn hf;have l:=(ik (bG (cw (xP p fn (Y.ft f)))) 0).2 d (l7 h.2);have n:=Y.bkm (i:=f+1) (j:=z p.f) a7 (l8 _);have q:=Y.bkm (i:=0) (j:=f) a7 a7;have r:=Y.ftm (i:=0) (j:=f) a7 a7;have s:=Y.ftm (i:=f+1) (j:=z p.f) a7 (l8 _);have o:=Y.globs;have H:=Y.bkn;have e:=Y.ftn;have K:=Y.ftm (i:=f) (j:=f+1) a7 a7;have b:=Y.bks a;omega
def Rch.ins{f k:Nat}{fn:Src.Fn}{d a:Int}{y:Ins}(hf:p.f[f]?=S fn)(h:Rch Y f fn k d)(b:(Y.cd f fn)[k]?=S (y,a)):a=d/\At C (Y.pl f k) (close env (kL (ab p).f Y.P f d y) (Y.pl f k))/\Y.pl f (k+1)=Y.pl f k+z (close env (kL (ab p).f Y.P f d y) (Y.pl f k)):=by
 have c:=(mid Y hf).1;rcases c.inv.2.1 k d h.2 with e|⟨e,_⟩
 .have:=h.1;omega
 .simp only[b,A3,w7]at e
  obtain⟨g,i⟩:=(Y.at_ f fn hf).ins k (y,a) d b h.2 h.1;exact⟨e,g,i⟩
def Rch.nx{f k j:Nat}{d g t q:Int}{y:Ins}(hf:p.f[f]?=S fn)(h:Rch Y f fn k d)(i:(Y.cd f fn)[k]?=S (y,g))(s:takes (sigs p.f) fn.word y=S (t,q))(n:(j:Int)∈next y k):Rch Y f fn j (d-t+q)/\t<=d:=by
 obtain⟨o,_,v⟩:=mid Y hf;obtain⟨rfl,_,_⟩:=h.ins hf i;obtain⟨A,b,e,J,c,_,r⟩:=Lower.gu v i;rw[s]at e;cases e;rw[C5]at r;obtain⟨l,B,w⟩:=r j n;obtain rfl:l=j:=a7;rcases o.clo k g h.2 h.1 with Z|Z
 .cases Z
 .obtain⟨u,L,a⟩:=Z y g i l n
  rw[B6]at L;rcases o.inv.2.1 l u L with e|⟨e,_⟩
  .omega
  .rw[w]at e
   cases e;exact⟨⟨a,L⟩,c⟩
def Sub(Y:Lay okI p C env D)(f:Nat)(fn:Src.Fn)(n:Nat)(c:Lower.Code):Prop:=∀(j:Nat)(x:Ins×Int),c[j]?=S x->(Y.cd f fn)[n+j]?=S x
def Sub.app{f n:Nat}{a b:Lower.Code}(h:Sub Y f fn n (a++b)):Sub Y f fn n a/\Sub Y f fn (n+z a) b:=by
 refine⟨λj x I=>h j x ?_,λj x I=>?_⟩
 .rw[E8 (l6.1 I).1];exact I
 .rw[C2]
  refine h _ x ?_;rw[D1 a7,show z a+j-z a=j by omega];exact I
def Sub.hd{f n:Nat}{b:Lower.Code}(h:Sub Y f fn n (x::b)):(Y.cd f fn)[n]?=S x:=h 0 x rfl
def Sub.tl{f n:Nat}{b:Lower.Code}(h:Sub Y f fn n (x::b)):Sub Y f fn (n+1) b:=λj y a=>by rw[C2,U4 1 j];exact h (j+1) y a
structure Rl (p:Prog) (G:Sg) (mem:Int->Nat):Prop where
 v:∀(i:Nat)(x:Nat),G.v[i]?=some x->mem i=x
 a:∀(i:Nat)(l:List Nat),G.arrs[i]?=some l->∀(j:Nat)(x:Nat),l[j]?=some x->mem (ff p i+j)=x
 vl:G.v.length=p.v.length
 al:∀(i:Nat)(l:List Nat),G.arrs[i]?=some l->∃a,p.a[i]?=some a/\(l.length:Int)=a.2
def Fr(Y:Lay okI p C env D)(f:Nat)(L:List Nat)(mem:Int->Nat):Prop:=∀(i:Nat)(x:Nat),L[i]?=S x->mem (Y.ft f+i)=x
def Kp(Y:Lay okI p C env D)(f:Nat)(d:Int)(mem b:Int->Nat):Prop:=∀a:Int,(Y.ft f<=a/\a<Y.bk 0)\/(Y.bk f<=a/\a<Y.bs f+d)\/Y.bk (f+1)<=a->b a=mem a
def Ks(Y:Lay okI p C env D)(f:Nat)(mem b:Int->Nat):Prop:=∀a:Int,(Y.ft (f+1)<=a/\a<Y.bk 0)\/(Y.bk f<=a/\a<Y.bs f)\/Y.bk (f+1)<=a->b a=mem a
structure Ste (Y:Lay okI p C env D) (f:Nat) (fn:Src.Fn) (k:Nat) (d:Int) (L:List Nat) (G:Sg) (c:Cf):Prop where
 pc:c.pc=Y.pl f k
 rch:Rch Y f fn k d
 gl:Rl p G c.mem
 fr:Fr Y f L c.mem
 wl:L.length=fn.p.length+fn.l.length
 rd:c.rd=G.rd
 out:c.out=G.out
def Kp.refl{d:Int}:Kp Y f d m m:=λ_ _=>rfl
def Kp.trans{f:Nat}{d b:Int}{m m1 c:Int->Nat}(U:Kp Y f d m m1)(e:Kp Y f b m1 c)(hd:d<=b):Kp Y f d m c:=λa g=>(e a a7).trans (U a g)
def gg{x y:Int}{v:Nat}(h:y≠x):up m x v y=m y:=j9 h
def qv{x:Int}{v:Nat}:up m x v x=v:=l9 rfl
def rJ(hf:p.f[f]?=S fn){G:Sg}{mem:Int->Nat}(h:Rl p G mem):(∀(i x:Nat),G.v[i]?=S x->(i:Int)<Y.ft 0)/\(∀(i:Nat)(l:List Nat),G.arrs[i]?=S l->(z p.v:Int)<=ff p i/\ff p i+z l<=Y.ft 0/\lf p i=z l):=by
 have V:=(Src.uq Y.snd).1
 have d:∀a∈p.a,1<=a.2:=by
  unfold Src.dP at V;simp only[s5,x9]at V;intro a b;have:=V.2.1 a b;exact u6
 have k:Y.ft 0=z p.v+(p.a.map (·.2)).sum:=by
  rw[Y.ft0];unfold au;simp only;rw[Src.KF,Src.KE];simp
 have n:0<=(p.a.map (·.2)).sum:=by
  have:=Y.globs
  have:∀m:List (Asm.Str×Int),(∀x∈m,1<=x.2)->0<=(m.map (·.2)).sum:=by
   intro m g
   induction m with
   |nil=>simp
   |cons y m j=>have U:=j (λX hz=>g X ZJ);have o:=g y a8;simp only[s6,D8];omega
  exact this _ d
 refine⟨λi x c=>?_,λi l c=>?_⟩
 .have:=(l6.1 c).1
  have:=h.vl;omega
 .obtain⟨a,b,hl⟩:=h.al i l c
  have:=Src.um p.a i a d b;have e:lf p i=a.2:=by unfold lf;rw[b];rfl
  unfold ff;omega
def Rl.keep(hf:p.f[f]?=S fn){G:Sg}{m m':Int->Nat}(h:Rl p G m)(b:∀a,0<=a->a<Y.ft 0->m' a=m a):Rl p G m':=by
 obtain⟨U,e⟩:=rJ (Y:=Y) hf h;refine⟨λi x c=>(b _ a7 (U i x c)).trans (h.v i x c),λi l hl j x d=>?_,h.vl,h.al⟩;have:=e i l hl;have:=(l6.1 d).1;exact(b _ a7 a7).trans (h.a i l hl j x d)
def Fr.keep(hf:p.f[f]?=S fn){L:List Nat}{m m':Int->Nat}(d:z L=z fn.p+z fn.l)(h:Fr Y f L m)(c:∀a,Y.ft f<=a->a<Y.ft (f+1)->m' a=m a):Fr Y f L m':=λi x b=>by
 have:=Y.fts f fn hf;have:=(l6.1 b).1;exact(c _ a7 a7).trans (h i x b)
end
end
end
section
open Go.Emit (MI Plan ax eC kL aD aE dJ du ko hi16 close cM jh gy dO jg lq lr)
open Go.Src (Prog Fn ab sigs)
open Go.Lower (Ins Code takes next)
section
section
variable{okI:Nat->Nat->Nat->Nat->Bool}{p:Prog}{C:List MI}{env:Int×Int->Int}{D:Nat}{Y:Lay okI p C env D}{inp:Asm.Str}{W:Nat}
variable{f:Nat}{fn:Src.Fn}{k g k1:Nat}{d u A:Int}{L:List Nat}{G ad H:Sg}{c w c':Cf}
theorem Ste.mv(hf:p.f[f]?=S fn)(h:Ste Y f fn k d L G c)(V:Rch Y f fn g u)(n:c'.pc=Y.pl f g)(l:∀a,a<Y.bk 0->c'.mem a=c.mem a)(o:c'.rd=ad.rd)(ho:c'.out=ad.out)(m:ad.v=G.v)(b:ad.arrs=G.arrs):Ste Y f fn g u L ad c':=by
 have hd:=h.rch.dp hf;have r:=Y.ftm (i:=0) (j:=f) a7 Y3;have e:=h.gl.keep (Y:=Y) (m':=c'.mem) hf λa b q=>l a a7;exact⟨n,V,⟨by rw[m];exact e.v,by rw[b];exact e.a,by rw[m];exact e.vl,by rw[b];exact e.al⟩,h.fr.keep hf h.wl (λa b q=>l a a7),h.wl,o,ho⟩
variable(Y inp W f fn k g d L G c)
def XO(v:Nat)(ad:Sg):Prop:=∃j c',Rn okI C inp D j c c'/\j+Y.pl f k+G.tk*W<=Y.pl f g+ad.tk*W/\Ste Y f fn g (d+1) L ad c'/\c'.mem (Y.bs f+d)=v/\Kp Y f d c.mem c'.mem
def EO(e:Nat)(ad:Sg):Prop:=e=5\/∃j,RE okI C inp D j c e ad.out/\j+Y.pl f k+G.tk*W<=Y.pl f g+ad.tk*W
def XR(r:Rs Nat):Prop:=match r with|.ok v ad=>XO Y inp W f fn k g d L G c v ad|.en e ad=>EO Y inp W f k g G c e ad|.no=>True
def LO(vs:List Nat)(ad:Sg):Prop:=∃j c',Rn okI C inp D j c c'/\j+Y.pl f k+G.tk*W<=Y.pl f g+ad.tk*W/\Ste Y f fn g (d+z vs) L ad c'/\(∀(i:Nat)(v:Nat),vs[i]?=S v->c'.mem (Y.bs f+d+i)=v)/\Kp Y f d c.mem c'.mem
def LR(n:Nat)(r:Rs (List Nat)):Prop:=match r with|.ok vs ad=>LO Y inp W f fn k g d L G c vs ad/\z vs=n|.en e ad=>EO Y inp W f k g G c e ad|.no=>True
variable{Y inp W f fn k g d L G c}
theorem jG(hf:p.f[f]?=S fn)(h:k<=g):Y.pl f k<=Y.pl f g:=by
 induction h with
 |refl=>exact l8 _
 |step _ a=>exact D0 a ((Y.at_ f fn hf).mono _)
theorem XO.after{j:Nat}{v:Nat}(U:Rn okI C inp D j c w)(l:j+Y.pl f k+G.tk*W<=Y.pl f k1+H.tk*W)(a:Kp Y f d c.mem w.mem)(h:XO Y inp W f fn k1 g d L H w v ad):XO Y inp W f fn k g d L G c v ad:=by
 obtain⟨i,c',r,e,s,m,b⟩:=h;exact⟨j+i,c',U.trans r,a7,s,m,a.trans b (C7 _)⟩
theorem EO.after{j e:Nat}(U:Rn okI C inp D j c w)(a:j+Y.pl f k+G.tk*W<=Y.pl f k1+H.tk*W)(h:EO Y inp W f k1 g H w e ad):EO Y inp W f k g G c e ad:=by
 rcases h with h|⟨i,r,h⟩
 .exact .inl h
 .exact .inr ⟨j+i,U.re r,a7⟩
theorem EO.mono{e:Nat}(hf:p.f[f]?=S fn)(h:EO Y inp W f k k1 G c e ad)(a:k1<=g):EO Y inp W f k g G c e ad:=by
 rcases h with h|⟨i,r,h⟩
 .exact .inl h
 .exact .inr ⟨i,r,by have:=jG (Y:=Y) hf a;omega⟩
theorem XR.after{j:Nat}{r:Rs Nat}(U:Rn okI C inp D j c w)(a:j+Y.pl f k+G.tk*W<=Y.pl f k1+H.tk*W)(b:Kp Y f d c.mem w.mem)(h:XR Y inp W f fn k1 g d L H w r):XR Y inp W f fn k g d L G c r:=by
 cases r with
 |ok v i=>exact XO.after U a b h
 |en e i=>exact EO.after U a h
 |no=>trivial
theorem Rch.lt(hf:p.f[f]?=S fn)(h:Rch Y f fn k d):k<z (Y.cd f fn):=by
 have:=(l6.1 h.2).1
 rwa [(mid Y hf).1.inv.1]at this
theorem Ste.at_(hf:p.f[f]?=S fn)(h:Ste Y f fn k d L G c){y:Ins}(b:(Y.cd f fn)[k]?=S (y,u)){l:List MI}(hl:close env (kL (ab p).f Y.P f d y) (Y.pl f k)=l):At C c.pc l/\Y.pl f (k+1)=c.pc+z l:=by
 obtain⟨_,U,a⟩:=h.rch.ins hf b;rw[hl]at U a;rw[h.pc];exact⟨U,a⟩
variable(hf:p.f[f]?=S fn)
include hf
theorem XO.mk{j:Nat}(ar:Ste Y f fn k u L G c){t v:Nat}(V:Rn okI C inp D j c c')(i:c'.pc=Y.pl f (k+1))(o:j+Y.pl f k<=Y.pl f (k+1))(b:c'.mem=up c.mem (Y.bs f+d) v)(q:0<=d)(g:Rch Y f fn (k+1) (d+1))(l:c'.rd=ad.rd)(ho:c'.out=ad.out)(m:ad.v=G.v)(e:ad.arrs=G.arrs)(n:ad.tk=G.tk):XO Y inp W f fn k (k+1) d L G c v ad:=by
 have hd:=ar.rch.dp hf;have r:=g.dp hf;refine⟨j,c',V,by rw[n];omega,ar.mv hf g i (λa e=>by rw[b];exact gg a7) l ho m e,by rw[b];exact qv,λa e=>by rw[b];exact gg a7⟩
theorem CJ{n:Int}(ar:Ste Y f fn k d L G c)(e:(Y.cd f fn)[k]?=S (⟨1,0,0,n⟩,u))(o:0<=n/\n<4294967296):XO Y inp W f fn k (k+1) d L G c n.toNat G:=by
 obtain⟨b,_⟩:=ar.rch.nx hf e (t:=0) (q:=1) rfl (j:=k+1) Y4;have b:Rch Y f fn (k+1) (d+1):=by rw[show d+1=d-0+1 by omega];exact b
 have hd:=ar.rch.dp hf;have r:=b.dp hf;have hD:=Y.hD;have g:=(Y.base f fn hf).1;have i:=ar.rch.1;by_cases Z:65535<n
 .obtain⟨a,hp⟩:=ar.at_ hf e (l:=[(1,1,0,n%65536),(2,1,0,hi16 n),(17,1,0,Y.bs f+d-0)]) (by
   show close env (ax (ko 1 n) (du Y.P f d 1 0)) _=_;unfold ko du;rw[l9 Z,g];rfl)
  have m:hi16 n=n/65536:=by unfold hi16;omega
  refine XO.mk hf ar (t:=0) ((QJ Y.dec a.hd).trans ((UE Y.dec (c:=⟨c.pc+1,_,_,_,_,_,_,_⟩) a.tl.hd).trans (vD Y.dec (c:=⟨c.pc+1+1,_,_,_,_,_,_,_⟩) a.tl.tl.hd a7 a7))) hp.symm Yr ?_ i b ar.rd ar.out rfl rfl rfl;simp only;rw[show Y.bs f+d-0=Y.bs f+d by omega,m,show (n%65536).toNat%65536+(n/65536).toNat*65536=n.toNat by omega]
 .obtain⟨a,hp⟩:=ar.at_ hf e (l:=[(1,1,0,n%65536),(17,1,0,Y.bs f+d-0)]) (by
   show close env (ax (ko 1 n) (du Y.P f d 1 0)) _=_;unfold ko du;rw[j9 Z,g];rfl)
  refine XO.mk hf ar (t:=0) ((QJ Y.dec a.hd).trans (vD Y.dec (c:=⟨c.pc+1,_,_,_,_,_,_,_⟩) a.tl.hd a7 a7)) hp.symm Yr ?_ i b ar.rd ar.out rfl rfl rfl;simp only;rw[show Y.bs f+d-0=Y.bs f+d by omega,show (n%65536).toNat=n.toNat by omega]
theorem HZ{a:Int}(ar:Ste Y f fn k d L G c)(e:(Y.cd f fn)[k]?=S (⟨2,a,0,0⟩,u))(n:0<=a/\a<Y.bk 0):XO Y inp W f fn k (k+1) d L G c (c.mem a) G:=by
 obtain⟨b,_⟩:=ar.rch.nx hf e (t:=0) (q:=1) rfl (j:=k+1) Y4;have b:Rch Y f fn (k+1) (d+1):=by rw[show d+1=d-0+1 by omega];exact b
 have hd:=ar.rch.dp hf;have o:=b.dp hf;have hD:=Y.hD;have i:=(Y.base f fn hf).1;have m:=ar.rch.1
 obtain⟨g,hp⟩:=ar.at_ hf e (l:=[(16,1,0,a),(17,1,0,Y.bs f+d-0)]) (by
  show close env (ax (aD 16 1 0 a) (du Y.P f d 1 0)) _=_;unfold du;rw[i];rfl)
 refine XO.mk hf ar (t:=0) ((xf Y.dec g.hd a7 a7).trans (vD Y.dec (c:=⟨c.pc+1,_,_,_,_,_,_,_⟩) g.tl.hd a7 a7)) hp.symm Yr ?_ m b ar.rd ar.out rfl rfl rfl;simp only;rw[show Y.bs f+d-0=Y.bs f+d by omega]
theorem UM(ar:Ste Y f fn k d L G c)(b:(Y.cd f fn)[k]?=S (⟨12,0,0,0⟩,u)):XO Y inp W f fn k (k+1) d L G c (Ai inp G.rd) ⟨G.v,G.arrs,G.out,xG inp G.rd,G.tk⟩:=by
 obtain⟨a,_⟩:=ar.rch.nx hf b (t:=0) (q:=1) rfl (j:=k+1) Y4;have a:Rch Y f fn (k+1) (d+1):=by rw[show d+1=d-0+1 by omega];exact a
 have hd:=ar.rch.dp hf;have m:=a.dp hf;have hD:=Y.hD;have g:=(Y.base f fn hf).1;have i:=ar.rch.1
 obtain⟨e,hp⟩:=ar.at_ hf b (l:=[(23,1,0,0),(17,1,0,Y.bs f+d-0)]) (by
  show close env (ax (aD 23 1 0 0) (du Y.P f d 1 0)) _=_;unfold du;rw[g];rfl)
 refine XO.mk hf ar (t:=0) ((UG Y.dec e.hd).trans (vD Y.dec (c:=⟨c.pc+1,_,_,_,_,_,_,_⟩) e.tl.hd a7 a7)) hp.symm Yr ?_ i a (by show xG inp c.rd=_;rw[ar.rd]) ar.out rfl rfl rfl;simp only;rw[show Y.bs f+d-0=Y.bs f+d by omega,ar.rd]
theorem Ek{x:Nat}(ar:Ste Y f fn k (d+1) L G c)(e:(Y.cd f fn)[k]?=S (⟨7,0,0,0⟩,u))(g:0<=d)(I:c.mem (Y.bs f+d)=x):XO Y inp W f fn k (k+1) d L G c (if x=0 then 1 else 0) G:=by
 obtain⟨a,_⟩:=ar.rch.nx hf e (t:=1) (q:=1) rfl (j:=k+1) Y4;have a:Rch Y f fn (k+1) (d+1):=by rw[show d+1=d+1-1+1 by omega];exact a
 have hd:=ar.rch.dp hf;have hD:=Y.hD;have i:=(Y.base f fn hf).1
 obtain⟨b,hp⟩:=ar.at_ hf e (l:=[(16,1,0,Y.bs f+(d+1)-1),(15,1,1,0),(17,1,0,Y.bs f+(d+1)-1)]) (by
  show close env (ax (dJ Y.P f (d+1) 1 1) (ax (aD 15 1 1 0) (du Y.P f (d+1) 1 1))) _=_;unfold du dJ;rw[i];rfl)
 refine XO.mk hf ar (t:=0) ((xf Y.dec b.hd a7 a7).trans ((UF Y.dec (c:=⟨c.pc+1,_,_,_,_,_,_,_⟩) b.tl.hd).trans (vD Y.dec (c:=⟨c.pc+1+1,_,_,_,_,_,_,_⟩) b.tl.tl.hd a7 a7))) hp.symm Yr ?_ g a ar.rd ar.out rfl rfl rfl;simp only;rw[show Y.bs f+(d+1)-1=Y.bs f+d by omega,I]
theorem Yl{op:Int}{x y:Nat}(ar:Ste Y f fn k (d+2) L G c)(e:(Y.cd f fn)[k]?=S (⟨6,op,0,0⟩,u))(i:0<=d)(I:c.mem (Y.bs f+d)=x)(m:c.mem (Y.bs f+(d+1))=y):XR Y inp W f fn k (k+1) d L G c (opV op x y G):=by
 unfold opV;split
 case isFalse=>trivial
 rename_i ho;obtain⟨b,_⟩:=ar.rch.nx hf e (t:=2) (q:=1) rfl (j:=k+1) Y4;have b:Rch Y f fn (k+1) (d+1):=by rw[show d+1=d+2-2+1 by omega];exact b
 have hd:=ar.rch.dp hf;have hD:=Y.hD;have n:=(Y.base f fn hf).1
 obtain⟨a,hp⟩:=ar.at_ hf e (l:=[(16,1,0,Y.bs f+(d+2)-2),(16,2,0,Y.bs f+(d+2)-1),(op,1,1,2),(17,1,0,Y.bs f+(d+2)-2)]) (by
  show close env (ax (dJ Y.P f (d+2) 1 2) (ax (dJ Y.P f (d+2) 2 1) (ax (aD op 1 1 2) (du Y.P f (d+2) 1 2)))) _=_;unfold du dJ;rw[n];rfl)
 have r:=(xf (inp:=inp) (D:=D) Y.dec a.hd a7 a7).trans (UC Y.dec (c:=⟨c.pc+1,_,_,_,_,_,_,_⟩) a.tl.hd a7 a7);simp only[show Y.bs f+(d+2)-2=Y.bs f+d by omega,show Y.bs f+(d+2)-1=Y.bs f+(d+1) by omega,I,m]at r a;cases g:Mach.applyN op.toNat x y with
 |some v=>
   refine XO.mk hf ar (t:=0) (r.trans ((Yh Y.dec (c:=⟨c.pc+1+1,_,_,_,_,_,_,_⟩) a.tl.tl.hd ho.1 g).trans (vD Y.dec (c:=⟨c.pc+1+1+1,_,_,_,_,_,_,_⟩) a.tl.tl.tl.hd a7 a7))) hp.symm Yr rfl i b ar.rd ar.out rfl rfl rfl
 |none=>
   refine .inr ⟨_,r.re (RE.mono (Yi Y.dec (c:=⟨c.pc+1+1,_,_,_,_,_,_,_⟩) a.tl.tl.hd ho.1 g) (l8 1))|>λh=>by rw[<-ar.out];exact h,by have:=ar.pc;simp only[l4,l5]at hp;omega⟩
theorem Mp{a b:Int}{x v:Nat}(ar:Ste Y f fn k (d+1) L G c)(m:(Y.cd f fn)[k]?=S (⟨4,a,b,0⟩,u))(n:0<=d)(I:c.mem (Y.bs f+d)=x)(s:0<=a/\a+b<=Y.bk 0):if (x:Int)<b then XO Y inp W f fn k (k+1) d L G c (c.mem (a+x)) G else EO Y inp W f k (k+1) G c 3 G:=by
 obtain⟨g,_⟩:=ar.rch.nx hf m (t:=1) (q:=1) rfl (j:=k+1) Y4;have g:Rch Y f fn (k+1) (d+1):=by rw[show d+1=d+1-1+1 by omega];exact g
 have hd:=ar.rch.dp hf;have hD:=Y.hD;have o:=(Y.base f fn hf).1
 obtain⟨e,hp⟩:=ar.at_ hf m (l:=[(16,1,0,Y.bs f+(d+1)-1),(25,1,0,b),(16,1,1,a),(17,1,0,Y.bs f+(d+1)-1)]) (by
  show close env (ax (dJ Y.P f (d+1) 1 1) (ax (aD 25 1 0 b) (ax (aD 16 1 1 a) (du Y.P f (d+1) 1 1)))) _=_;unfold du dJ;rw[o];rfl)
 have r:=xf (inp:=inp) (D:=D) Y.dec e.hd a7 a7;simp only[show Y.bs f+(d+1)-1=Y.bs f+d by omega,I]at r e;split
 .rename_i i
  exact XO.mk hf ar (t:=0) (r.trans ((Pv Y.dec (c:=⟨c.pc+1,_,_,_,_,_,_,_⟩) e.tl.hd i).trans ((Yb Y.dec (c:=⟨c.pc+1+1,_,_,_,_,_,_,_⟩) e.tl.tl.hd XS a7).trans (vD Y.dec (c:=⟨c.pc+1+1+1,_,_,_,_,_,_,_⟩) e.tl.tl.tl.hd a7 a7)))) hp.symm Yr rfl n g ar.rd ar.out rfl rfl rfl
 .rename_i i
  exact .inr ⟨_,r.re (Pw Y.dec (c:=⟨c.pc+1,_,_,_,_,_,_,_⟩) e.tl.hd i)|>λh=>by rw[<-ar.out];exact h,by have:=ar.pc;simp only[l4,l5]at hp;omega⟩
theorem CK{r:Nat}(ar:Ste Y f fn k d L G c)(e:(Y.cd f fn)[k]?=S (⟨8,(r:Nat),0,0⟩,u)):∃c',Rn okI C inp D 1 c c'/\1+Y.pl f k=Y.pl f (k+1)/\Ste Y f fn r d L G c'/\c'.mem=c.mem:=by
 obtain⟨b,_⟩:=ar.rch.nx hf e (t:=0) (q:=0) rfl (j:=r) Y4;have b:Rch Y f fn r d:=by rw[show d=d-0+0 by omega];exact b
 obtain⟨g,i⟩:=ar.at_ hf e (l:=[(18,0,0,env ((f:Int),(r:Int)))]) (by
  show close env (aE 18 0 f r) _=_;rw[jh])
 have m:=(Y.at_ f fn hf).ev r (b.lt hf);rw[m]at g;refine⟨_,UH Y.dec g.hd,by have:=ar.pc;simp only[l4,l5]at i;omega,ar.mv hf b (B6 _) (λa _=>rfl) ar.rd ar.out rfl rfl,rfl⟩
theorem yR{r x:Nat}(ar:Ste Y f fn k (d+1) L G c)(e:(Y.cd f fn)[k]?=S (⟨9,(r:Nat),0,0⟩,u))(y:0<=d)(I:c.mem (Y.bs f+d)=x):∃c',Rn okI C inp D 2 c c'/\2+Y.pl f k=Y.pl f (k+1)/\Ste Y f fn (if x=0 then r else k+1) d L G c'/\c'.mem=c.mem:=by
 obtain⟨g,_⟩:=ar.rch.nx hf e (t:=1) (q:=0) rfl (j:=if x=0 then r else k+1) (by by_cases n:x=0<;>simp[next,n]);have b:=(ar.rch.nx hf e (t:=1) (q:=0) rfl (j:=r) Y4).1;have g:Rch Y f fn (if x=0 then r else k+1) d:=by rw[show d=d+1-1+0 by omega];exact g
 have hd:=ar.rch.dp hf;have hD:=Y.hD;have s:=(Y.base f fn hf).1
 obtain⟨i,v⟩:=ar.at_ hf e (l:=[(16,1,0,Y.bs f+(d+1)-1),(19,1,0,env ((f:Int),(r:Int)))]) (by
  show close env (ax (dJ Y.P f (d+1) 1 1) (aE 19 1 f r)) _=_;unfold dJ;rw[s,cM dO jg,gy,jh];rfl)
 have w:=(Y.at_ f fn hf).ev r (b.lt hf);rw[w,show Y.bs f+(d+1)-1=Y.bs f+d by omega]at i;have m:=xf (inp:=inp) (D:=D) Y.dec i.hd a7 a7;rw[I]at m;have o:=ar.pc;simp only[l4,l5]at v;refine⟨_,m.trans (Yk Y.dec (c:=⟨c.pc+1,_,_,_,_,_,_,_⟩) i.tl.hd),a7,ar.mv hf g ?_ (λa _=>rfl) ar.rd ar.out rfl rfl,rfl⟩;simp only[B6];split
 .rfl
 .omega
end
end
end
end Go.Mn

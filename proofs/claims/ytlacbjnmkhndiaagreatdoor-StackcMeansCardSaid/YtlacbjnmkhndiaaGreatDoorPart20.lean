/- A part of the proof; no conditions. -/
import Derived.Test.YtlacbjnmkhndiaaGreatDoorPart19
set_option linter.unusedSimpArgs false
set_option linter.unusedVariables false
set_option linter.defProp false
set_option linter.unusedSectionVars false
open List renaming length -> z
open Option renaming some -> S, none -> N
open Bool renaming true -> T, false -> F
set_option maxHeartbeats 64000000
set_option maxRecDepth 100000
namespace Go.Emit
section
open Go.Lower (Ins Code Sig codeOf takes yM iV Good OkI fC)
open Go.Src (CFn Fn Pl ab cR aX sigs dX ai yO gV gA aD)
open Go.Asm (Str)
def RJ:∀(l:List Str)(m:Pl)(w:Int),(gV l m w).2=w+z l
 |[],m,w=>by simp[gV]
 |n::l,m,w=>by rw[gV,RJ l];simp only[j9];omega
def RK:∀(l:List (Str×Int))(m:Pl)(w:Int),(gA l m w).2=w+(l.map (·.2)).sum
 |[],m,w=>by simp[gA]
 |n::l,m,w=>by rw[gA,RK l];simp only[l9,D9];omega
def yI(o:Pl):∀(l:List Src.Fn)(w:Int),(cR o l w).2=w+((l.map λf=>z f.params+z f.locals).sum:Nat)
 |[],w=>by simp[cR]
 |f::l,w=>by simp only[cR,yI o l,l9,D9];omega
def FO(p:Src.Prog):(ab p).words=z p.vars+(p.arrays.map (·.2)).sum+((p.funcs.map λf=>z f.params+z f.locals).sum:Nat):=by
 unfold ab ai;simp only;rw[yI,RK,RJ];omega
def pF:∀(l:List Int)(d m:Int),(∀x∈l,x<=m)->d<=m->deepest l d<=m
 |[],d,m,_,hd=>hd
 |a::l,d,m,h,hd=>by
   rw[qx];have:=h a a8;exact pF l _ m (λx I=>h x We) a7
def vX(n:Nat):∀(l:List (List Int))(k:Nat)(w:Int),(dk n k l w).2.2<=w+z l+(l.map λo=>deepest o 0).sum
 |[],k,w=>by simp[dk]
 |o::l,k,w=>by
   have a:=vX n l (k+1) ((if k+1=n then w else w+1)+deepest o 0);have b:(if k+1=n then w else w+1)<=w+1:=by split<;>omega
   simp only[dk,j9,l9,D9];omega
def ud{A:Type}(f:A->Int)(g:A->Nat):∀l:List A,(∀x∈l,f x<=g x)->(l.map f).sum<=((l.map g).sum:Nat)
 |[],_=>by simp
 |a::l,h=>by
   have:=ud f g l λx I=>h x We;have:=h a a8;simp only[l9,D9];omega
def vY(d:fZ):Prop:=(∀v∈d.ent,0<=v/\v<=(z d.code:Int))/\∀l∈d.pls,∀v∈l,0<=v/\v<=(z d.code:Int)
def DM(fs:List CFn)(P:Plan)(f:Nat)(A:Lower.Code)(ds:List Int)(n:Nat){a b:Nat}(h:a<=b):z (eM fs P f A ds a n).code<=z (eM fs P f A ds b n).code:=by
 induction h with
 |refl=>exact l7 _
 |step _ c=>rw[eM];simp only[ak,j7];omega
def yJ{A:Type}{l:List A}{k:Nat}{a x:A}(h:x∈l.set k a):x∈l\/x=a:=Je h
def vY.add{fs:List CFn}{P:Plan}{d:fZ}{f:Nat}(h:vY d):vY (dH fs P d f):=by
 unfold dH;split
 .rename_i y ds _ _
  simp only;refine⟨λv a=>?_,λl hl v a=>?_⟩
  .simp only[j7]
   rcases yJ a with a|rfl
   .have:=h.1 v a;omega
   .omega
  .simp only[j7]
   rcases yJ hl with hl|rfl
   .have:=h.2 l hl v a;omega
   .unfold placesOf at a
    obtain⟨k,b,rfl⟩:=E3.1 a;have:=DM fs P f (codeOf y.word y.body) ds (z d.code) (O8 (D5.1 b));omega
 .exact h
def nE(fs:List CFn)(P:Plan):∀k,vY (pg fs P k)
 |0=>vY.add ⟨λv a=>by rw[F1 a];simp,λl hl v a=>by rw[F1 hl]at a;cases a⟩
 |k+1=>(nE fs P k).add
def FP{d:fZ}(h:vY d)(q:Int×Int):0<=eN d q/\eN d q<=(z d.code:Int):=by
 unfold eN;split
 .cases hl:d.pls[q.1.toNat]? with
  |none=>simp
  |some l=>
    simp only[A5];cases a:l[q.2.toNat]? with
    |none=>simp
    |some v=>exact h.2 l (l6 hl) v (l6 a)
 .cases a:d.ent[q.1.toNat]? with
  |none=>simp
  |some v=>exact h.1 v (l6 a)
def RL{p:Src.Prog}(h:aX p=0)(hn:yO p)(E:z p.vars+z p.funcs+((p.funcs.map λf=>z f.params+z f.locals).sum+(p.funcs.map λf=>aD f.body).sum)<=150)(hA:(p.arrays.map (·.2)).sum<=4096):
  (ab p).words<=32768/\0<=(cK (ab p).words (ab p).funcs).data/\(cK (ab p).words (ab p).funcs).data<=32768/\z (filled (whole (ab p).funcs (cK (ab p).words (ab p).funcs)))<=16384/\∀x∈filled (whole (ab p).funcs (cK (ab p).words (ab p).funcs)),qz x:=by
 obtain⟨V,_,_⟩:=Src.zU h
 have hl:1<=z p.funcs/\∀f∈p.funcs,z f.params<=6:=by
  unfold dX at V;simp only[s5,B4,y8]at V;refine⟨V.1.1.1,λf hf=>?_⟩;exact U8
 obtain⟨P,Q⟩:∃P,cK (ab p).words (ab p).funcs=P:=⟨_,rfl⟩
 have hw:=FO p;have b3:=xl p;have A:=AR h;have a6:0<=(ab p).words:=by have:(ai p).2<=(ab p).words:=Src.wF _ _ _;omega
 have h2:=pG (λx:CFn=>z (bW x)) (λx=>Src.mZ x.body) (λx=>Src.QD x.word x.body) (ab p).funcs;have h3:((ab p).funcs.map λx=>Src.mZ x.body).sum=(p.funcs.map λf=>aD f.body).sum:=Src.zX _ _ _;have Z:P.depths=(ab p).funcs.map λx=>bq (bW x):=by rw[<-Q];rfl
 have hd:=vX (z (ab p).funcs) P.depths 0 (ab p).words;have bo:=rA (z (ab p).funcs) P.depths 0 (ab p).words λo _=>fO o 0;have b:P.data=(dk (z (ab p).funcs) 0 P.depths (ab p).words).2.2:=by rw[<-Q];rfl
 have i:P.base=(dk (z (ab p).funcs) 0 P.depths (ab p).words).2.1:=by rw[<-Q];rfl
 have m:P.back=(dk (z (ab p).funcs) 0 P.depths (ab p).words).1:=by rw[<-Q];rfl
 have ch:∀x∈(ab p).funcs,z (bW x)<=1000:=λx I=>by
  have U:=Src.QD x.word x.body;have h2:=Src.LT (λx:CFn=>Src.mZ x.body) I;unfold bW;omega
 have ar:(P.depths.map λo=>deepest o 0).sum<=(((ab p).funcs.map λx=>z (bW x)).sum:Nat):=by
  rw[Z,Qv];exact ud _ _ _ λx I=>pF _ _ _ (λd hd=>((wb h I).2 d hd).2) a7
 have cf:(z P.depths:Int)=z p.funcs:=by rw[Z,j6,b3]
 have G:P.data<=32768:=a7;have H:qy (ab p).funcs P 6:=by rw[<-Q];exact MS h hl.2
 have hW:=sX H (z (ab p).funcs-1) (l7 _);have ad:=DQ (ab p).funcs 6 (k:=z (ab p).funcs-1) a7 (l7 _);have az:=xk (ab p).funcs 6 (z (ab p).funcs) (l7 _);rw[H8]at az;have b0:z (whole (ab p).funcs P).code<=16384:=C8 hW.c a7;have W:=DU H
 have bd:z (filled (whole (ab p).funcs P))=z (whole (ab p).funcs P).code:=by
  have e:=pI (whole (ab p).funcs P) (whole (ab p).funcs P).holes (whole (ab p).funcs P).code λh hh=>(hW.h h hh).1;unfold filled;rw[e,ku]
 have j:∀q,0<=eN (whole (ab p).funcs P) q/\eN (whole (ab p).funcs P) q<=65535:=λq=>by
  have:=FP (nE (ab p).funcs P (z (ab p).funcs-1)) q;have e:pg (ab p).funcs P (z (ab p).funcs-1)=whole (ab p).funcs P:=rfl;rw[e]at this;omega
 have bf:∀(l:List Int)(f:Nat),(∀x∈l,(ab p).words<=x/\x<=P.data)->0<=(l[f]?).getD 0/\(l[f]?).getD 0<=32768:=λl f I=>by
  cases hv:l[f]? with
  |none=>simp
  |some v=>have:=I v (l6 hv);simp only[A5];omega
 have K:∀x∈P.back,(ab p).words<=x/\x<=P.data:=by
  rw[m,b]
  have:∀(l:List (List Int))(k:Nat)(w:Int),∀x∈(dk (z (ab p).funcs) k l w).1,w<=x/\x<=(dk (z (ab p).funcs) k l w).2.2:=by
   intro l
   induction l with
   |nil=>intro k w x I;cases I
   |cons o l ih=>
     intro k w x I;have bk:=rA (z (ab p).funcs) (o::l) k w λo _=>fO o 0;simp only[dk]at I bk|-;rcases A3.1 I with rfl|I
     .exact⟨C5 _,bk.1⟩
     .have:=ih _ _ x I
      have hb:w<=(if k+1=z (ab p).funcs then w else w+1):=by split<;>omega
      have:=fO o 0;omega
  exact this _ _ _
 have hA:∀f,JT (ab p).funcs P f (ab p).words:=λf=>by
  refine⟨bf _ f (by rw[i,b];exact bo.2),bf _ f K,a7,λy Y=>?_⟩;obtain⟨g,w,_,h2,rfl,h4⟩:=FS Y;simp only[Src.lR];omega
 have s:(ab p).funcs.map (λx=>(x.params,x.word))=sigs p.funcs:=FT p
 have r:∀f n,n+z (ui (eN (whole (ab p).funcs P)) (ab p).funcs P f n)<=60000->∀x∈ui (eN (whole (ab p).funcs P)) (ab p).funcs P f n,qz x:=λf n J x I=>by
  unfold ui at I J;cases hf:(ab p).funcs[f]? with
  |none=>rw[hf]at I;cases I
  |some y=>
    cases O:P.depths[f]? with
    |none=>rw[hf,O]at I;cases I
    |some ds=>
      rw[hf,O]at I J;simp only at I J;have Y:=l6 hf;obtain⟨h0,cd⟩:=rB h Y
      have u:ds=bq (bW y):=by
       rw[Z,x8,hf]at O;exact(G6 O).symm
      obtain⟨hm,_⟩:=ka (λ_=>rfl) h0 cd;refine(yQ j (hA f) (word:=y.word) (by rw[hf];rfl) (λk X d hk a e1=>?_) _).2 n (by rw[iG]at J;exact J) x I;rw[u]at a;have B:=(wb h Y).2 d (l6 a);have:=ch y Y;refine⟨Src.Vo h hn Y X (l6 hk),a7,?_⟩;obtain⟨t,q,U,_,h3,_⟩:=fC cd hk;refine⟨t,q,by rw[s];exact U,?_⟩;rcases hm.inv.2.1 k d a with e|⟨e,_⟩
      .omega
      .simp only[hk]at e
       have e:X.2=d:=G6 e;omega
 have L:∀k,z (toC (eN (whole (ab p).funcs P)) (ab p).funcs P k)<=16384->∀x∈toC (eN (whole (ab p).funcs P)) (ab p).funcs P k,qz x:=by
  intro k
  induction k with
  |zero=>
    intro hl x I;rw[toC]at hl I;simp only[j7,j9,l4]at hl;rcases C4.1 I with I|I
    .rw[E0.1 I];exact ul b9 b9 b9
    .exact r _ _ a7 x I
  |succ k ih=>
    intro hl x I;rw[toC]at hl I;rw[j7]at hl;rcases C4.1 I with I|I
    .exact ih a7 x I
    .exact r _ _ a7 x I
 rw[Q];refine⟨a7,a7,G,a7,λx I=>?_⟩;rw[W]at I bd;exact L _ a7 x I
end
end Go.Emit
namespace Go.Mn
section
open Go.Asm (Str)
open Go.Mach (M applyN)
open Go.Emit (MI)
section
def dP(x:MI):Nat:=Asm.word x.1.toNat x.2.1.toNat x.2.2.1.toNat x.2.2.2.toNat
def Dec(okI:Nat->Nat->Nat->Nat->Bool)(x:MI):Prop:=
 dP x/16777216=x.1.toNat/\dP x/1048576%16=x.2.1.toNat/\dP x/65536%16=x.2.2.1.toNat/\dP x%65536=x.2.2.2.toNat/\okI x.1.toNat x.2.1.toNat x.2.2.1.toNat x.2.2.2.toNat=T
structure Cf where
 pc:Nat
 a:Nat
 b:Nat
 t:Nat
 l:Nat
 mem:Int->Nat
 rd:Nat
 out:Str
def up(mem:Int->Nat)(x:Int)(v:Nat):Int->Nat:=λy=>if y=x then v else mem y
structure Ms (D:Nat) (c:Cf) (m:M):Prop where
 fin:m.fin=0
 pc:m.pc=c.pc
 len:m.reg.length=16
 r0:m.r 0=0
 r15:m.r 15=1
 a:m.r 1=c.a
 b:m.r 2=c.b
 t:m.r 3=c.t
 l:m.r 14=c.l
 ml:m.mem.length=D
 mem:∀k:Nat,k<D->m.mem[k]?=some (c.mem k)
 rd:m.rd=c.rd
 out:m.out=c.out
section
variable(okI:Nat->Nat->Nat->Nat->Bool)(C:List MI)(inp:Str)(D:Nat)
def Rn(k:Nat)(c c':Cf):Prop:=∀m,Ms D c m->∃m',Ms D c' m'/\∀al,Mach.runM okI (C.map dP) inp (k+al) m=Mach.runM okI (C.map dP) inp al m'
def RE(k:Nat)(c:Cf)(e:Nat)(o:Str):Prop:=e≠0/\∀m,Ms D c m->∀al,k<=al->(Mach.runM okI (C.map dP) inp al m).fin=e/\(Mach.runM okI (C.map dP) inp al m).out=o
end
variable{c:Cf}{x:MI}{m:M}{i j e:Nat}
section
variable{okI:Nat->Nat->Nat->Nat->Bool}{C:List MI}{inp:Str}{D:Nat}
theorem Rn.refl:Rn okI C inp D 0 c c:=λm h=>⟨m,h,λal=>by rw[C7]⟩
theorem Rn.trans{i j:Nat}{c c1 a:Cf}(U:Rn okI C inp D i c c1)(b:Rn okI C inp D j c1 a):Rn okI C inp D (i+j) c a:=λm h=>by
 obtain⟨d,f,g⟩:=U m h;obtain⟨k,l,n⟩:=b d f;exact⟨k,l,λal=>by rw[C0,g,n]⟩
theorem Rn.re{o:Str}{c c1:Cf}(U:Rn okI C inp D i c c1)(a:RE okI C inp D j c1 e o):RE okI C inp D (i+j) c e o:=⟨a.1,λm h al g=>by
 obtain⟨b,d,f⟩:=U m h;obtain⟨q,rfl⟩:∃q,al=i+q:=⟨al-i,a7⟩
 rw[f];exact a.2 b d q a7⟩
theorem RE.mono{o:Str}(h:RE okI C inp D i c e o)(b:i<=j):RE okI C inp D j c e o:=⟨h.1,λm a al d=>h.2 m a al a7⟩
theorem Cd{k v j:Nat}(a:k<z m.reg):(m.set k v).r j=if j=k then v else m.r j:=by
 unfold M.r M.set;rw[ES,ES,B9];by_cases h:k=j
 .rw[l8 h,l8 h.symm,l8 a];rfl
 .rw[j8 h,j8 (B8 h)]
theorem step1(hd:∀x∈C,Dec okI x)(hf:m.fin=0)(I:C[m.pc]?=S x)(al:Nat):
  Mach.runM okI (C.map dP) inp (1+al) m=Mach.runM okI (C.map dP) inp al (Mach.doM (C.map dP) inp {m with steps:=m.steps+1} x.1.toNat x.2.1.toNat x.2.2.1.toNat x.2.2.2.toNat):=by
 obtain⟨a,b,d,f,g⟩:=hd x (l6 I);rw[Sf,Mach.EH hf];congr 1;unfold Mach.mV;rw[x8,I];simp only[z7];rw[a,b,d,f,l8 g]
variable(hd:∀x∈C,Dec okI x)
include hd
theorem jP{k:Nat}(I:C[c.pc]?=S x){v a b t l:Nat}(n:(k=1/\a=v/\b=c.b/\t=c.t/\l=c.l)\/(k=2/\a=c.a/\b=v/\t=c.t/\l=c.l)\/(k=3/\a=c.a/\b=c.b/\t=v/\l=c.l)\/(k=14/\a=c.a/\b=c.b/\t=c.t/\l=v))
 {rd:Nat}(h:∀m,Ms D c m->∃f,Mach.doM (C.map dP) inp {m with steps:=m.steps+1} x.1.toNat x.2.1.toNat x.2.2.1.toNat x.2.2.2.toNat = {({m with steps:=m.steps+1}:M).set k v with rd:=rd}/\f=m):Rn okI C inp D 1 c ⟨c.pc+1,a,b,t,l,c.mem,rd,c.out⟩:=λm hm=>by
 obtain⟨_,g,_⟩:=h m hm;refine⟨_,?_,λal=>step1 hd hm.fin WR al⟩;rw[g];have d:∀j,({({m with steps:=m.steps+1}:M).set k v with rd:=rd}:M).r j=if j=k then v else m.r j:=λj=>Cd (m:={m with steps:=m.steps+1}) (by rw[hm.len];omega)
 refine⟨hm.fin,by show m.pc+1=c.pc+1;rw[hm.pc],by show z (m.reg.set k v)=16;rw[C2,hm.len],?_,?_,?_,?_,?_,?_,hm.ml,hm.mem,rfl,hm.out⟩
 .rw[d,j8 a7];exact hm.r0
 .rw[d,j8 a7];exact hm.r15
 .rw[d];have:=hm.a;split<;>simp only<;>omega
 .rw[d];have:=hm.b;split<;>simp only<;>omega
 .rw[d];have:=hm.t;split<;>simp only<;>omega
 .rw[d];have:=hm.l;split<;>simp only<;>omega
theorem yD(I:C[c.pc]?=S x){pc:Nat}(h:∀m,Ms D c m->Mach.doM (C.map dP) inp {m with steps:=m.steps+1} x.1.toNat x.2.1.toNat x.2.2.1.toNat x.2.2.2.toNat = {m with steps:=m.steps+1,pc:=pc}):Rn okI C inp D 1 c ⟨pc,c.a,c.b,c.t,c.l,c.mem,c.rd,c.out⟩:=λm hm=>by
 refine⟨_,?_,λal=>step1 hd hm.fin WR al⟩;rw[h m hm];exact⟨hm.fin,rfl,hm.len,hm.r0,hm.r15,hm.a,hm.b,hm.t,hm.l,hm.ml,hm.mem,hm.rd,hm.out⟩
theorem xg(I:C[c.pc]?=S x){e:Nat}(a:e≠0)(h:∀m,Ms D c m->Mach.doM (C.map dP) inp {m with steps:=m.steps+1} x.1.toNat x.2.1.toNat x.2.2.1.toNat x.2.2.2.toNat = {m with steps:=m.steps+1,fin:=e}):RE okI C inp D 1 c e c.out:=⟨a,λm hm al b=>by
 obtain⟨q,rfl⟩:∃q,al=1+q:=⟨al-1,a7⟩
 rw[step1 hd hm.fin WR,h m hm,Mach.Is a];exact⟨rfl,hm.out⟩⟩
variable{c:Cf}{x y:Int}
theorem vu(I:C[c.pc]?=S (16,1,0,x))(h:0<=x/\x<D)(hD:D<=60000):Rn okI C inp D 1 c ⟨c.pc+1,c.mem x,c.b,c.t,c.l,c.mem,c.rd,c.out⟩:=
 jP hd I (k:=1) (v:=c.mem x) (.inl ⟨rfl,rfl,rfl,rfl,rfl⟩) λm a=>⟨m,by
  show (match m.mem[(m.r 0+x.toNat)%4294967296]? with|some x=>({m with steps:=m.steps+1}:M).set 1 x|none=>_)=_;rw[a.r0,show (0+x.toNat)%4294967296=x.toNat by omega,a.mem x.toNat a7,show ((x.toNat:Nat):Int)=x by omega,<-a.rd];rfl,rfl⟩
theorem Ru(I:C[c.pc]?=S (16,2,0,x))(h:0<=x/\x<D)(hD:D<=60000):Rn okI C inp D 1 c ⟨c.pc+1,c.a,c.mem x,c.t,c.l,c.mem,c.rd,c.out⟩:=
 jP hd I (k:=2) (v:=c.mem x) (.inr (.inl ⟨rfl,rfl,rfl,rfl,rfl⟩)) λm b=>⟨m,by
  show (match m.mem[(m.r 0+x.toNat)%4294967296]? with|some x=>({m with steps:=m.steps+1}:M).set 2 x|none=>_)=_;rw[b.r0,show (0+x.toNat)%4294967296=x.toNat by omega,b.mem x.toNat a7,show ((x.toNat:Nat):Int)=x by omega,<-b.rd];rfl,rfl⟩
theorem Rv(I:C[c.pc]?=S (16,14,0,x))(h:0<=x/\x<D)(hD:D<=60000):Rn okI C inp D 1 c ⟨c.pc+1,c.a,c.b,c.t,c.mem x,c.mem,c.rd,c.out⟩:=
 jP hd I (k:=14) (v:=c.mem x) (.inr (.inr (.inr ⟨rfl,rfl,rfl,rfl,rfl⟩))) λm d=>⟨m,by
  show (match m.mem[(m.r 0+x.toNat)%4294967296]? with|some x=>({m with steps:=m.steps+1}:M).set 14 x|none=>_)=_;rw[d.r0,show (0+x.toNat)%4294967296=x.toNat by omega,d.mem x.toNat a7,show ((x.toNat:Nat):Int)=x by omega,<-d.rd];rfl,rfl⟩
theorem Vb(I:C[c.pc]?=S (16,1,1,x))(h:0<=x/\x+c.a<D)(hD:D<=60000):Rn okI C inp D 1 c ⟨c.pc+1,c.mem (x+c.a),c.b,c.t,c.l,c.mem,c.rd,c.out⟩:=
 jP hd I (k:=1) (v:=c.mem (x+c.a)) (.inl ⟨rfl,rfl,rfl,rfl,rfl⟩) λm d=>⟨m,by
  show (match m.mem[(m.r 1+x.toNat)%4294967296]? with|some x=>({m with steps:=m.steps+1}:M).set 1 x|none=>_)=_;rw[d.a,show (c.a+x.toNat)%4294967296=c.a+x.toNat by omega,d.mem _ a7,show ((c.a+x.toNat:Nat):Int)=x+c.a by omega,<-d.rd];rfl,rfl⟩
theorem yE{r q v:Nat}(I:C[c.pc]?=S (17,(r:Int),(q:Int),x))(h:0<=x){X:Int}(hD:D<=60000)(f:∀m,Ms D c m->m.r r=v/\X=m.r q+x/\X<D):Rn okI C inp D 1 c ⟨c.pc+1,c.a,c.b,c.t,c.l,up c.mem X v,c.rd,c.out⟩:=λm hm=>by
 refine⟨_,?_,λal=>step1 hd hm.fin WR al⟩;obtain⟨U,n,o⟩:=f m hm
 have e:Mach.doM (C.map dP) inp {m with steps:=m.steps+1} 17 r q x.toNat = {m with steps:=m.steps+1,mem:=m.mem.set X.toNat v,pc:=m.pc+1}:=by
  show (if (m.r q+x.toNat)%4294967296<z m.mem then {m with steps:=m.steps+1,mem:=m.mem.set ((m.r q+x.toNat)%4294967296) (m.r r),pc:=m.pc+1}else _)=_;rw[show (m.r q+x.toNat)%4294967296=X.toNat by omega,hm.ml,l8 a7,U]
 simp only[B3];rw[show ((17:Int)).toNat=17 from rfl,e];refine⟨hm.fin,by show m.pc+1=_;rw[hm.pc],hm.len,hm.r0,hm.r15,hm.a,hm.b,hm.t,hm.l,by show z (m.mem.set X.toNat v)=D;rw[C2,hm.ml],λk g=>?_,hm.rd,hm.out⟩;show (m.mem.set X.toNat v)[k]?=S (up c.mem X v k);rw[B9];unfold up;by_cases d:X.toNat=k
 .rw[l8 d,l8 (by rw[hm.ml];omega),l8 a7]
 .rw[j8 d,j8 a7];exact hm.mem k g
theorem tZ(I:C[c.pc]?=S (17,1,0,x))(h:0<=x/\x<D)(hD:D<=60000):Rn okI C inp D 1 c ⟨c.pc+1,c.a,c.b,c.t,c.l,up c.mem x c.a,c.rd,c.out⟩:=
 yE hd (r:=1) (q:=0) I h.1 hD λm d=>⟨d.a,by rw[d.r0];omega,h.2⟩
theorem Vc(I:C[c.pc]?=S (17,0,0,x))(h:0<=x/\x<D)(hD:D<=60000):Rn okI C inp D 1 c ⟨c.pc+1,c.a,c.b,c.t,c.l,up c.mem x 0,c.rd,c.out⟩:=
 yE hd (r:=0) (q:=0) I h.1 hD λm d=>⟨d.r0,by rw[d.r0];omega,h.2⟩
theorem Vd(I:C[c.pc]?=S (17,14,0,x))(h:0<=x/\x<D)(hD:D<=60000):Rn okI C inp D 1 c ⟨c.pc+1,c.a,c.b,c.t,c.l,up c.mem x c.l,c.rd,c.out⟩:=
 yE hd (r:=14) (q:=0) I h.1 hD λm d=>⟨d.l,by rw[d.r0];omega,h.2⟩
theorem Ve(I:C[c.pc]?=S (17,2,1,x))(h:0<=x/\x+c.a<D)(hD:D<=60000):Rn okI C inp D 1 c ⟨c.pc+1,c.a,c.b,c.t,c.l,up c.mem (x+c.a) c.b,c.rd,c.out⟩:=
 yE hd (r:=2) (q:=1) I h.1 hD λm d=>⟨d.b,by rw[d.a];omega,h.2⟩
theorem Vf(I:C[c.pc]?=S (17,0,1,0))(h:c.a<D)(hD:D<=60000):Rn okI C inp D 1 c ⟨c.pc+1,c.a,c.b,c.t,c.l,up c.mem c.a 0,c.rd,c.out⟩:=
 yE hd (r:=0) (q:=1) I b9 hD λm d=>⟨d.r0,by rw[d.a];omega,a7⟩
theorem NW(I:C[c.pc]?=S (1,1,0,x)):Rn okI C inp D 1 c ⟨c.pc+1,x.toNat,c.b,c.t,c.l,c.mem,c.rd,c.out⟩:=
 jP hd I (k:=1) (v:=x.toNat) (.inl ⟨rfl,rfl,rfl,rfl,rfl⟩) λm a=>⟨m,by rw[<-a.rd];rfl,rfl⟩
theorem Vg(I:C[c.pc]?=S (1,2,0,x)):Rn okI C inp D 1 c ⟨c.pc+1,c.a,x.toNat,c.t,c.l,c.mem,c.rd,c.out⟩:=
 jP hd I (k:=2) (v:=x.toNat) (.inr (.inl ⟨rfl,rfl,rfl,rfl,rfl⟩)) λm b=>⟨m,by rw[<-b.rd];rfl,rfl⟩
theorem Rw(I:C[c.pc]?=S (2,1,0,x)):Rn okI C inp D 1 c ⟨c.pc+1,c.a%65536+x.toNat*65536,c.b,c.t,c.l,c.mem,c.rd,c.out⟩:=
 jP hd I (k:=1) (v:=c.a%65536+x.toNat*65536) (.inl ⟨rfl,rfl,rfl,rfl,rfl⟩) λm d=>⟨m,by rw[<-d.rd,<-d.a];rfl,rfl⟩
theorem FG{op:Nat}{r q s:Nat}(ho:4<=op/\op<=15):Mach.doM (C.map dP) inp m op r q s=match applyN op (m.r q) (m.r s)with|some x=>m.set r x|none=>{m with fin:=2}:=by
 unfold Mach.doM
 repeat rw[j8 (by omega)]
 cases applyN op (m.r q) (m.r s)<;>rfl
theorem Vh{v:Nat}(I:C[c.pc]?=S (x,1,1,2))(h:4<=x/\x<=15)(f:applyN x.toNat c.a c.b=S v):Rn okI C inp D 1 c ⟨c.pc+1,v,c.b,c.t,c.l,c.mem,c.rd,c.out⟩:=
 jP hd I (k:=1) (v:=v) (.inl ⟨rfl,rfl,rfl,rfl,rfl⟩) λm d=>⟨m,by
  rw[FG hd VL];show (match applyN x.toNat (m.r 1) (m.r 2)with|some x=>_|none=>_)=_;rw[d.a,d.b,f,<-d.rd];rfl,rfl⟩
theorem Vi(I:C[c.pc]?=S (x,1,1,2))(h:4<=x/\x<=15)(f:applyN x.toNat c.a c.b=N):RE okI C inp D 1 c 2 c.out:=
 xg hd I b9 λm d=>by
  rw[FG hd VL];show (match applyN x.toNat (m.r 1) (m.r 2)with|some x=>_|none=>_)=_;rw[d.a,d.b,f]
theorem Rx(I:C[c.pc]?=S (15,1,1,0)):Rn okI C inp D 1 c ⟨c.pc+1,if c.a=0 then 1 else 0,c.b,c.t,c.l,c.mem,c.rd,c.out⟩:=
 jP hd I (k:=1) (v:=if c.a=0 then 1 else 0) (.inl ⟨rfl,rfl,rfl,rfl,rfl⟩) λm d=>⟨m,by
  rw[<-d.rd];show ({m with steps:=m.steps+1}:M).set 1 (if m.r 1=m.r 0 then 1 else 0)=_;rw[d.r0,d.a];rfl,rfl⟩
theorem NX(I:C[c.pc]?=S (4,1,1,15))(h:c.a<4294967295):Rn okI C inp D 1 c ⟨c.pc+1,c.a+1,c.b,c.t,c.l,c.mem,c.rd,c.out⟩:=
 jP hd I (k:=1) (v:=c.a+1) (.inl ⟨rfl,rfl,rfl,rfl,rfl⟩) λm d=>⟨m,by
  rw[<-d.rd];show ({m with steps:=m.steps+1}:M).set 1 ((m.r 1+m.r 15)%4294967296)=_;rw[d.r15,d.a,J9 a7];rfl,rfl⟩
theorem Vj(I:C[c.pc]?=S (14,3,1,2)):Rn okI C inp D 1 c ⟨c.pc+1,c.a,c.b,if c.a<c.b then 1 else 0,c.l,c.mem,c.rd,c.out⟩:=
 jP hd I (k:=3) (v:=if c.a<c.b then 1 else 0) (.inr (.inr (.inl ⟨rfl,rfl,rfl,rfl,rfl⟩))) λm d=>⟨m,by
  rw[<-d.rd];show ({m with steps:=m.steps+1}:M).set 3 (if m.r 1<m.r 2 then 1 else 0)=_;rw[d.b,d.a];rfl,rfl⟩
theorem Ry(I:C[c.pc]?=S (23,1,0,0)):Rn okI C inp D 1 c ⟨c.pc+1,yz inp c.rd,c.b,c.t,c.l,c.mem,vV inp c.rd,c.out⟩:=
 jP hd I (k:=1) (v:=yz inp c.rd) (.inl ⟨rfl,rfl,rfl,rfl,rfl⟩) λm a=>⟨m,by
  show (match inp[m.rd]? with|some x=>{({m with steps:=m.steps+1}:M).set 1 x.toNat with rd:=m.rd+1}|none=>({m with steps:=m.steps+1}:M).set 1 256)=_;unfold yz vV;rw[<-a.rd];cases inp[m.rd]?<;>rfl,rfl⟩
theorem MK(I:C[c.pc]?=S (25,1,0,x))(h:(c.a:Int)<x):Rn okI C inp D 1 c ⟨c.pc+1,c.a,c.b,c.t,c.l,c.mem,c.rd,c.out⟩:=
 yD hd I λm d=>by
  show (if x.toNat<=m.r 1 then _ else {m with steps:=m.steps+1,pc:=m.pc+1})=_;rw[d.a,j8 a7,d.pc]
theorem ML(I:C[c.pc]?=S (25,1,0,x))(h:¬(c.a:Int)<x):RE okI C inp D 1 c 3 c.out:=
 xg hd I b9 λm b=>by
  show (if x.toNat<=m.r 1 then {m with steps:=m.steps+1,fin:=3}else _)=_;rw[b.a,l8 a7]
theorem Rz(I:C[c.pc]?=S (18,0,0,x)):Rn okI C inp D 1 c ⟨x.toNat,c.a,c.b,c.t,c.l,c.mem,c.rd,c.out⟩:=yD hd I λm d=>rfl
theorem Vk(I:C[c.pc]?=S (19,1,0,x)):Rn okI C inp D 1 c ⟨if c.a=0 then x.toNat else c.pc+1,c.a,c.b,c.t,c.l,c.mem,c.rd,c.out⟩:=
 yD hd I λm d=>by
  show {m with steps:=m.steps+1,pc:=if m.r 1=0 then x.toNat else m.pc+1}=_;rw[d.a,d.pc]
theorem RA(I:C[c.pc]?=S (20,3,0,x)):Rn okI C inp D 1 c ⟨if c.t=0 then c.pc+1 else x.toNat,c.a,c.b,c.t,c.l,c.mem,c.rd,c.out⟩:=
 yD hd I λm d=>by
  show {m with steps:=m.steps+1,pc:=if m.r 3=0 then m.pc+1 else x.toNat}=_;rw[d.t,d.pc]
theorem MM(I:C[c.pc]?=S (22,14,0,0)):Rn okI C inp D 1 c ⟨c.l,c.a,c.b,c.t,c.l,c.mem,c.rd,c.out⟩:=
 yD hd I λm d=>by
  show {m with steps:=m.steps+1,pc:=m.r 14}=_;rw[d.l]
theorem NY(I:C[c.pc]?=S (21,14,0,x))(h:c.pc<4294967295):Rn okI C inp D 1 c ⟨x.toNat,c.a,c.b,c.t,c.pc+1,c.mem,c.rd,c.out⟩:=λm hm=>by
 refine⟨_,?_,λal=>step1 hd hm.fin WR al⟩;have e:Mach.doM (C.map dP) inp {m with steps:=m.steps+1} 21 14 0 x.toNat = {({m with steps:=m.steps+1}:M).set 14 ((m.pc+1)%4294967296)with pc:=x.toNat}:=rfl;show Ms D _ (Mach.doM (C.map dP) inp {m with steps:=m.steps+1} 21 14 0 x.toNat);rw[e];have d:∀j,({({m with steps:=m.steps+1}:M).set 14 ((m.pc+1)%4294967296)with pc:=x.toNat}:M).r j=if j=14 then(m.pc+1)%4294967296 else m.r j:=λj=>Cd (m:={m with steps:=m.steps+1}) (by rw[hm.len];omega)
 refine⟨hm.fin,rfl,by show z (m.reg.set _ _)=16;rw[C2,hm.len],?_,?_,?_,?_,?_,?_,hm.ml,hm.mem,hm.rd,hm.out⟩
 .rw[d];exact hm.r0
 .rw[d];exact hm.r15
 .rw[d];exact hm.a
 .rw[d];exact hm.b
 .rw[d];exact hm.t
 .rw[d,l8 rfl,hm.pc,J9 a7]
theorem RB(I:C[c.pc]?=S (24,1,0,0))(h:¬65536<=z c.out):Rn okI C inp D 1 c ⟨c.pc+1,c.a,c.b,c.t,c.l,c.mem,c.rd,c.out++[UInt8.ofNat c.a]⟩:=λm hm=>by
 refine⟨_,?_,λal=>step1 hd hm.fin WR al⟩
 have e:Mach.doM (C.map dP) inp {m with steps:=m.steps+1} 24 1 0 0 = {m with steps:=m.steps+1,out:=m.out++[UInt8.ofNat (m.r 1)],pc:=m.pc+1}:=by
  show (if 65536<=z m.out then _ else {m with steps:=m.steps+1,out:=m.out++[UInt8.ofNat (m.r 1)],pc:=m.pc+1})=_;rw[j8 (by rw[hm.out];exact h)]
 show Ms D _ (Mach.doM (C.map dP) inp {m with steps:=m.steps+1} 24 1 0 0);rw[e];exact⟨hm.fin,by show m.pc+1=_;rw[hm.pc],hm.len,hm.r0,hm.r15,hm.a,hm.b,hm.t,hm.l,hm.ml,hm.mem,hm.rd,by show m.out++[UInt8.ofNat (m.r 1)]=_;rw[hm.out,hm.a]⟩
theorem RC(I:C[c.pc]?=S (24,1,0,0))(h:65536<=z c.out):RE okI C inp D 1 c 4 c.out:=
 xg hd I b9 λm a=>by
  show (if 65536<=z m.out then {m with steps:=m.steps+1,fin:=4}else _)=_;rw[l8 (by rw[a.out];exact h)]
theorem NZ(I:C[c.pc]?=S (26,0,0,0)):RE okI C inp D 1 c 1 c.out:=xg hd I b9 λm a=>rfl
end
end
end
section
open Go.Emit (MI Plan Wr ak dS jR jg eM close co gf whole pg dH kr toC ui eN placesOf bW bq qy nF deepest dk iG)
open Go.Src (CFn)
section
def At(C:List MI)(n:Nat)(l:List MI):Prop:=∀(j:Nat)(x:MI),l[j]?=S x->C[n+j]?=S x
variable{n:Nat}{C l:List MI}
theorem At.app{C l r:List MI}(h:At C n (l++r)):At C n l/\At C (n+z l) r:=by
 refine⟨λj x I=>h j x ?_,λj x I=>?_⟩
 .rw[F0 (l5.1 I).1];exact I
 .rw[C0]
  refine h _ x ?_;rw[D4 a7,show z l+j-z l=j by omega];exact I
theorem At.mk{C a l b:List MI}(h:C=a++(l++b))(c:z a=n):At C n l:=λj x I=>by
 rw[h,D4 a7,show n+j-z a=j by omega,F0 (l5.1 I).1];exact I
theorem At.hd{x:MI}(h:At C n (x::l)):C[n]?=S x:=h 0 x rfl
theorem At.tl{x:MI}(h:At C n (x::l)):At C (n+1) l:=λj y a=>by rw[C0,Sf 1 j];exact h (j+1) y a
def plc(fs:List CFn)(P:Plan)(f:Nat)(x:CFn)(n k:Nat):Nat:=n+z (eM fs P f (bW x) (bq (bW x)) k n).code
section
variable{fs:List CFn}{P:Plan}{ar:Nat}(H:qy fs P ar)(hd:∀(f:Nat)(x:CFn),fs[f]?=S x->P.depths[f]?=S (bq (bW x)))
include H hd
theorem MN{env:Int×Int->Int}:∀k,k<=z fs-1->∀(f:Nat)(x:CFn),fs[f]?=S x->f<k\/f=z fs-1->∃c a b,toC env fs P k=a++(close env (eM fs P f (bW x) (bq (bW x)) (z (bW x))) c++b)/\z a=c/\(pg fs P k).ent[f]?=S (c:Int)/\(pg fs P k).pls[f]?=S (placesOf fs P f (bW x) (bq (bW x)) c)/\(f=z fs-1->c=1)
 |0,_,f,x,I,hf=>by
   obtain rfl:f=z fs-1:=hf.resolve_left a7;have i:=H.n;refine⟨1,[(1,15,0,1)],[],?_,rfl,?_,?_,λ_=>rfl⟩
   .rw[toC,ui,I,hd _ _ I,s7]
   .show (dH fs P _ _).ent[_]?=_
    rw[kr I (hd _ _ I)];simp only[j9,l4,B9,G0,l8 i,B1];rw[l8 a7]
   .show (dH fs P _ _).pls[_]?=_
    rw[kr I (hd _ _ I)];simp only[j9,l4,B9,G0,B1];rw[l8 a7]
 |k+1,q,f,x,I,hf=>by
   obtain⟨y,d⟩:∃y,fs[k]?=S y:=⟨_,v8 a7⟩
   have g:pg fs P (k+1)=_:=kr d (hd _ _ d);have X:=Emit.sX H k a7;have Z:z (toC env fs P k)=z (pg fs P k).code:=by rw[<-Emit.uj H k a7];exact Emit.ku _ _
   by_cases e:f=k
   .subst e
    rw[I]at d;cases d;refine⟨z (pg fs P f).code,toC env fs P f,[],?_,Z,?_,?_,λe=>absurd e a7⟩
    .rw[toC,ui,I,hd _ _ I,s7,Z]
    .rw[g]
     simp only[B9,B1];rw[l8 (by rw[X.el];omega)]
    .rw[g]
     simp only[B9,B1];rw[l8 (by rw[X.pl];omega)]
   .obtain⟨c,a,b,U,j,m,o,p⟩:=MN (env:=env) k a7 f x I a7
    refine⟨c,a,b++ui env fs P k (z (toC env fs P k)),?_,j,?_,?_,p⟩
    .rw[toC,U];simp only[u7]
    .rw[g]
     simp only[B9];rw[j8 (B8 e)];exact m
    .rw[g]
     simp only[B9];rw[j8 (B8 e)];exact o
structure Oa (C:List MI) (env:Int×Int->Int) (fs:List CFn) (P:Plan) (f:Nat) (x:CFn) (en:Nat) (pl:Nat->Nat):Prop where
 head:At C en (close env (jg fs P f) en)/\pl 0=en+(close env (jg fs P f) en).length
 ins:∀(k:Nat)(y:Lower.Ins×Int)(d:Int),(bW x)[k]?=some y->(bq (bW x))[k]?=some d->0<=d->At C (pl k) (close env (jR fs P f d y.1) (pl k))/\pl (k+1)=pl k+(close env (jR fs P f d y.1) (pl k)).length
 mono:∀k,pl k<=pl (k+1)
 ev:∀k,k<(bW x).length->env ((f:Int),(k:Int))=pl k
 ent:env ((f:Int),-1)=en
 le:pl (bW x).length<=C.length
theorem RD{f:Nat}{x:CFn}(I:fs[f]?=S x):∃en pl,Oa (Emit.filled (whole fs P)) (eN (whole fs P)) fs P f x en pl/\(f=z fs-1->en=1):=by
 have J:=H.n;have K:=(l5.1 I).1;obtain⟨c,a,b,U,q,v,w,A⟩:=MN H hd (env:=eN (whole fs P)) (z fs-1) (l7 _) f x I a7;have m:∀k,gf (eM fs P f (bW x) (bq (bW x)) k):=λk=>(H.fits I _ k).inner;have h:gf (jg fs P f):=m 0;rw[<-Emit.DU H]at U;have t:=l6 I
 have hW:∀(k:Nat)(y:Lower.Ins×Int)(d:Int),(bW x)[k]?=S y->gf (jR fs P f d y.1):=λk y d i=>by
  have L:=l6 i;exact(Emit.FR (ar:=ar) (Q:=λ_=>True) (λo X B=>⟨H.p X (l6 B),trivial⟩) λ_=>trivial).inner
 have g:∀j k,k<=j->∃r,close (eN (whole fs P)) (eM fs P f (bW x) (bq (bW x)) j) c=close (eN (whole fs P)) (eM fs P f (bW x) (bq (bW x)) k) c++r:=by
  intro j
  induction j with
  |zero=>
        intro k i;obtain rfl:k=0:=a7;exact⟨[],by rw[s7]⟩
  |succ j E=>
    intro k i;by_cases e:k=j+1
    .subst e;exact⟨[],by rw[s7]⟩
    .obtain⟨r,V⟩:=E k a7
     rw[eM];cases Z:(bW x)[j]? with
     |none=>simp only;rw[co (m j) Emit.kw,V,u7];exact⟨_,rfl⟩
     |some y=>
       cases s:(bq (bW x))[j]? with
       |none=>simp only;rw[co (m j) Emit.kw,V,u7];exact⟨_,rfl⟩
       |some d=>
         simp only;split
         .rw[co (m j) (hW j y d Z),V,u7];exact⟨_,rfl⟩
         .rw[co (m j) Emit.kw,V,u7];exact⟨_,rfl⟩
 refine⟨c,plc fs P f x c,⟨⟨?_,?_⟩,λk y d i s G=>?_,λk=>?_,λk i=>?_,?_,?_⟩,A⟩
 .obtain⟨r,V⟩:=g (z (bW x)) 0 a7
  rw[V]at U;exact(At.mk (U.trans (by rw[u7])) q:At _ c (close _ (eM fs P f (bW x) (bq (bW x)) 0) c))
 .rw[iG];rfl
 .have O:=(l5.1 i).1
  have u:close (eN (whole fs P)) (eM fs P f (bW x) (bq (bW x)) (k+1)) c=close (eN (whole fs P)) (eM fs P f (bW x) (bq (bW x)) k) c++close (eN (whole fs P)) (jR fs P f d y.1) (plc fs P f x c k):=by
   rw[eM,i,s];simp only;rw[l8 G,co (m k) (hW k y d i)];rfl
  refine⟨?_,?_⟩
  .obtain⟨r,V⟩:=g (z (bW x)) (k+1) a7
   rw[V,u]at U;refine At.mk (a:=a++close (eN (whole fs P)) (eM fs P f (bW x) (bq (bW x)) k) c) (b:=r++b) (U.trans (by simp only[u7])) ?_;rw[j7,iG,q];rfl
  .have:=congrArg z u
   rw[j7,iG,iG]at this;unfold plc at this|-;omega
 .unfold plc
  rw[eM];simp only[ak,j7];omega
 .unfold eN
  simp only[Int.natCast_nonneg,B1,B3];rw[show (whole fs P).pls[f]?=_ from w];simp only[A5,placesOf,x8,Qe i,z7];rfl
 .unfold eN
  simp only[show ¬(0:Int)<=-1 by decide,A8,B3];rw[show (whole fs P).ent[f]?=_ from v];rfl
 .have:=congrArg z U
  simp only[j7,iG]at this;unfold plc;omega
end
theorem Ce(n:Nat):∀(l:List (List Int))(k:Nat)(w:Int),∃bk:Nat->Int,bk 0=w/\bk (z l)=(dk n k l w).2.2/\∀(f:Nat)(o:List Int),l[f]?=S o->(dk n k l w).1[f]?=S (bk f)/\(dk n k l w).2.1[f]?=S (if k+f+1=n then bk f else bk f+1)/\bk (f+1)=(if k+f+1=n then bk f else bk f+1)+deepest o 0
 |[],k,w=>⟨λ_=>w,rfl,rfl,λf o h=>by simp at h⟩
 |o::l,k,w=>by
   obtain⟨bk,U,b,c⟩:=Ce n l (k+1) ((if k+1=n then w else w+1)+deepest o 0);refine⟨λf=>match f with|0=>w|f+1=>bk f,rfl,b,λf g a=>?_⟩;cases f with
   |zero=>
     simp at a;subst a;exact⟨rfl,rfl,U⟩
   |succ f=>
     obtain⟨d,e,E⟩:=c f g (by simpa using a);rw[show k+(f+1)+1=k+1+f+1 by omega];exact⟨d,e,E⟩
theorem yF(o:Src.Pl):∀(l:List Src.Fn)(w:Int),∃ft:Nat->Int,ft 0=w/\ft (z l)=(Src.cR o l w).2/\∀(f:Nat)(fn:Src.Fn),l[f]?=S fn->(Src.cR o l w).1[f]?=S (Src.lR o fn (ft f))/\ft (f+1)=ft f+(z fn.params+z fn.locals)
 |[],w=>⟨λ_=>w,rfl,rfl,λf fn h=>by simp at h⟩
 |g::l,w=>by
   obtain⟨ft,U,b,c⟩:=yF o l (w+(z g.params+z g.locals));refine⟨λf=>match f with|0=>w|f+1=>ft f,rfl,b,λf fn a=>?_⟩;cases f with
   |zero=>
     simp at a;subst a;exact⟨rfl,U⟩
   |succ f=>exact c f fn (by simpa using a)
end
end
section
open Go.Emit (MI Plan Wr ak dS jR jg eM close co gf eN bW bq ka deepest iG iw fE dm iu kv kw)
open Go.Src (CFn Prog Fn ab lR ai lP bV jN di aU coreS bA aX eD kj sigs aQ aO aV)
open Go.Lower (Ins Code cE cEs cS cSs cAO jv takes next OkI Good)
section
def iP(fn:Src.Fn)(w:Int):Src.Pl:=lP (w+z fn.params) 0 fn.locals (lP w 0 fn.params [])
def xP(p:Prog)(fn:Src.Fn)(w:Int):CFn:=lR (ai p).1 fn w
structure Lay (okI:Nat->Nat->Nat->Nat->Bool) (p:Prog) (C:List MI) (env:Int×Int->Int) (D:Nat) where
 ft:Nat->Int
 bk:Nat->Int
 bs:Nat->Int
 en:Nat->Nat
 pl:Nat->Nat->Nat
 P:Plan
 snd:aX p=0
 dec:∀x∈C,Dec okI x
 hD:D<=32768
 hC:C.length<=16384
 ft0:ft 0=(ai p).2
 ftn:ft p.funcs.length=bk 0
 bkn:bk p.funcs.length=D
 fs:∀(f:Nat)(fn:Src.Fn),p.funcs[f]?=some fn->(ab p).funcs[f]?=some (xP p fn (ft f))
 at_:∀(f:Nat)(fn:Src.Fn),p.funcs[f]?=some fn->Oa C env (ab p).funcs P f (xP p fn (ft f)) (en f) (pl f)
 fts:∀(f:Nat)(fn:Src.Fn),p.funcs[f]?=some fn->ft (f+1)=ft f+(fn.params.length+fn.locals.length)
 base:∀(f:Nat)(fn:Src.Fn),p.funcs[f]?=some fn->(P.base[f]?).getD 0=bs f/\(P.back[f]?).getD 0=bk f/\bs f=(if f+1=p.funcs.length then bk f else bk f+1)/\bk (f+1)=bs f+deepest (bq (bW (xP p fn (ft f)))) 0
def fO:∀(l:List Int)(d:Int),d<=deepest l d/\∀x∈l,x<=deepest l d
 |[],d=>⟨C5 _,λ_ h=>by cases h⟩
 |a::l,d=>by
   obtain⟨U,b⟩:=fO l (max d a);rw[Emit.qx]
   exact⟨a7,λx I=>by
    rcases A3.1 I with rfl|I
    .omega
    .exact b x I⟩
variable{fn:Src.Fn}{f:Nat}{m:Int->Nat}{x:Ins×Int}
section
variable{okI:Nat->Nat->Nat->Nat->Bool}{p:Prog}{C:List MI}{env:Int×Int->Int}{D:Nat}(Y:Lay okI p C env D)
namespace Lay
def ftm{i j:Nat}(h:i<=j)(b:j<=z p.funcs):Y.ft i<=Y.ft j:=by
 induction h with
 |refl=>exact C5 _
 |@step j h a=>
   have:=a a7;have:=Y.fts j _ (v8 a7);simp only[Nat.succ_eq_add_one];omega
def bks(hf:f<z p.funcs):Y.bk f<=Y.bs f/\Y.bs f<=Y.bk (f+1):=by
 obtain⟨_,_,a,b⟩:=Y.base f _ (v8 hf);have c:=(fO (bq (bW (xP p (p.funcs[f]) (Y.ft f)))) 0).1;split at a<;>omega
def bkm{i j:Nat}(h:i<=j)(b:j<=z p.funcs):Y.bk i<=Y.bk j:=by
 induction h with
 |refl=>exact C5 _
 |@step j h a=>have:=a a7;have:=Y.bks (f:=j) a7;simp only[Nat.succ_eq_add_one];omega
def globs:0<=Y.ft 0:=by
 have V:=(Src.zU Y.snd).1;rw[Y.ft0];unfold ai;simp only;rw[Src.Iu,Src.It];unfold Src.dX at V;simp only[s5,y8]at V
 have:∀m:List (Asm.Str×Int),(∀x∈m,Src.ij x=T)->0<=(m.map (·.2)).sum:=by
  intro m a
  induction m with
  |nil=>simp
  |cons y m c=>
    have U:=c (λX hz=>a X Xi);have b:=a y a8;unfold Src.ij at b;simp only[s5,B4]at b;simp only[l9,D9];omega
 have:=this p.arrays V.2.1;simp only;omega
end Lay
def Lay.cd(f:Nat)(fn:Src.Fn):Lower.Code:=bW (xP p fn (Y.ft f))
def Rch(f:Nat)(fn:Src.Fn)(k:Nat)(d:Int):Prop:=0<=d/\(bq (Y.cd f fn))[k]?=S d
def mid(hf:p.funcs[f]?=S fn):Emit.ue (λk=>((Y.cd f fn)[k]?).map Prod.snd) (Y.cd f fn) (bq (Y.cd f fn)) []/\(bq (Y.cd f fn))[0]?=S 0/\Lower.Good (sigs p.funcs) fn.word (λk=>((Y.cd f fn)[k]?).map Prod.snd) 0 (Y.cd f fn):=by
 obtain⟨b,a⟩:=Emit.rB Y.snd (l6 (Y.fs f fn hf));obtain⟨U,c⟩:=ka (λ_=>rfl) b a;exact⟨U,c,a⟩
variable{Y}
def Rch.dp{f k:Nat}{d:Int}(hf:p.funcs[f]?=S fn)(h:Rch Y f fn k d):Y.bs f+d<=Y.bk (f+1)/\Y.bk (f+1)<=D/\0<=Y.bk f/\Y.bk f<=Y.bs f/\0<=Y.ft f/\Y.ft (f+1)<=Y.bk 0/\Y.bk 0<=Y.bk f/\Y.ft f<=Y.ft (f+1):=by
 have b:=(l5.1 hf).1;obtain⟨_,_,c,g⟩:=Y.base f fn hf;have l:=(fO (bq (bW (xP p fn (Y.ft f)))) 0).2 d (l6 h.2);have n:=Y.bkm (i:=f+1) (j:=z p.funcs) a7 (l7 _);have q:=Y.bkm (i:=0) (j:=f) a7 a7;have r:=Y.ftm (i:=0) (j:=f) a7 a7;have s:=Y.ftm (i:=f+1) (j:=z p.funcs) a7 (l7 _);have o:=Y.globs;have H:=Y.bkn;have e:=Y.ftn;have G:=Y.ftm (i:=f) (j:=f+1) a7 a7;have a:=Y.bks b;omega
def Rch.ins{f k:Nat}{fn:Src.Fn}{d a:Int}{y:Ins}(hf:p.funcs[f]?=S fn)(h:Rch Y f fn k d)(b:(Y.cd f fn)[k]?=S (y,a)):a=d/\At C (Y.pl f k) (close env (jR (ab p).funcs Y.P f d y) (Y.pl f k))/\Y.pl f (k+1)=Y.pl f k+z (close env (jR (ab p).funcs Y.P f d y) (Y.pl f k)):=by
 have c:=(mid Y hf).1;rcases c.inv.2.1 k d h.2 with e|⟨e,_⟩
 .have:=h.1;omega
 .simp only[b,z7,v7]at e
  obtain⟨g,i⟩:=(Y.at_ f fn hf).ins k (y,a) d b h.2 h.1;exact⟨e,g,i⟩
def Rch.nx{f k j:Nat}{d g t q:Int}{y:Ins}(hf:p.funcs[f]?=S fn)(h:Rch Y f fn k d)(i:(Y.cd f fn)[k]?=S (y,g))(s:takes (sigs p.funcs) fn.word y=S (t,q))(n:(j:Int)∈next y k):Rch Y f fn j (d-t+q)/\t<=d:=by
 obtain⟨o,_,v⟩:=mid Y hf;obtain⟨rfl,_,_⟩:=h.ins hf i;obtain⟨A,b,e,J,c,_,r⟩:=Lower.fC v i;rw[s]at e;cases e;rw[C7]at r;obtain⟨l,B,w⟩:=r j n;obtain rfl:l=j:=a7;rcases o.clo k g h.2 h.1 with Z|Z
 .cases Z
 .obtain⟨u,L,a⟩:=Z y g i l n
  rw[B3]at L;rcases o.inv.2.1 l u L with e|⟨e,_⟩
  .omega
  .rw[w]at e
   cases e;exact⟨⟨a,L⟩,c⟩
def Sub(Y:Lay okI p C env D)(f:Nat)(fn:Src.Fn)(n:Nat)(c:Lower.Code):Prop:=∀(j:Nat)(x:Ins×Int),c[j]?=S x->(Y.cd f fn)[n+j]?=S x
def Sub.app{f n:Nat}{a b:Lower.Code}(h:Sub Y f fn n (a++b)):Sub Y f fn n a/\Sub Y f fn (n+z a) b:=by
 refine⟨λj x I=>h j x ?_,λj x I=>?_⟩
 .rw[F0 (l5.1 I).1];exact I
 .rw[C0]
  refine h _ x ?_;rw[D4 a7,show z a+j-z a=j by omega];exact I
def Sub.hd{f n:Nat}{b:Lower.Code}(h:Sub Y f fn n (x::b)):(Y.cd f fn)[n]?=S x:=h 0 x rfl
def Sub.tl{f n:Nat}{b:Lower.Code}(h:Sub Y f fn n (x::b)):Sub Y f fn (n+1) b:=λj y a=>by rw[C0,Sf 1 j];exact h (j+1) y a
structure Rl (p:Prog) (G:Sg) (mem:Int->Nat):Prop where
 v:∀(i:Nat)(x:Nat),G.vars[i]?=some x->mem i=x
 a:∀(i:Nat)(l:List Nat),G.arrs[i]?=some l->∀(j:Nat)(x:Nat),l[j]?=some x->mem (eD p i+j)=x
 vl:G.vars.length=p.vars.length
 al:∀(i:Nat)(l:List Nat),G.arrs[i]?=some l->∃a,p.arrays[i]?=some a/\(l.length:Int)=a.2
def Fr(Y:Lay okI p C env D)(f:Nat)(L:List Nat)(mem:Int->Nat):Prop:=∀(i:Nat)(x:Nat),L[i]?=S x->mem (Y.ft f+i)=x
def Kp(Y:Lay okI p C env D)(f:Nat)(d:Int)(mem b:Int->Nat):Prop:=∀a:Int,(Y.ft f<=a/\a<Y.bk 0)\/(Y.bk f<=a/\a<Y.bs f+d)\/Y.bk (f+1)<=a->b a=mem a
def Ks(Y:Lay okI p C env D)(f:Nat)(mem b:Int->Nat):Prop:=∀a:Int,(Y.ft (f+1)<=a/\a<Y.bk 0)\/(Y.bk f<=a/\a<Y.bs f)\/Y.bk (f+1)<=a->b a=mem a
structure Ste (Y:Lay okI p C env D) (f:Nat) (fn:Src.Fn) (k:Nat) (d:Int) (L:List Nat) (G:Sg) (c:Cf):Prop where
 pc:c.pc=Y.pl f k
 rch:Rch Y f fn k d
 gl:Rl p G c.mem
 fr:Fr Y f L c.mem
 wl:L.length=fn.params.length+fn.locals.length
 rd:c.rd=G.rd
 out:c.out=G.out
def Kp.refl{d:Int}:Kp Y f d m m:=λ_ _=>rfl
def Kp.trans{f:Nat}{d b:Int}{m m1 c:Int->Nat}(U:Kp Y f d m m1)(e:Kp Y f b m1 c)(hd:d<=b):Kp Y f d m c:=λa g=>(e a a7).trans (U a g)
def fA{x y:Int}{v:Nat}(h:y≠x):up m x v y=m y:=j8 h
def pj{x:Int}{v:Nat}:up m x v x=v:=l8 rfl
def qw(hf:p.funcs[f]?=S fn){G:Sg}{mem:Int->Nat}(h:Rl p G mem):(∀(i x:Nat),G.vars[i]?=S x->(i:Int)<Y.ft 0)/\(∀(i:Nat)(l:List Nat),G.arrs[i]?=S l->(z p.vars:Int)<=eD p i/\eD p i+z l<=Y.ft 0/\kj p i=z l):=by
 have V:=(Src.zU Y.snd).1
 have d:∀a∈p.arrays,1<=a.2:=by
  unfold Src.dX at V;simp only[s5,y8]at V;intro a b;have:=V.2.1 a b;exact xc
 have k:Y.ft 0=z p.vars+(p.arrays.map (·.2)).sum:=by
  rw[Y.ft0];unfold ai;simp only;rw[Src.Iu,Src.It];simp
 have n:0<=(p.arrays.map (·.2)).sum:=by
  have:=Y.globs
  have:∀m:List (Asm.Str×Int),(∀x∈m,1<=x.2)->0<=(m.map (·.2)).sum:=by
   intro m g
   induction m with
   |nil=>simp
   |cons y m j=>have U:=j (λX hz=>g X Xi);have o:=g y a8;simp only[l9,D9];omega
  exact this _ d
 refine⟨λi x c=>?_,λi l c=>?_⟩
 .have:=(l5.1 c).1
  have:=h.vl;omega
 .obtain⟨a,b,hl⟩:=h.al i l c
  have:=Src.sF p.arrays i a d b;have e:kj p i=a.2:=by unfold kj;rw[b];rfl
  unfold eD;omega
def Rl.keep(hf:p.funcs[f]?=S fn){G:Sg}{m m':Int->Nat}(h:Rl p G m)(b:∀a,0<=a->a<Y.ft 0->m' a=m a):Rl p G m':=by
 obtain⟨U,e⟩:=qw (Y:=Y) hf h;refine⟨λi x c=>(b _ a7 (U i x c)).trans (h.v i x c),λi l hl j x d=>?_,h.vl,h.al⟩;have:=e i l hl;have:=(l5.1 d).1;exact(b _ a7 a7).trans (h.a i l hl j x d)
def Fr.keep(hf:p.funcs[f]?=S fn){L:List Nat}{m m':Int->Nat}(d:z L=z fn.params+z fn.locals)(h:Fr Y f L m)(c:∀a,Y.ft f<=a->a<Y.ft (f+1)->m' a=m a):Fr Y f L m':=λi x b=>by
 have:=Y.fts f fn hf;have:=(l5.1 b).1;exact(c _ a7 a7).trans (h i x b)
end
end
end
section
open Go.Emit (MI Plan ak dS jR ao aq db cP jA hi16 close co iw fE dm iu kv kw)
open Go.Src (Prog Fn ab sigs)
open Go.Lower (Ins Code takes next)
section
section
variable{okI:Nat->Nat->Nat->Nat->Bool}{p:Prog}{C:List MI}{env:Int×Int->Int}{D:Nat}{Y:Lay okI p C env D}{inp:Asm.Str}{W:Nat}
variable{f:Nat}{fn:Src.Fn}{k g k1:Nat}{d u w:Int}{L:List Nat}{G ad H:Sg}{c c1 c':Cf}
theorem Ste.mv(hf:p.funcs[f]?=S fn)(h:Ste Y f fn k d L G c)(V:Rch Y f fn g u)(n:c'.pc=Y.pl f g)(l:∀a,a<Y.bk 0->c'.mem a=c.mem a)(o:c'.rd=ad.rd)(ho:c'.out=ad.out)(m:ad.vars=G.vars)(b:ad.arrs=G.arrs):Ste Y f fn g u L ad c':=by
 have hd:=h.rch.dp hf;have r:=Y.ftm (i:=0) (j:=f) a7 WO;have e:=h.gl.keep (Y:=Y) (m':=c'.mem) hf λa b q=>l a a7;exact⟨n,V,⟨by rw[m];exact e.v,by rw[b];exact e.a,by rw[m];exact e.vl,by rw[b];exact e.al⟩,h.fr.keep hf h.wl (λa b q=>l a a7),h.wl,o,ho⟩
variable(Y inp W f fn k g d L G c)
def XO(v:Nat)(ad:Sg):Prop:=∃j c',Rn okI C inp D j c c'/\j+Y.pl f k+G.tk*W<=Y.pl f g+ad.tk*W/\Ste Y f fn g (d+1) L ad c'/\c'.mem (Y.bs f+d)=v/\Kp Y f d c.mem c'.mem
def EO(e:Nat)(ad:Sg):Prop:=e=5\/∃j,RE okI C inp D j c e ad.out/\j+Y.pl f k+G.tk*W<=Y.pl f g+ad.tk*W
def XR(r:Rs Nat):Prop:=match r with|.ok v ad=>XO Y inp W f fn k g d L G c v ad|.en e ad=>EO Y inp W f k g G c e ad|.no=>True
def LO(vs:List Nat)(ad:Sg):Prop:=∃j c',Rn okI C inp D j c c'/\j+Y.pl f k+G.tk*W<=Y.pl f g+ad.tk*W/\Ste Y f fn g (d+z vs) L ad c'/\(∀(i:Nat)(v:Nat),vs[i]?=S v->c'.mem (Y.bs f+d+i)=v)/\Kp Y f d c.mem c'.mem
def LR(n:Nat)(r:Rs (List Nat)):Prop:=match r with|.ok vs ad=>LO Y inp W f fn k g d L G c vs ad/\z vs=n|.en e ad=>EO Y inp W f k g G c e ad|.no=>True
variable{Y inp W f fn k g d L G c}
theorem iT(hf:p.funcs[f]?=S fn)(h:k<=g):Y.pl f k<=Y.pl f g:=by
 induction h with
 |refl=>exact l7 _
 |step _ a=>exact C8 a ((Y.at_ f fn hf).mono _)
theorem XO.after{j:Nat}{v:Nat}(U:Rn okI C inp D j c c1)(l:j+Y.pl f k+G.tk*W<=Y.pl f k1+H.tk*W)(a:Kp Y f d c.mem c1.mem)(h:XO Y inp W f fn k1 g d L H c1 v ad):XO Y inp W f fn k g d L G c v ad:=by
 obtain⟨i,c',r,e,s,m,b⟩:=h;exact⟨j+i,c',U.trans r,a7,s,m,a.trans b (C5 _)⟩
theorem EO.after{j e:Nat}(U:Rn okI C inp D j c c1)(a:j+Y.pl f k+G.tk*W<=Y.pl f k1+H.tk*W)(h:EO Y inp W f k1 g H c1 e ad):EO Y inp W f k g G c e ad:=by
 rcases h with h|⟨i,r,h⟩
 .exact .inl h
 .exact .inr ⟨j+i,U.re r,a7⟩
theorem EO.mono{e:Nat}(hf:p.funcs[f]?=S fn)(h:EO Y inp W f k k1 G c e ad)(a:k1<=g):EO Y inp W f k g G c e ad:=by
 rcases h with h|⟨i,r,h⟩
 .exact .inl h
 .exact .inr ⟨i,r,by have:=iT (Y:=Y) hf a;omega⟩
theorem XR.after{j:Nat}{r:Rs Nat}(U:Rn okI C inp D j c c1)(a:j+Y.pl f k+G.tk*W<=Y.pl f k1+H.tk*W)(b:Kp Y f d c.mem c1.mem)(h:XR Y inp W f fn k1 g d L H c1 r):XR Y inp W f fn k g d L G c r:=by
 cases r with
 |ok v i=>exact XO.after U a b h
 |en e i=>exact EO.after U a h
 |no=>trivial
theorem Rch.lt(hf:p.funcs[f]?=S fn)(h:Rch Y f fn k d):k<z (Y.cd f fn):=by
 have:=(l5.1 h.2).1
 rwa [(mid Y hf).1.inv.1]at this
theorem Ste.at_(hf:p.funcs[f]?=S fn)(h:Ste Y f fn k d L G c){y:Ins}(b:(Y.cd f fn)[k]?=S (y,u)){l:List MI}(hl:close env (jR (ab p).funcs Y.P f d y) (Y.pl f k)=l):At C c.pc l/\Y.pl f (k+1)=c.pc+z l:=by
 obtain⟨_,U,a⟩:=h.rch.ins hf b;rw[hl]at U a;rw[h.pc];exact⟨U,a⟩
variable(hf:p.funcs[f]?=S fn)
include hf
theorem XO.mk{j:Nat}(ar:Ste Y f fn k u L G c){t v:Nat}(V:Rn okI C inp D j c c')(i:c'.pc=Y.pl f (k+1))(o:j+Y.pl f k<=Y.pl f (k+1))(b:c'.mem=up c.mem (Y.bs f+d) v)(e1:0<=d)(g:Rch Y f fn (k+1) (d+1))(l:c'.rd=ad.rd)(ho:c'.out=ad.out)(m:ad.vars=G.vars)(e:ad.arrs=G.arrs)(n:ad.tk=G.tk):XO Y inp W f fn k (k+1) d L G c v ad:=by
 have hd:=ar.rch.dp hf;have q:=g.dp hf;refine⟨j,c',V,by rw[n];omega,ar.mv hf g i (λa e=>by rw[b];exact fA a7) l ho m e,by rw[b];exact pj,λa e=>by rw[b];exact fA a7⟩
theorem AM{n:Int}(ar:Ste Y f fn k d L G c)(e:(Y.cd f fn)[k]?=S (⟨1,0,0,n⟩,u))(o:0<=n/\n<4294967296):XO Y inp W f fn k (k+1) d L G c n.toNat G:=by
 obtain⟨b,_⟩:=ar.rch.nx hf e (t:=0) (q:=1) rfl (j:=k+1) WQ;have b:Rch Y f fn (k+1) (d+1):=by rw[show d+1=d-0+1 by omega];exact b
 have hd:=ar.rch.dp hf;have r:=b.dp hf;have hD:=Y.hD;have g:=(Y.base f fn hf).1;have i:=ar.rch.1;by_cases Z:65535<n
 .obtain⟨a,hp⟩:=ar.at_ hf e (l:=[(1,1,0,n%65536),(2,1,0,hi16 n),(17,1,0,Y.bs f+d-0)]) (by
   show close env (ak (jA 1 n) (cP Y.P f d 1 0)) _=_;unfold jA cP;rw[l8 Z,g];rfl)
  have m:hi16 n=n/65536:=by unfold hi16;omega
  refine XO.mk hf ar (t:=0) ((NW Y.dec a.hd).trans ((Rw Y.dec (c:=⟨c.pc+1,_,_,_,_,_,_,_⟩) a.tl.hd).trans (tZ Y.dec (c:=⟨c.pc+1+1,_,_,_,_,_,_,_⟩) a.tl.tl.hd a7 a7))) hp.symm VS ?_ i b ar.rd ar.out rfl rfl rfl;simp only;rw[show Y.bs f+d-0=Y.bs f+d by omega,m,show (n%65536).toNat%65536+(n/65536).toNat*65536=n.toNat by omega]
 .obtain⟨a,hp⟩:=ar.at_ hf e (l:=[(1,1,0,n%65536),(17,1,0,Y.bs f+d-0)]) (by
   show close env (ak (jA 1 n) (cP Y.P f d 1 0)) _=_;unfold jA cP;rw[j8 Z,g];rfl)
  refine XO.mk hf ar (t:=0) ((NW Y.dec a.hd).trans (tZ Y.dec (c:=⟨c.pc+1,_,_,_,_,_,_,_⟩) a.tl.hd a7 a7)) hp.symm VS ?_ i b ar.rd ar.out rfl rfl rfl;simp only;rw[show Y.bs f+d-0=Y.bs f+d by omega,show (n%65536).toNat=n.toNat by omega]
theorem FH{a:Int}(ar:Ste Y f fn k d L G c)(e:(Y.cd f fn)[k]?=S (⟨2,a,0,0⟩,u))(n:0<=a/\a<Y.bk 0):XO Y inp W f fn k (k+1) d L G c (c.mem a) G:=by
 obtain⟨b,_⟩:=ar.rch.nx hf e (t:=0) (q:=1) rfl (j:=k+1) WQ;have b:Rch Y f fn (k+1) (d+1):=by rw[show d+1=d-0+1 by omega];exact b
 have hd:=ar.rch.dp hf;have o:=b.dp hf;have hD:=Y.hD;have i:=(Y.base f fn hf).1;have m:=ar.rch.1
 obtain⟨g,hp⟩:=ar.at_ hf e (l:=[(16,1,0,a),(17,1,0,Y.bs f+d-0)]) (by
  show close env (ak (ao 16 1 0 a) (cP Y.P f d 1 0)) _=_;unfold cP;rw[i];rfl)
 refine XO.mk hf ar (t:=0) ((vu Y.dec g.hd a7 a7).trans (tZ Y.dec (c:=⟨c.pc+1,_,_,_,_,_,_,_⟩) g.tl.hd a7 a7)) hp.symm VS ?_ m b ar.rd ar.out rfl rfl rfl;simp only;rw[show Y.bs f+d-0=Y.bs f+d by omega]
theorem RF(ar:Ste Y f fn k d L G c)(b:(Y.cd f fn)[k]?=S (⟨12,0,0,0⟩,u)):XO Y inp W f fn k (k+1) d L G c (yz inp G.rd) ⟨G.vars,G.arrs,G.out,vV inp G.rd,G.tk⟩:=by
 obtain⟨a,_⟩:=ar.rch.nx hf b (t:=0) (q:=1) rfl (j:=k+1) WQ;have a:Rch Y f fn (k+1) (d+1):=by rw[show d+1=d-0+1 by omega];exact a
 have hd:=ar.rch.dp hf;have m:=a.dp hf;have hD:=Y.hD;have g:=(Y.base f fn hf).1;have i:=ar.rch.1
 obtain⟨e,hp⟩:=ar.at_ hf b (l:=[(23,1,0,0),(17,1,0,Y.bs f+d-0)]) (by
  show close env (ak (ao 23 1 0 0) (cP Y.P f d 1 0)) _=_;unfold cP;rw[g];rfl)
 refine XO.mk hf ar (t:=0) ((Ry Y.dec e.hd).trans (tZ Y.dec (c:=⟨c.pc+1,_,_,_,_,_,_,_⟩) e.tl.hd a7 a7)) hp.symm VS ?_ i a (by show vV inp c.rd=_;rw[ar.rd]) ar.out rfl rfl rfl;simp only;rw[show Y.bs f+d-0=Y.bs f+d by omega,ar.rd]
theorem Cg{x:Nat}(ar:Ste Y f fn k (d+1) L G c)(e:(Y.cd f fn)[k]?=S (⟨7,0,0,0⟩,u))(g:0<=d)(I:c.mem (Y.bs f+d)=x):XO Y inp W f fn k (k+1) d L G c (if x=0 then 1 else 0) G:=by
 obtain⟨a,_⟩:=ar.rch.nx hf e (t:=1) (q:=1) rfl (j:=k+1) WQ;have a:Rch Y f fn (k+1) (d+1):=by rw[show d+1=d+1-1+1 by omega];exact a
 have hd:=ar.rch.dp hf;have hD:=Y.hD;have i:=(Y.base f fn hf).1
 obtain⟨b,hp⟩:=ar.at_ hf e (l:=[(16,1,0,Y.bs f+(d+1)-1),(15,1,1,0),(17,1,0,Y.bs f+(d+1)-1)]) (by
  show close env (ak (db Y.P f (d+1) 1 1) (ak (ao 15 1 1 0) (cP Y.P f (d+1) 1 1))) _=_;unfold cP db;rw[i];rfl)
 refine XO.mk hf ar (t:=0) ((vu Y.dec b.hd a7 a7).trans ((Rx Y.dec (c:=⟨c.pc+1,_,_,_,_,_,_,_⟩) b.tl.hd).trans (tZ Y.dec (c:=⟨c.pc+1+1,_,_,_,_,_,_,_⟩) b.tl.tl.hd a7 a7))) hp.symm VS ?_ g a ar.rd ar.out rfl rfl rfl;simp only;rw[show Y.bs f+(d+1)-1=Y.bs f+d by omega,I]
theorem Vl{op:Int}{x y:Nat}(ar:Ste Y f fn k (d+2) L G c)(e:(Y.cd f fn)[k]?=S (⟨6,op,0,0⟩,u))(i:0<=d)(I:c.mem (Y.bs f+d)=x)(m:c.mem (Y.bs f+(d+1))=y):XR Y inp W f fn k (k+1) d L G c (opV op x y G):=by
 unfold opV;split
 case isFalse=>trivial
 rename_i ho;obtain⟨b,_⟩:=ar.rch.nx hf e (t:=2) (q:=1) rfl (j:=k+1) WQ;have b:Rch Y f fn (k+1) (d+1):=by rw[show d+1=d+2-2+1 by omega];exact b
 have hd:=ar.rch.dp hf;have hD:=Y.hD;have n:=(Y.base f fn hf).1
 obtain⟨a,hp⟩:=ar.at_ hf e (l:=[(16,1,0,Y.bs f+(d+2)-2),(16,2,0,Y.bs f+(d+2)-1),(op,1,1,2),(17,1,0,Y.bs f+(d+2)-2)]) (by
  show close env (ak (db Y.P f (d+2) 1 2) (ak (db Y.P f (d+2) 2 1) (ak (ao op 1 1 2) (cP Y.P f (d+2) 1 2)))) _=_;unfold cP db;rw[n];rfl)
 have r:=(vu (inp:=inp) (D:=D) Y.dec a.hd a7 a7).trans (Ru Y.dec (c:=⟨c.pc+1,_,_,_,_,_,_,_⟩) a.tl.hd a7 a7);simp only[show Y.bs f+(d+2)-2=Y.bs f+d by omega,show Y.bs f+(d+2)-1=Y.bs f+(d+1) by omega,I,m]at r a;cases g:Mach.applyN op.toNat x y with
 |some v=>
   refine XO.mk hf ar (t:=0) (r.trans ((Vh Y.dec (c:=⟨c.pc+1+1,_,_,_,_,_,_,_⟩) a.tl.tl.hd ho.1 g).trans (tZ Y.dec (c:=⟨c.pc+1+1+1,_,_,_,_,_,_,_⟩) a.tl.tl.tl.hd a7 a7))) hp.symm VS rfl i b ar.rd ar.out rfl rfl rfl
 |none=>
   refine .inr ⟨_,r.re (RE.mono (Vi Y.dec (c:=⟨c.pc+1+1,_,_,_,_,_,_,_⟩) a.tl.tl.hd ho.1 g) (l7 1))|>λh=>by rw[<-ar.out];exact h,by have:=ar.pc;simp only[j9,l4]at hp;omega⟩
theorem JO{a b:Int}{x v:Nat}(ar:Ste Y f fn k (d+1) L G c)(m:(Y.cd f fn)[k]?=S (⟨4,a,b,0⟩,u))(n:0<=d)(I:c.mem (Y.bs f+d)=x)(s:0<=a/\a+b<=Y.bk 0):if (x:Int)<b then XO Y inp W f fn k (k+1) d L G c (c.mem (a+x)) G else EO Y inp W f k (k+1) G c 3 G:=by
 obtain⟨g,_⟩:=ar.rch.nx hf m (t:=1) (q:=1) rfl (j:=k+1) WQ;have g:Rch Y f fn (k+1) (d+1):=by rw[show d+1=d+1-1+1 by omega];exact g
 have hd:=ar.rch.dp hf;have hD:=Y.hD;have o:=(Y.base f fn hf).1
 obtain⟨e,hp⟩:=ar.at_ hf m (l:=[(16,1,0,Y.bs f+(d+1)-1),(25,1,0,b),(16,1,1,a),(17,1,0,Y.bs f+(d+1)-1)]) (by
  show close env (ak (db Y.P f (d+1) 1 1) (ak (ao 25 1 0 b) (ak (ao 16 1 1 a) (cP Y.P f (d+1) 1 1)))) _=_;unfold cP db;rw[o];rfl)
 have r:=vu (inp:=inp) (D:=D) Y.dec e.hd a7 a7;simp only[show Y.bs f+(d+1)-1=Y.bs f+d by omega,I]at r e;split
 .rename_i i
  exact XO.mk hf ar (t:=0) (r.trans ((MK Y.dec (c:=⟨c.pc+1,_,_,_,_,_,_,_⟩) e.tl.hd i).trans ((Vb Y.dec (c:=⟨c.pc+1+1,_,_,_,_,_,_,_⟩) e.tl.tl.hd VL a7).trans (tZ Y.dec (c:=⟨c.pc+1+1+1,_,_,_,_,_,_,_⟩) e.tl.tl.tl.hd a7 a7)))) hp.symm VS rfl n g ar.rd ar.out rfl rfl rfl
 .rename_i i
  exact .inr ⟨_,r.re (ML Y.dec (c:=⟨c.pc+1,_,_,_,_,_,_,_⟩) e.tl.hd i)|>λh=>by rw[<-ar.out];exact h,by have:=ar.pc;simp only[j9,l4]at hp;omega⟩
theorem AN{r:Nat}(ar:Ste Y f fn k d L G c)(e:(Y.cd f fn)[k]?=S (⟨8,(r:Nat),0,0⟩,u)):∃c',Rn okI C inp D 1 c c'/\1+Y.pl f k=Y.pl f (k+1)/\Ste Y f fn r d L G c'/\c'.mem=c.mem:=by
 obtain⟨b,_⟩:=ar.rch.nx hf e (t:=0) (q:=0) rfl (j:=r) WQ;have b:Rch Y f fn r d:=by rw[show d=d-0+0 by omega];exact b
 obtain⟨g,i⟩:=ar.at_ hf e (l:=[(18,0,0,env ((f:Int),(r:Int)))]) (by
  show close env (aq 18 0 f r) _=_;rw[iw])
 have m:=(Y.at_ f fn hf).ev r (b.lt hf);rw[m]at g;refine⟨_,Rz Y.dec g.hd,by have:=ar.pc;simp only[j9,l4]at i;omega,ar.mv hf b (B3 _) (λa _=>rfl) ar.rd ar.out rfl rfl,rfl⟩
theorem xh{r x:Nat}(ar:Ste Y f fn k (d+1) L G c)(e:(Y.cd f fn)[k]?=S (⟨9,(r:Nat),0,0⟩,u))(y:0<=d)(I:c.mem (Y.bs f+d)=x):∃c',Rn okI C inp D 2 c c'/\2+Y.pl f k=Y.pl f (k+1)/\Ste Y f fn (if x=0 then r else k+1) d L G c'/\c'.mem=c.mem:=by
 obtain⟨g,_⟩:=ar.rch.nx hf e (t:=1) (q:=0) rfl (j:=if x=0 then r else k+1) (by by_cases n:x=0<;>simp[next,n]);have b:=(ar.rch.nx hf e (t:=1) (q:=0) rfl (j:=r) WQ).1;have g:Rch Y f fn (if x=0 then r else k+1) d:=by rw[show d=d+1-1+0 by omega];exact g
 have hd:=ar.rch.dp hf;have hD:=Y.hD;have s:=(Y.base f fn hf).1
 obtain⟨i,v⟩:=ar.at_ hf e (l:=[(16,1,0,Y.bs f+(d+1)-1),(19,1,0,env ((f:Int),(r:Int)))]) (by
  show close env (ak (db Y.P f (d+1) 1 1) (aq 19 1 f r)) _=_;unfold db;rw[s,co dm iu,fE,iw];rfl)
 have w:=(Y.at_ f fn hf).ev r (b.lt hf);rw[w,show Y.bs f+(d+1)-1=Y.bs f+d by omega]at i;have m:=vu (inp:=inp) (D:=D) Y.dec i.hd a7 a7;rw[I]at m;have o:=ar.pc;simp only[j9,l4]at v;refine⟨_,m.trans (Vk Y.dec (c:=⟨c.pc+1,_,_,_,_,_,_,_⟩) i.tl.hd),a7,ar.mv hf g ?_ (λa _=>rfl) ar.rd ar.out rfl rfl,rfl⟩;simp only[B3];split
 .rfl
 .omega
end
end
end
end Go.Mn

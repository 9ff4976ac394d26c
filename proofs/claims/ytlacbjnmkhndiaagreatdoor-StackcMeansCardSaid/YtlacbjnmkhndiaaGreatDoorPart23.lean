/- A part of the proof; no conditions. -/
import Derived.Test.YtlacbjnmkhndiaaGreatDoorPart22
set_option linter.unusedSimpArgs false
set_option linter.unusedVariables false
set_option linter.defProp false
open List renaming length -> z
open Option renaming some -> S, none -> N
open Bool renaming true -> T, false -> F
set_option maxHeartbeats 64000000
set_option maxRecDepth 100000
namespace Go.Proofs.YtlacbjnmkhndiaaGreatDoor.Low
section
open Go Go.Am Go.Lower
open Go.Src (cnE ph cnS mZ ab aX)
mutual
theorem Hb:∀e:Ex,lL e+1=cnE e
 |.mk _ _ _ _ _ kids=>by rw[lL,cnE,rJ kids]
theorem rJ:∀l:List Ex,iy l=ph l
 |[]=>by rw[iy,ph]
 |e::l=>by rw[iy,ph,<-Hb e,rJ l];omega
end
mutual
theorem Hc:∀e:Stm,mO e+1=cnS e
 |.mk _ _ _ e a el=>by rw[mO,cnS,rJ e,oO a,oO el]
theorem oO:∀l:List Stm,eJ l=mZ l
 |[]=>by rw[eJ,mZ]
 |e::l=>by rw[eJ,mZ,<-Hc e,oO l];omega
end
def su(l:List Src.Fn):(l.map λf=>Src.aD f.body).sum<=(l.map λf=>z f.params+z f.locals+Src.aD f.body).sum:=by
 induction l with
 |nil=>exact l7 _
 |cons a l b=>simp only[l9,D9];omega
def KI{p:Src.Prog}(h:aX p=0)(az:szP p<=1000000):ax Tryz.prog 22 [pp (ab p)] (·=iX (ab p).words (ab p).funcs):=by
 unfold szP at az;have a:=Src.zX (Src.ai p).1 p.funcs (Src.ai p).2;have bl:=su p.funcs;have e:((ab p).funcs.map λx=>mZ x.body).sum<=1000000:=by unfold ab;simp only;omega
 refine OE (ps:=Src.sigs p.funcs) ?_ ?_ ?_ (λk x I=>Src.BL h I)
 .unfold wn
  rw[show (λx:Src.CFn=>eJ x.body)=λx=>mZ x.body from funext λx=>oO x.body];omega
 .rw[Src.kN]
  omega
 .intro x I
  have U:=Src.QD x.word x.body;have b:=Src.LT (λx:Src.CFn=>mZ x.body) I;omega
end
section
attribute [local congr] Go.Am.ite_cc
open Go Go.Am Go.Lower
section
variable{x:Ins}
def zj{ps:Sig}{word:Bool}{r:Int×Int}(h:takes ps word x=S r):x.op=1\/x.op=2\/x.op=3\/x.op=4\/x.op=5\/x.op=6\/x.op=7\/x.op=8\/x.op=9\/x.op=10\/x.op=11\/x.op=12\/x.op=13:=by
 unfold takes at h;by_cases U:x.op=1\/x.op=2\/x.op=12
 .omega
 exact p9
def ksD(l:List Int):D:=.sl (l.map λk=>[.int .i64 k])
def OF{at':Nat}(p:at'<=1000000000):ax Tryz.prog 115 [.agg ((bE x).map .d),iv .i64 at'] (·=.one (.d (ksD (next x at')))):=by
 refine hdP Tryz.func115 rfl [4] λg=>?_;obtain⟨op,a,b,n⟩:=x;have o:=ac (k:=at') a7;by_cases j:op=8
 .subst j
  simp only[go_sem,bE];exact⟨_,⟨_,dN (s:=⟨_,_,_⟩) rfl [a] (λk=>[.int .i64 k]) (by simp only[upd];rfl) rfl (λ_ _ y i=>by simp at i;subst i;rfl) (λ_ _=>rfl) rfl,rfl⟩,rfl⟩
 by_cases l:op=9
 .subst l
  simp only[go_sem,bE,o];exact⟨_,⟨_,dN (s:=⟨_,_,_⟩) rfl [((at'+1:Nat):Int),a] (λk=>[.int .i64 k]) (by simp only[upd];rfl) rfl (λ_ _ y i=>by simp at i;subst i;rfl) (λ_ _=>rfl) rfl,rfl⟩,rfl⟩
 by_cases H:op=11
 .subst H
  simp only[go_sem,bE];rfl
 .simp only[go_sem,bE,j,l,H,o]
  have e:next ⟨op,a,b,n⟩ at'=[((at'+1:Nat):Int)]:=by simp[next,j,l,H]
  rw[e];exact⟨_,⟨_,dN (s:=⟨_,_,_⟩) rfl [((at'+1:Nat):Int)] (λk=>[.int .i64 k]) (by simp only[upd];rfl) rfl (λ_ _ y i=>by simp at i;subst i;rfl) (λ_ _=>rfl) rfl,rfl⟩,rfl⟩
def KJ(fs:List Src.CFn):Sig:=fs.map λx=>(x.params,x.word)
def ta(b:Bool):ax Tryz.prog 174 [bv b] (·=iv .i64 (if b then 1 else 0)):=by
 refine hdP Tryz.func174 rfl [2] λg=>?_;cases b<;>(simp only[go_sem])
def Hd{w:Int}{fs:List Src.CFn}{f:Nat}{W:Src.CFn}(hf:fs[f]?=S W){t p d:Int}(h:takes (KJ fs) W.word x=S (t,p))(G:0<=t)(c:t<=d)(hd:d<=1000000000)(H:x.op=11->d=t):
  ax Tryz.prog 114 [iX w fs,iv .i64 f,.agg ((bE x).map .d),iv .i64 d] (·=.tup [iv .i64 (if x.op=11 then 0 else d-t+p),bv T]):=by
 refine hdP Tryz.func114 rfl [8,9] λg=>?_;have u:=zj h;obtain⟨op,a,b,n⟩:=x;have A:f<z fs:=(l5.1 hf).1;unfold iX;simp only at u H;have j:IntKind.i64.wrap (d-t)=d-t:=by rw[wrap_i64]<;>omega
 have e:IntKind.i64.wrap (d-t+0)=d-t+0:=by rw[wrap_i64]<;>omega
 have i:IntKind.i64.wrap (d-t+1)=d-t+1:=by rw[wrap_i64]<;>omega
 rcases u with rfl|rfl|rfl|rfl|rfl|rfl|rfl|rfl|rfl|rfl|rfl|rfl|rfl
 all_goals try (obtain⟨rfl,rfl⟩:_=t/\_=p:=by simpa[takes]using h)
 .simp only[go_sem,bE,j,e,i,c]
 .simp only[go_sem,bE,j,e,i,c]
 .simp only[go_sem,bE,j,e,i,c]
 .simp only[go_sem,bE,j,e,i,c]
 .simp only[go_sem,bE,j,e,i,c]
 .simp only[go_sem,bE,j,e,i,c]
 .simp only[go_sem,bE,j,e,i,c]
 .simp only[go_sem,bE,j,e,i,c]
 .simp only[go_sem,bE,j,e,i,c]
 .by_cases o:a<0
  .simp[takes,o]at h
  .obtain⟨k,rfl⟩:∃k:Nat,a=(k:Int):=⟨a.toNat,a7⟩
   simp only[takes,KJ,o,A8,B3,x8,Option.map_map]at h;cases l:fs[k]? with
   |none=>simp[l]at h
   |some y=>
     have r:k<z fs:=(l5.1 l).1;have K:¬z fs<=k:=a7;have al:(k:Int)<(z fs:Int):=a7;have s:¬(z fs:Int)<=(k:Int):=a7;have v:(0:Int)<=(k:Int):=a7;cases hw:y.word with
     |false=>
       obtain⟨rfl,rfl⟩:y.params=t/\(0:Int)=p:=by simpa[l,hw]using h
       have q:¬y.params<0:=a7;simp only[go_sem,bE,l,r,K,al,s,v,o,hw,sfD,j6,q];refine cO aA mixed c8 ?_;simp only[go_sem,bE,l,r,K,al,s,v,o,hw,sfD,j6,q];refine aP rfl (ta F) (ci rfl) rfl ?_;simp only[go_sem,bE,l,r,K,al,s,v,o,hw,sfD,j6,q,j,e,c,D7]
     |true=>
       obtain⟨rfl,rfl⟩:y.params=t/\(1:Int)=p:=by simpa[l,hw]using h
       have q:¬y.params<0:=a7;simp only[go_sem,bE,l,r,K,al,s,v,o,hw,sfD,j6,q];refine cO aA mixed c8 ?_;simp only[go_sem,bE,l,r,K,al,s,v,o,hw,sfD,j6,q];refine aP rfl (ta T) (ci rfl) rfl ?_;simp only[go_sem,bE,l,r,K,al,s,v,o,hw,sfD,j6,q,j,i,c]
 .have B:=H rfl
  have E:(0:Int)<=(f:Int):=a7;have az:(f:Int)<(z fs:Int):=a7;cases hw:W.word with
  |false=>
    obtain⟨rfl,rfl⟩:(0:Int)=t/\(0:Int)=p:=by simpa[takes,hw]using h
    simp only[go_sem,bE,hf,E,az,A,sfD,j6,hw];refine fD rfl (ta F) j0 ?_;rintro _ rfl;simp only[go_sem,w8 B,D7]
  |true=>
    obtain⟨rfl,rfl⟩:(1:Int)=t/\(0:Int)=p:=by simpa[takes,hw]using h
    simp only[go_sem,bE,hf,E,az,A,sfD,j6,hw];refine fD rfl (ta T) j0 ?_;rintro _ rfl;simp only[go_sem,w8 B]
 .simp only[go_sem,bE,j,e,i,c]
 .simp only[go_sem,bE,j,e,i,c]
end
section
def icells(l:List Int):List C:=l.map λk=>.d (.int .i64 k)
def ct(l:List Int):z (icells l)=z l:=by simp[icells]
def iz(l:List Int)(k:Nat):(icells l)[k]?=(l[k]?).map λk=>.d (.int .i64 k):=by simp[icells]
def iA(l:List Int)(k:Nat)(v:Int):(icells l).set k (.d (.int .i64 v))=icells (l.set k v):=by simp[icells,Mu]
def kJ(a b:List Int):icells (a++b)=icells a++icells b:=by simp[icells]
structure sw (E D:Nat) (l:List Int) (g:Nat->Nat) (ob:Obs):Prop where
 t:ob E=some [.osl D (g D) 1 0 l.length]
 d:∃r:List Int,ob D=some (icells (l++r))
variable{l:List Int}{B E D:Nat}{g:Nat->Nat}{ob:Obs}{p:Nat}
def OG(hB:∀i,B<=i->ob i=N)(hT:E<B)(h:sw E D l g ob)(m:g E=p):
  cM Tryz.prog 112 [.one (.ptr E p 0)] g ob (λr g' Y=>g'=g/\Y=ob/\r=iv .i64 (z l)) (λ_ _ _=>False):=by
 refine hdM B [] Tryz.func112 rfl [.tmp 2] a8 hB λO bn s0 w0=>?_;obtain⟨U,r,a⟩:=h;simp only[go_sem,U,a,m,ct,j7];refine⟨_,ae.refl _,?_⟩;simp only[go_sem];exact bi.nil (λi b=>⟨rfl,rfl⟩) (o:=[iv .i64 (z l)]) ⟨_,_,rfl,.one (.d _),rfl⟩ ⟨rfl,rfl,rfl⟩
def Bi{B:Nat}:∀c∈icells l,kQ B c:=λc Z=>by
 obtain⟨x,_,rfl⟩:=E3.1 Z;trivial
def He{x:Int}(hB:∀i,B<=i->ob i=N)(hT:E<B)(hD:D<B)(a:E≠D)(h:sw E D l g ob)(m:g E=p)(hl:z l<=1000000000):
  cM Tryz.prog 111 [.one (.ptr E p 0),iv .i64 x] g ob (λ_ g' Y=>sw E D (l++[x]) g' Y/\(∀i,i≠D->g' i=g i)/\∀i,i≠E->i≠D->Y i=ob i) (λ_ _ _=>False):=by
 refine hdM B [E,D] Tryz.func111 rfl [] VC hB λO bn s0 w0=>?_;obtain⟨U,r,j⟩:=h;have n:∀k,(E=B+k)=False:=λk=>by simp;omega
 have o:∀k,(D=B+k)=False:=λk=>by simp;omega
 have q:(E=D)=False:=by simp[a]
 have b:(D=E)=False:=by simp[B8 a]
 simp only[go_sem,n,o,q,b,U,j,m,ct,j7,aW];refine⟨a7,⟨b9,a7⟩,?_⟩;refine⟨_,ae.refl _,?_⟩;simp only[go_sem];refine⟨⟨λi hi hn=>?_,λi hi d Z=>?_⟩,[],rfl,⟨?_,?_⟩,λi hi=>?_,λi hi y=>?_⟩
 .have U:i≠E:=λe=>hn WY
  have j:i≠D:=λe=>hn WY;exact⟨nu,nu⟩
 .simp only[A3,A9,E6]at hi
  rcases hi with rfl|rfl
  .simp[upd]at Z
   subst Z;intro c Z;rw[E0.1 Z];exact hD
  .simp[upd,b]at Z
   subst Z;intro c Z;rcases C4.1 Z with Z|Z
   .exact Bi c (M9 Z)
   .rw[E0.1 Z];trivial
 .simp[je,eY,upd]
 .refine⟨[],?_⟩
  simp[eY,upd,b];rw[kJ];simp[icells]
 .exact SJ
 .unfold eY
  rw[j8 (by simp[hi,y])]
def Ti{x:Int}(hB:∀i,B<=i->ob i=N)(hT:E<B)(hD:D<B)(a:E≠D)(h:sw E D (l++[x]) g ob)(m:g E=p)(hl:z l<=1000000000):
  cM Tryz.prog 113 [.one (.ptr E p 0)] g ob (λr g' Y=>r=iv .i64 x/\sw E D l g' Y/\g'=g/\∀i,i≠E->Y i=ob i) (λ_ _ _=>False):=by
 refine hdM B [E] Tryz.func113 rfl [.tmp 2] VC hB λO bn s0 w0=>?_;obtain⟨U,r,n⟩:=h;have q:∀k,(E=B+k)=False:=λk=>by simp;omega
 have s:(E=D)=False:=by simp[a]
 have o:(D=E)=False:=by simp[B8 a]
 have t:z (l++[x])=z l+1:=a8;rw[t]at U;have u:IntKind.i64.wrap (((z l+1:Nat):Int)-1)=(z l:Int):=by rw[wrap_i64]<;>omega
 have v:(l++[x]++r)[z l]?=S x:=a8;have w:(0:Int)<=(z l:Int):=a7;simp only[go_sem,q,s,o,U,n,m,ct,j7,u,iz,v,w];refine⟨a7,a7,a7,?_⟩;refine⟨_,ae.refl _,?_⟩;simp only[go_sem];refine⟨⟨λi b hn=>?_,λi b j Z=>?_⟩,[iv .i64 x],⟨_,_,rfl,.one (.d _),rfl⟩,rfl,⟨?_,x::r,?_⟩,xq (λi b=>rfl),λi b=>?_⟩
 .have U:i≠E:=λe=>hn WY
  exact⟨nu,nu⟩
 .simp only[A3,A9,E6]at b
  subst b;simp[upd]at Z;subst Z;intro c Z;rw[E0.1 Z];exact hD
 .rw[xq (λi b=>rfl)]
  simp[eY,upd]
 .simp only[eY,A3,A9,E6,o,A8]
  rw[n];simp
 .simp[eY,b]
end
end
end Go.Proofs.YtlacbjnmkhndiaaGreatDoor.Low
namespace Go.Emit
section
open Go.Lower (Ins Code codeOf takes next Inv left)
section
def visit(A:Lower.Code):List Int->List Int×List Nat->List Int×List Nat
 |[],st=>st
 |y::l,st=>visit A l (if (st.1[y.toNat]?.getD 0)<0 then(st.1.set y.toNat (((A[y.toNat]?).map Prod.snd).getD 0),st.2++[y.toNat])else st)
def search(A:Lower.Code):Nat->List Int×List Nat->List Int
 |0,st=>st.1
 |n+1,st=>match st.2.getLast? with
   |none=>st.1
   |some a=>match A[a]? with
     |none=>st.1
     |some x=>search A n (visit A (next x.1 a) (st.1,st.2.dropLast))
def bq(A:Lower.Code):List Int:=search A (z A) ((List.replicate (z A) (-1)).set 0 0,[0])
def AO(A:Lower.Code)(n:Nat)(out:List Int):search A n (out,[])=out:=by cases n<;>rfl
def yG(A:Lower.Code)(n:Nat)(out:List Int)(c:List Nat)(a:Nat){x:Ins×Int}(h:A[a]?=S x):search A (n+1) (out,c++[a])=search A n (visit A (next x.1 a) (out,c)):=by
 simp only[search,List.getLast?_append,List.getLast?_singleton,Option.some_or,h,List.dropLast_concat]
variable{l:List Int}{out:List Int}{c:List Nat}
def ua{A:Lower.Code}{y:Int}{u d:Int}(h:out[y.toNat]?=S u)(L:u<0)(hd:(A[y.toNat]?).map Prod.snd=S d):visit A (y::l) (out,c)=visit A l (out.set y.toNat d,c++[y.toNat]):=by
 simp only[visit,h,hd,A5,L,B1]
def ub{A:Lower.Code}{y:Int}{u:Int}(h:out[y.toNat]?=S u)(L:¬u<0):visit A (y::l) (out,c)=visit A l (out,c):=by
 simp only[visit,h,A5,L,A8]
def deepest(l:List Int)(d:Int):Int:=l.foldl max d
def qx(a:Int)(l:List Int)(d:Int):deepest (a::l) d=deepest l (max d a):=rfl
def dk(n:Nat):Nat->List (List Int)->Int->List Int×List Int×Int
 |_,[],w=>([],[],w)
 |k,o::l,w=>
   let b:=if k+1=n then w else w+1
   let r:=dk n (k+1) l (b+deepest o 0)
   (w::r.1,b::r.2.1,r.2.2)
structure Plan where
 depths:List (List Int)
 back:List Int
 base:List Int
 data:Int
def cK(w:Int)(fs:List Src.CFn):Plan:=
 let ds:=fs.map λx=>bq (codeOf x.word x.body)
 let r:=dk (z fs) 0 ds w
 ⟨ds,r.1,r.2.1,r.2.2⟩
def yH(n:Nat):∀(l:List (List Int))(k:Nat)(w:Int)(o:List Int),dk n k (l++[o]) w =
  let r:=dk n k l w
  let b:=if k+z l+1=n then r.2.2 else r.2.2+1
  (r.1++[r.2.2],r.2.1++[b],b+deepest o 0)
 |[],k,w,o=>by simp[dk]
 |a::l,k,w,o=>by
   simp only[C3,dk,yH n l,j9];rw[show k+1+z l+1=k+(z l+1)+1 by omega]
def uc(n:Nat):∀(l:List (List Int))(k:Nat)(w:Int),z (dk n k l w).1=z l/\z (dk n k l w).2.1=z l
 |[],k,w=>by simp[dk]
 |a::l,k,w=>by
   simp only[dk,j9];exact⟨by rw[(uc n l _ _).1],by rw[(uc n l _ _).2]⟩
abbrev MI:=Int×Int×Int×Int
abbrev Ho:=Int×Int×Int
structure Wr where
 code:List MI
 holes:List Ho
def dS:Nat->Wr:=λ_=>⟨[],[]⟩
def ao(op a b c:Int):Nat->Wr:=λ_=>⟨[(op,a,b,c)],[]⟩
def aq(op a f pl:Int):Nat->Wr:=λn=>⟨[(op,a,0,0)],[((n:Int),f,pl)]⟩
def ak(x y:Nat->Wr):Nat->Wr:=λn=>⟨(x n).code++(y (n+z (x n).code)).code,(x n).holes++(y (n+z (x n).code)).holes⟩
def ru:List (Nat->Wr)->Nat->Wr
 |[]=>dS
 |[x]=>x
 |x::y::l=>ak x (ru (y::l))
def db(P:Plan)(f:Nat)(V reg a:Int):Nat->Wr:=ao 16 reg 0 ((P.base[f]?).getD 0+V-a)
def cP(P:Plan)(f:Nat)(V reg a:Int):Nat->Wr:=ao 17 reg 0 ((P.base[f]?).getD 0+V-a)
def hi16(n:Int):Int:=(n/65536+9223372036854775808)%18446744073709551616-9223372036854775808
def jA(reg n:Int):Nat->Wr:=if 65535<n then ak (ao 1 reg 0 (n%65536)) (ao 2 reg 0 (hi16 n))else ao 1 reg 0 (n%65536)
def jQ(fs:List Src.CFn)(P:Plan)(f:Nat)(V:Int):Nat->Wr:=
 if f+1=z fs then ao 26 0 0 0
 else
  let back:=ak (ao 16 14 0 ((P.back[f]?).getD 0)) (ao 22 14 0 0)
  if ((fs[f]?).map (·.word)).getD F then ak (db P f V 1 1) back else back
def iU(a:Int):Nat->Nat->Wr
 |0=>dS
 |k+1=>ak (iU a k) (ao 17 0 0 (a+k))
def iq(a b:Int):Nat->Wr:=
 if b-a<=6 then iU a (b-a).toNat
 else λn=>⟨[(1,1,0,a),(1,2,0,b),(17,0,1,0),(4,1,1,15),(14,3,1,2),(20,3,0,(n:Int)+2)],[]⟩
def kE(P:Plan)(f:Nat)(V params first:Int):Nat->Nat->Wr
 |0=>dS
 |k+1=>ak (kE P f V params first k) (ak (db P f V 1 (params-k)) (ao 17 1 0 (first+k)))
def sq(fs:List Src.CFn)(P:Plan)(f:Nat)(V a:Int):Nat->Wr:=
 match fs[a.toNat]? with
 |none=>dS
 |some y=>ak (kE P f V y.params y.first y.params.toNat) (ak (aq 21 14 a (-1)) (if y.word then cP P f V 1 y.params else dS))
def jR(fs:List Src.CFn)(P:Plan)(f:Nat)(V:Int)(x:Ins):Nat->Wr:=
 if x.op=1 then ak (jA 1 x.n) (cP P f V 1 0)
 else if x.op=2 then ak (ao 16 1 0 x.a) (cP P f V 1 0)
 else if x.op=3 then ak (db P f V 1 1) (ao 17 1 0 x.a)
 else if x.op=4 then ak (db P f V 1 1) (ak (ao 25 1 0 x.b) (ak (ao 16 1 1 x.a) (cP P f V 1 1)))
 else if x.op=5 then ak (db P f V 1 2) (ak (ao 25 1 0 x.b) (ak (db P f V 2 1) (ao 17 2 1 x.a)))
 else if x.op=6 then ak (db P f V 1 2) (ak (db P f V 2 1) (ak (ao x.a 1 1 2) (cP P f V 1 2)))
 else if x.op=7 then ak (db P f V 1 1) (ak (ao 15 1 1 0) (cP P f V 1 1))
 else if x.op=8 then aq 18 0 f x.a
 else if x.op=9 then ak (db P f V 1 1) (aq 19 1 f x.a)
 else if x.op=10 then sq fs P f V x.a
 else if x.op=11 then jQ fs P f V
 else if x.op=12 then ak (ao 23 1 0 0) (cP P f V 1 0)
 else if x.op=13 then ak (db P f V 1 1) (ao 24 1 0 0)
 else dS
def jg(fs:List Src.CFn)(P:Plan)(f:Nat):Nat->Wr:=
 if f+1=z fs then dS
 else match fs[f]? with
  |none=>dS
  |some y=>ak (ao 17 14 0 ((P.back[f]?).getD 0)) (iq (y.first+y.params) (y.first+y.slots))
def eM(fs:List Src.CFn)(P:Plan)(f:Nat)(A:Lower.Code)(ds:List Int):Nat->Nat->Wr
 |0=>jg fs P f
 | k+1=>ak (eM fs P f A ds k) (match A[k]?,ds[k]? with
   |some x,S d=>if 0<=d then jR fs P f d x.1 else dS
   | _,_=>dS)
def placesOf(fs:List Src.CFn)(P:Plan)(f:Nat)(A:Lower.Code)(ds:List Int)(n:Nat):List Int:=
 (List.range (z A)).map λk=>((n+z (eM fs P f A ds k n).code:Nat):Int)
structure fZ where
 code:List MI
 holes:List Ho
 ent:List Int
 pls:List (List Int)
def dH(fs:List Src.CFn)(P:Plan)(d:fZ)(f:Nat):fZ:=
 match fs[f]?,P.depths[f]? with
 |some y,S ds=>
   let A:=codeOf y.word y.body
   let w:=eM fs P f A ds (z A) (z d.code)
   ⟨d.code++w.code,d.holes++w.holes,d.ent.set f (z d.code),d.pls.set f (placesOf fs P f A ds (z d.code))⟩
 |_,_=>d
def start(fs:List Src.CFn)(P:Plan):fZ:=dH fs P ⟨[(1,15,0,1)],[],List.replicate (z fs) 0,List.replicate (z fs) []⟩ (z fs-1)
def pg(fs:List Src.CFn)(P:Plan):Nat->fZ
 |0=>start fs P
 |k+1=>dH fs P (pg fs P k) k
def whole(fs:List Src.CFn)(P:Plan):fZ:=pg fs P (z fs-1)
def place(d:fZ)(h:Ho):Int:=if 0<=h.2.2 then(((d.pls[h.2.1.toNat]?).getD [])[h.2.2.toNat]?).getD 0 else(d.ent[h.2.1.toNat]?).getD 0
def fill(d:fZ)(code:List MI)(h:Ho):List MI:=
 match code[h.1.toNat]? with
 |some x=>code.set h.1.toNat (x.1,x.2.1,x.2.2.1,place d h)
 |none=>code
def filled(d:fZ):List MI:=d.holes.foldl (fill d) d.code
end
end
end Go.Emit

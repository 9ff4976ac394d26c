/- A part; no conditions. -/
import Derived.Test.YtfdbpgoicedpcaaGreatDoorPart7
set_option linter.all false
open List renaming length -> z
open Option renaming some -> S, none -> N
open Bool renaming true -> T, false -> F
set_option maxHeartbeats 64000000
set_option maxRecDepth 100000
namespace Go.Src
section
open Go.Asm (Str)
def PR.In{H:Type}(L n:Nat)(p:PR H):Prop:=∀a m,p=.ok a m->m<=max n L
def PR.bind_in{H β}{L n}{p:PR H}{f:H->Nat->PR β}(h:p.In L n)(d:∀a m,(f a m).In L m):(p.bind f).In L n:=by intro b m c;cases p with|ok a k=>have U:=h a k rfl;have Z:=d a k b m c;omega;|no k=>cases c
variable{k n:Nat}{H:Type}
def PR.in_ok{L n m}{a:H}(h:m<=max n L):(PR.ok a m).In L n:=λb k e=>by grind
def PR.in_no{L n m}:(PR.no m:PR H).In L n:=λ_ _ e=>by cases e
def PR.In.up{L n}{p:PR H}(h:p.In L (n+1))(b:n<L):p.In L n:=λa m e=>by have:=h a m e;omega
def PR.in_here{L n}{a:H}:(PR.ok a n).In L n:=PR.in_ok a7
variable{A:List Tok}
def eE{n}{s}(h:aM A n=s)(a:s≠[]):n<z A:=by grind[aM]
def mE:(takeN A k n).In (z A) n:=by intro a m h;grind[takeN]
def dR:∀{l:List Str}{n},(∀s∈l,s≠[])->(bj A l n).In (z A) n
 |[],n,_=>PR.in_here|s::l,n,h=>by
  unfold bj;split;.rename_i a;exact(dR (λx I=>h x aby)).up (eE a (h s b9))
  .exact PR.in_no
mutual
theorem kf:∀(k r n:Nat),(dW A k r n).In (z A) n
 |0,_,_=>by unfold dW;exact PR.in_no
 |k+1,r,n=>by
   unfold dW;exact PR.bind_in (FF k n) λa m=>FE k r a m
theorem FE:∀(k r:Nat)(left:Ex)(n:Nat),(jx A k r left n).In (z A) n
 |0,_,_,_=>by unfold jx;exact PR.in_no
 |k+1,r,left,n=>by
   unfold jx;split
   .exact PR.in_here
   .rename_i h
    by_cases f:n<z A
    .exact(PR.bind_in (kf k _ (n+1)) λb q=>FE k r _ q).up f
    .intro a m e
     have U:=PR.bind_fwdE (iG (A:=A) k ((tt (aM A n)).2.2+1) (n+1)).le (λb q=>wH k r _ q) a m e;exfalso
     have g:∀(k r n:Nat),z A<=n->∃q,dW A k r n=.no q:=by
      intro k r n hl;cases k with
      |zero=>exact⟨n,by unfold dW;rfl⟩
      |succ k=>
        have:∃q,fA A k n=.no q:=by
         cases k with
         |zero=>exact⟨n,by unfold fA;rfl⟩
         |succ k=>
           have c:A[n]?=N:=I1 hl;refine⟨n,?_⟩;unfold fA;have U:eI A n=0:=by unfold eI;rw[c]
           have Z:aM A n=[]:=by unfold aM;rw[c]
           have i:takeN A 1 n=.no n:=by unfold takeN;rw[c]
           rw[U,Z,i];rfl
        obtain⟨q,d⟩:=this;exact⟨q,by unfold dW;rw[d];rfl⟩
     obtain⟨q,d⟩:=g k ((tt (aM A n)).2.2+1) (n+1) a7;simp_all
theorem FF:∀(k n:Nat),(fA A k n).In (z A) n
 |0,_=>by unfold fA;exact PR.in_no
 |k+1,n=>by
   unfold fA;split
   .exact PR.bind_in mE λa m=>PR.in_here
   split
   .rename_i h
    exact(PR.bind_in (dR (by simp[dH,bP])) λa m=>PR.in_here).up (eE h b9)
   split
   .rename_i h
    exact(PR.bind_in (kf k 1 (n+1)) λa m=>PR.bind_in (dR (by simp[bP])) λb q=>PR.in_here).up (eE h (by simp[dH]))
   split
   .rename_i h
    exact(PR.bind_in (FF k (n+1)) λa m=>PR.in_here).up (eE h b9)
   refine PR.bind_in mE λa m=>?_;split
   .rename_i h
    exact(PR.bind_in (kf k 1 (m+1)) λa m=>PR.bind_in (dR b9) λb q=>PR.in_here).up (eE h b9)
   split
   .rename_i h
    exact(PR.bind_in (FG k (m+1)) λa m=>PR.in_here).up (eE h (by simp[dH]))
   .exact PR.in_here
theorem FG:∀(k n:Nat),(iF A k n).In (z A) n
 |0,_=>by unfold iF;exact PR.in_no
 |k+1,n=>by
   unfold iF;split
   .rename_i h
    exact PR.in_here.up (eE h (by simp[bP]))
   .exact PR.bind_in (kf k 1 n) λa m=>FH k [a] m
theorem FH:∀(k:Nat)(l:List Ex)(n:Nat),(jy A k l n).In (z A) n
 |0,_,_=>by unfold jy;exact PR.in_no
 |k+1,l,n=>by
   unfold jy;split
   .rename_i h
    exact(PR.bind_in (kf k 1 (n+1)) λa m=>FH k (l++[a]) m).up (eE h (by simp[cZ]))
   .exact PR.bind_in (dR (by simp[bP])) λb q=>PR.in_here
end
def wJ:(kZ A k n).In (z A) n:=PR.bind_in (dR (by simp[dH])) λ_ m=>PR.bind_in (kf k 1 m) λ_ m=>PR.bind_in (dR (by simp[bP])) λ_ _=>PR.in_here
def Ly:(jT A k n).In (z A) n:=by
 unfold jT;refine PR.bind_in mE λt m=>PR.bind_in ?_ λs q=>PR.bind_in (dR ac8) λ_ _=>PR.in_here;split;.rename_i h;exact(PR.bind_in (kf k 1 (m+1)) λ_ _=>PR.in_here).up (eE h b9)
 split;.rename_i h;exact(PR.bind_in (kf k 1 (m+1)) λ_ _=>PR.bind_in (dR b9) λ_ q=>PR.bind_in (kf k 1 q) λ_ _=>PR.in_here).up (eE h b9)
 split;.rename_i h;exact(PR.bind_in (FG k (m+1)) λ_ _=>PR.in_here).up (eE h (by simp[dH]))
 .exact PR.in_no
mutual
theorem PQ:∀(k n:Nat),(jl A k n).In (z A) n
 |0,_=>by unfold jl;exact PR.in_no
 |k+1,n=>by
   unfold jl;split
   .rename_i h
    exact(PR.bind_in wJ λ_ _=>PR.bind_in (dR ac8) λ_ _=>PR.in_here).up (eE h b9)
   split
   .rename_i h
    split
    .rename_i Z
     have:=eE Z ac8;exact PR.in_ok a7
    .exact(PR.bind_in (kf k 1 (n+1)) λ_ _=>PR.bind_in (dR ac8) λ_ _=>PR.in_here).up (eE h b9)
   split
   .rename_i h
    refine(PR.bind_in wJ λ_ m=>PR.bind_in (zT k m) λ_ q=>?_).up (eE h b9);split
    .rename_i Z
     exact(PR.bind_in (zT k (q+1)) λ_ _=>PR.in_here).up (eE Z b9)
    .exact PR.in_here
   split
   .rename_i h
    exact(PR.bind_in wJ λ_ m=>PR.bind_in (zT k m) λ_ _=>PR.in_here).up (eE h b9)
   .exact Ly
theorem zT:∀(k n:Nat),(jL A k n).In (z A) n
 |0,_=>by unfold jL;exact PR.in_no
 |k+1,n=>by
   unfold jL;exact PR.bind_in (dR b9) λ_ m=>wK k [] m
theorem wK:∀(k:Nat)(l:List Stm)(n:Nat),(eC A k l n).In (z A) n
 |0,_,_=>by unfold eC;exact PR.in_no
 |k+1,l,n=>by
   unfold eC;split
   .rename_i h
    exact PR.in_here.up (eE h b9)
   .exact PR.bind_in (PQ k n) λa m=>wK k _ m
end
def xB:∀{k}{l}{n},(fj A k l n).In (z A) n
 |0,_,_=>by simp[fj,PR.in_no];|k+1,l,n=>by
  unfold fj;split;.rename_i h;exact(PR.bind_in mE λ_ _=>xB).up (eE h (by simp[cZ]))
  .exact PR.in_here
def wL:(fQ A k n).In (z A) n:=PR.bind_in mE λ_ _=>xB
def vt:∀{k}{l}{n}{a}{m},fj A k l n=.ok a m->z a+n<=z l+m
 |0,_,_,_,_,h=>by grind[fj];|k+1,l,n,a,m,h=>by
  unfold fj at h;split at h;.cases b:takeN A 1 (n+1)with|no q=>simp_all;|ok t q=>rw[b,PR.bind_ok]at h;have U:=jF t q b;have Z:=vt h;grind
  grind
def HV{l}{m}(h:fQ A k n=.ok l m):z l+n<=m:=by unfold fQ at h;cases a:takeN A 1 n with|no q=>simp_all;|ok t q=>rw[a,PR.bind_ok]at h;have U:=jF t q a;have Z:=vt h;grind
def zU:∀{k}{l}{n},(eD A k l n).In (z A) n
 |0,_,_=>by simp[eD,PR.in_no];|k+1,l,n=>by
  unfold eD;split;.rename_i h;exact(PR.bind_in wL λ_ _=>PR.bind_in (dR ac8) λ_ _=>zU).up (eE h b9)
  .exact PR.in_here
def JF:(oX A k n).In (z A) n:=by
 unfold oX;refine PR.bind_in (dR b9) λ_ m=>PR.bind_in mE λt m=>PR.bind_in (dR (by simp[dH])) λ_ m=>PR.bind_in ?_ λc m=>PR.bind_in (dR (by simp[bP])) λ_ m=>?_
 .split;.exact wL
  .exact PR.in_here
 .have d:∀v,((bj A [[123]] v).bind λ_ a=>(eD A k [] a).bind λV a=>(eC A k [] a).bind λb a=>(PR.ok (Fn.mk t.text c V (decide (aM A m=[119,111,114,100])) b) a)).In (z A) v:=λv=>PR.bind_in (dR b9) λ_ a=>PR.bind_in zU λV a=>PR.bind_in (wK k [] a) λb a=>PR.in_here;split;.rename_i h;exact(d (m+1)).up (eE h b9)
  grind
def zV:∀{k}{l}{u}{n},(lf A k l u n).In (z A) n
 |0,_,_,_=>by simp[lf,PR.in_no];|k+1,l,u,n=>by
  unfold lf;split;.rename_i h;exact(PR.bind_in wL λ_ _=>PR.bind_in (dR ac8) λ_ _=>zV).up (eE h b9)
  split;.rename_i h;exact(PR.bind_in mE λ_ _=>PR.bind_in (dR b9) λ_ _=>PR.bind_in mE λ_ _=>PR.bind_in (dR b9) λ_ _=>PR.bind_in (dR ac8) λ_ _=>zV).up (eE h b9)
  .exact PR.in_here
end
section
open Go.Asm (Str letter eK)
def ba(s:Str):Bool:=decide (s≠[]/\z s<=20/\s.head?.any letter=T/\s.takeWhile eK=s/\s∉jw)
def aq(a:Bool)(s:Str):Bool:=if a then ba s else decide (s=[])
def bV(kind op num:Int)(name:Str)(n:Nat):Bool:=if kind=1 then decide (op=0)&&aq F name&&decide (n=0)else if kind=2 then decide (op=0/\num=0)&&aq T name&&decide (n=0)else if kind=3 then decide (op=0/\num=0)&&aq T name&&decide (n=1)else if kind=4 then decide (op=0/\num=0)&&aq T name&&decide (n<=6)else if kind=5 then decide (op=0/\num=0)&&aq F name&&decide (n=0)else if kind=6 then decide ((4<=op/\op<=15)/\num=0)&&aq F name&&decide (n=2)else if kind=7 then decide (op=0/\num=0)&&aq F name&&decide (n=1)else if kind=8\/kind=9 then decide (op=0/\num=0)&&aq F name&&decide (n=2)else F
mutual
def dn(q:Nat):Ex->Bool
 |.mk kind op num name kids=>decide (q<=24)&&(bV kind op num name (z kids)&&bp (q+1) kids)
def bp(q:Nat):List Ex->Bool
 |[]=>T
 |e::l=>dn q e&&bp q l
end
def cP(kind:Int)(name:Str)(n nt ne:Nat):Bool:=if kind=1 then aq T name&&decide (n=1/\nt=0/\ne=0)else if kind=2 then aq T name&&decide (n=2/\nt=0/\ne=0)else if kind=3 then aq F name&&decide (n=1/\nt=0/\ne=0)else if kind=4 then aq F name&&decide (n=1)else if kind=5 then aq F name&&decide (n=1/\ne=0)else if kind=6 then aq T name&&decide (n<=6/\nt=0/\ne=0)else if kind=7 then aq F name&&decide (n<=1/\nt=0/\ne=0)else F
mutual
def dC(q:Nat):Stm->Bool
 |.mk kind name e a el=>decide (q<=24)&&(cP kind name (z e) (z a) (z el)&&bp (q+1) e)&&(bD (q+1) a&&bD (q+1) el)
def bD(q:Nat):List Stm->Bool
 |[]=>T
 |s::l=>dC q s&&bD q l
end
def de(f:Fn):Bool:=ba f.name&&decide (z f.p<=6)&&(f.p.all ba&&f.l.all ba&&bD 1 f.body)
def fR(a:Str×Int):Bool:=ba a.1&&decide (1<=a.2)&&decide (a.2<=4096)
def ct(p:Prog):Bool:=decide (1<=z p.f/\z p.f<=64)&&p.v.all ba&&(p.a.all fR&&p.f.all de)
mutual
def szE:Ex->Nat
 |.mk _ _ _ _ kids=>aO kids+1
def aO:List Ex->Nat
 |[]=>0
 |e::l=>szE e+aO l
end
mutual
def szS:Stm->Nat
 |.mk _ _ e a el=>aO e+aI a+aI el+1
def aI:List Stm->Nat
 |[]=>0
 |s::l=>szS s+aI l
end
def vu:∀{l}{e},e∈l->szE e<=aO l
 |x::l,e,h=>by
  rw[aO];rcases A0.1 h with rfl|h;.omega
  .have:=vu h;omega
def nd:∀{l}{e},e∈l->szS e<=aI l
 |x::l,e,h=>by
  rw[aI];rcases A0.1 h with rfl|h;.omega
  .have:=nd h;omega
def PS:∀l:List Ex,z l<=aO l|[]=>l7 _|e::l=>by have:=PS l;cases e;simp only[aO,szE,j8];omega
def PT:∀l:List Stm,z l<=aI l|[]=>l7 _|e::l=>by have:=PT l;cases e;simp only[aI,szS,j8];omega
def FI{q}:∀l:List Ex,bp q l=l.all (dn q)|[]=>by rfl;|e::l=>by simp[bp,FI l]
def FJ{q}:∀l:List Stm,bD q l=l.all (dC q)|[]=>by rfl;|e::l=>by simp[bD,FJ l]
def acR{H:Type}{p}{l:List H}{k}{x}(h:(l.take k).all p=T)(I:l[k]?=S x)(a:p x=T):(l.take (k+1)).all p=T:=by simp_all[C1]
def all_false{H:Type}{p}{l:List H}{k:Nat}{x}(I:l[k]?=S x)(a:p x=F):l.all p=F:=by grind
end
section
open Go.Asm (Str digit letter eK je)
def PR.Sz{H:Type}(sz:H->Nat)(x n:Nat)(p:PR H):Prop:=∀a m,p=.ok a m->sz a+n<=x+m
def PR.bind_sz{H β}{c}{d}{x y n}{p:PR H}{f:H->Nat->PR β}(h:p.Sz c x n)(g:∀a m,(f a m).Sz d (c a+y) m):(p.bind f).Sz d (x+y) n:=by intro b m e;cases p with|ok a k=>have U:=h a k rfl;have Z:=g a k b m e;omega;|no k=>cases e
variable{k n:Nat}{H:Type}{s:Str}{c:H->Nat}
def PR.sz_no{x n m}:(PR.no m).Sz c x n:=λ_ _ e=>by cases e
def PR.sz_ok{x n m}{a}(h:c a+n<=x+m):(PR.ok a m).Sz c x n:=λb k e=>by grind
def PR.Sz.of{x n y m}{p:PR H}(h:p.Sz c x n)(b:x+m<=y+n):p.Sz c y m:=λa k e=>by have:=h a k e;omega
def z0{H:Type}(_:H):Nat:=0
def FK:∀l m,aO (l++m)=aO l+aO m|[],m=>by simp[aO];|e::l,m=>by simp only[z6,aO,FK l m];omega
def FL:∀l m,aI (l++m)=aI l+aI m|[],m=>by simp[aI];|e::l,m=>by simp only[z6,aI,FL l m];omega
section
variable{A:List Tok}
def pI:(takeN A k n).Sz (λ_=>1) 0 n:=λa m h=>by have:=jF a m h;grind
def ee{l}{n}:(bj A l n).Sz (λ_=>0) 0 n:=λa m h=>by have:=dP a m h;grind
mutual
theorem kg:∀(k r n:Nat),(dW A k r n).Sz szE 0 n
 |0,_,_=>by unfold dW;exact PR.sz_no
 |k+1,r,n=>by
   unfold dW;exact PR.bind_sz (y:=0) (FN k n) λa m=>FM k r a m
theorem FM:∀(k r:Nat)(left:Ex)(n:Nat),(jx A k r left n).Sz szE (szE left) n
 |0,_,_,_=>by unfold jx;exact PR.sz_no
 |k+1,r,left,n=>by
   unfold jx;split
   .exact PR.sz_ok a7
   .exact(PR.bind_sz (x:=0) (y:=szE left+1) (kg k _ (n+1)) λb q=>(FM k r _ q).of abq).of a7
theorem FN:∀(k n:Nat),(fA A k n).Sz szE 0 n
 |0,_=>by unfold fA;exact PR.sz_no
 |k+1,n=>by
   unfold fA;split
   .exact PR.bind_sz (y:=0) pI λa m=>PR.sz_ok abq
   split
   .exact(PR.bind_sz (x:=0) (y:=1) ee λa m=>PR.sz_ok abq).of (m:=n) (y:=0) (n:=n+1) a7
   split
   .exact(PR.bind_sz (x:=0) (y:=0) (kg k 1 (n+1)) λa m=>(PR.bind_sz (x:=0) (y:=szE a) ee λb q=>PR.sz_ok (c:=szE) a7).of a7).of (m:=n) (y:=0) (n:=n+1) a7
   split
   .exact(PR.bind_sz (x:=0) (y:=1) (FN k (n+1)) λa m=>PR.sz_ok abq).of (m:=n) (y:=0) (n:=n+1) a7
   refine PR.bind_sz (x:=0) (y:=0) pI λa m=>?_;split
   .exact(PR.bind_sz (x:=0) (y:=1) (kg k 1 (m+1)) λa m=>(PR.bind_sz (x:=0) (y:=szE a+1) ee λb q=>PR.sz_ok abq).of a7).of (n:=m+1) a7
   split
   .exact(PR.bind_sz (x:=0) (y:=1) (FO k (m+1)) λa m=>PR.sz_ok abq).of (n:=m+1) a7
   .exact PR.sz_ok abq
theorem FO:∀(k n:Nat),(iF A k n).Sz aO 0 n
 |0,_=>by unfold iF;exact PR.sz_no
 |k+1,n=>by
   unfold iF;split
   .exact PR.sz_ok (by simp only[aO];omega)
   .exact PR.bind_sz (y:=0) (kg k 1 n) λa m=>(FP k [a] m).of (by simp only[aO];omega)
theorem FP:∀(k:Nat)(l:List Ex)(n:Nat),(jy A k l n).Sz aO (aO l) n
 |0,_,_=>by unfold jy;exact PR.sz_no
 |k+1,l,n=>by
   unfold jy;split
   .exact(PR.bind_sz (x:=0) (y:=aO l) (kg k 1 (n+1)) λa m=>(FP k (l++[a]) m).of (by rw[FK];simp only[aO];omega)).of a7
   .exact(PR.bind_sz (x:=0) (y:=aO l) ee λb q=>PR.sz_ok (c:=aO) a7).of a7
end
def wN:(kZ A k n).Sz aO 0 n:=PR.bind_sz (x:=0) (y:=0) ee λ_ m=>(PR.bind_sz (x:=0) (y:=0) (kg k 1 m) λe m=>(PR.bind_sz (x:=0) (y:=szE e) ee λ_ _=>PR.sz_ok (by grind[aO])).of a7).of a7
def Lz:(jT A k n).Sz szS 0 n:=by
 unfold jT;refine PR.bind_sz (y:=0) pI λt m=>((PR.bind_sz (x:=1) (y:=0) (c:=szS) ?_ λs q=>(PR.bind_sz (y:=szS s) ee λ_ _=>PR.sz_ok a7).of a7).of (n:=m) a7);split;.exact(PR.bind_sz (y:=1) (kg k 1 (m+1)) λ_ _=>PR.sz_ok ab3).of a7
 split;.exact(PR.bind_sz (y:=1) (kg k 1 (m+1)) λi _=>(PR.bind_sz (y:=szE i+1) ee λ_ q=>(PR.bind_sz (y:=szE i+1) (kg k 1 q) λ_ _=>PR.sz_ok ab3).of a7).of a7).of a7
 split;.exact(PR.bind_sz (y:=1) (FO k (m+1)) λ_ _=>PR.sz_ok ab9).of a7
 .exact PR.sz_no
mutual
theorem PU:∀(k n:Nat),(jl A k n).Sz szS 0 n
 |0,_=>by unfold jl;exact PR.sz_no
 |k+1,n=>by
   unfold jl;split
   .exact(PR.bind_sz (x:=0) (y:=1) wN λe _=>(PR.bind_sz (x:=0) (y:=aO e+1) ee λ_ _=>PR.sz_ok ab9).of a7).of (n:=n+1) a7
   split
   .split
    .exact PR.sz_ok ab3
    .exact(PR.bind_sz (x:=0) (y:=1) (kg k 1 (n+1)) λe _=>(PR.bind_sz (x:=0) (y:=szE e+1) ee λ_ _=>PR.sz_ok ab3).of a7).of (n:=n+1) a7
   split
   .refine(PR.bind_sz (x:=0) (y:=1) wN λe m=>(PR.bind_sz (x:=0) (y:=aO e+1) (zW k m) λa q=>?_).of a7).of (n:=n+1) a7
    split
    .exact(PR.bind_sz (x:=0) (y:=aI a+aO e+1) (zW k (q+1)) λ_ _=>PR.sz_ok (by simp only[szS];omega)).of a7
    .exact PR.sz_ok ab9
   split
   .exact(PR.bind_sz (x:=0) (y:=1) wN λe m=>(PR.bind_sz (x:=0) (y:=aO e+1) (zW k m) λ_ _=>PR.sz_ok ab9).of a7).of (n:=n+1) a7
   .exact Lz
theorem zW:∀(k n:Nat),(jL A k n).Sz aI 0 n
 |0,_=>by unfold jL;exact PR.sz_no
 |k+1,n=>by
   unfold jL;exact PR.bind_sz (x:=0) (y:=0) ee λ_ m=>(wO k [] m).of (by simp only[aI];omega)
theorem wO:∀(k:Nat)(l:List Stm)(n:Nat),(eC A k l n).Sz aI (aI l) n
 |0,_,_=>by unfold eC;exact PR.sz_no
 |k+1,l,n=>by
   unfold eC;split
   .exact PR.sz_ok a7
   .exact(PR.bind_sz (x:=0) (y:=aI l) (PU k n) λa m=>(wO k _ m).of (by rw[FL];simp only[aI];omega)).of a7
end
def FQ:∀{k}{l}{n},(lD A k l n).In (z A) n
 |0,_,_=>by simp[lD,PR.in_no];|k+1,l,n=>by
  unfold lD;split;.exact PR.bind_in JF λ_ _=>FQ
  .exact PR.in_here
def PV:(mR A k n).In (z A) n:=PR.bind_in zV λ_ _=>PR.bind_in JF λ_ _=>PR.bind_in FQ λ_ _=>PR.in_here
def wP:(fQ A k n).Sz z 0 n:=λa m h=>by have:=HV h;omega
def zX:∀{k}{l}{n},(eD A k l n).Sz z (z l) n
 |0,_,_=>by simp[eD,PR.sz_no];|k+1,l,n=>by
  unfold eD;split;.exact(PR.bind_sz (y:=z l) wP λm q=>(PR.bind_sz (y:=z m+z l) ee λ_ _=>zX.of ZN).of a7).of a7
  .exact PR.sz_ok a7
def szF(f:Fn):Nat:=z f.p+z f.l+aI f.body
def JG:(oX A k n).Sz (λf=>szF f+1) 0 n:=by
 unfold oX;refine PR.bind_sz (y:=0) ee λ_ m=>(PR.bind_sz (y:=0) pI λt m=>(PR.bind_sz (y:=1) ee λ_ m=>(PR.bind_sz (x:=0) (y:=1) (c:=z) ?_ λd m=>(PR.bind_sz (y:=z d+1) ee λ_ m=>?_).of a7).of (n:=m) a7).of a7).of a7
 .split;.exact wP
  simp_all[PR.sz_ok,b9]
 .have e:∀v,((bj A [[123]] v).bind λ_ a=>(eD A k [] a).bind λV a=>(eC A k [] a).bind λb a=>(PR.ok (Fn.mk t.text d V (decide (aM A m=[119,111,114,100])) b) a)).Sz (λf=>szF f+1) (z d+1) v:=λv=>(PR.bind_sz (y:=z d+1) ee λ_ a=>(PR.bind_sz (x:=0) (y:=z d+1) (zX) λV a=>(PR.bind_sz (x:=0) (y:=z V+z d+1) (wO k [] a) λb a=>PR.sz_ok (by grind[szF])).of a7).of a7).of a7;split;.exact(e (m+1)).of a7
  grind
def zY:∀{k}{l}{u}{n},(lf A k l u n).Sz (λh=>z h.1+z h.2) (z l+z u) n
 |0,_,_,_=>by simp[lf,PR.sz_no];|k+1,l,u,n=>by
  unfold lf;split;.exact(PR.bind_sz (y:=z l+z u) wP λm q=>(PR.bind_sz (y:=z m+z l+z u) ee λ_ _=>zY.of ZN).of a7).of a7
  split;.exact(PR.bind_sz (y:=z l+z u) pI λt m=>(PR.bind_sz (y:=z l+z u+1) ee λ_ m=>(PR.bind_sz (y:=z l+z u+1) pI λX m=>(PR.bind_sz (y:=z l+z u+2) ee λ_ m=>(PR.bind_sz (y:=z l+z u+2) ee λ_ m=>zY.of ZN).of a7).of a7).of a7).of a7).of a7
  .exact PR.sz_ok b9
def FR(l:List Fn):Nat:=z l+(l.map szF).sum
def PW l f:FR (l++[f])=FR l+szF f+1:=by grind[FR]
def FT:∀{k}{l}{n},(lD A k l n).Sz FR (FR l) n
 |0,_,_=>by simp[lD,PR.sz_no];|k+1,l,n=>by
  unfold lD;split;.exact(PR.bind_sz (y:=FR l) JG λf m=>FT.of (by rw[PW];omega)).of a7
  .exact PR.sz_ok a7
def szP(p:Prog):Nat:=z p.v+z p.a+FR p.f
def PX:(mR A k n).Sz szP 0 n:=(PR.bind_sz (x:=0) (y:=0) zY λh m=>(PR.bind_sz (x:=0) (y:=z h.1+z h.2) JG λf m=>(PR.bind_sz (x:=szF f+1) (y:=z h.1+z h.2) (FT.of (m:=m) (by grind[FR])) λfs m=>PR.sz_ok (by grind[szP])).of (m:=m) a7).of (m:=m) a7).of (m:=n) b9
end
def HW{kd v}{t}(h:firstT s=.ok (kd,t,v)):v<=4294967295:=by unfold firstT at h;grind
def sM:∀{n k}{s}{l}{p},lC n k s=(.ok l,p)->z l<=n/\∀t∈l,t.num<=4294967295
 |0,_,_,_,_,h=>by grind[lC];|_+1,_,[],_,_,h=>by grind[lC];|n+1,k,c::r,l,p,h=>by
  unfold lC at h;split at h;.have:=sM h;grind
  split at h;.have:=sM h;grind
  split at h;.cases h
  .rename_i b t v a;split at h
   .rename_i e d hl;cases h;have:=sM hl;refine⟨by grind,λx I=>?_⟩;rcases A0.1 I with rfl|I;.exact HW a
    grind
   .cases h
def PY:z (rY s).1<=20001/\∀t∈(rY s).1,t.num<=4294967295:=by
 unfold rY;split;.simp
 .split;.rename_i h;have:=sM h;grind
  .simp
def oI(A:List Tok)(fin n:Nat):Nat:=match A[n]? with|some t=>t.place|none=>fin
def zZ(s:Str):R Prog×Nat:=if (rY s).2.2≠0 then(.err (rY s).2.2,(rY s).2.1)else match mR (rY s).1 (4*z (rY s).1+7) 0 with|.ok p m=>if m<z (rY s).1 then(.err 3,oI (rY s).1 (z s) m)else(.ok p,0)|.no m=>(.err 3,oI (rY s).1 (z s) m)
def VV{k m}{p}(h:mR (rY s).1 k 0=.ok p m):szP p<=20001:=by have U:=PX p m h;have Z:=PV p m h;have a:=PY (s:=s);omega
end
open Go.Asm (Str)
abbrev Th:=Str×Nat×Nat
def bb:List Th->Str->Option (Nat×Nat)|[],_=>N|t::l,s=>if t.1=s then S t.2 else bb l s
def oQ l m s:bb (l++m) s=match bb l s with|some x=>S x|none=>bb m s:=by induction l with|nil=>rfl;|cons t l a=>simp only[z6,bb];grind
def fk:∀{l}{s}{x},bb l s=S x->(s,x)∈l
 |t::l,s,x,h=>by
  unfold bb at h;split at h;.grind
  .exact Q5 _ (fk h)
def cQ:List Th->List Th->Bool|_,[]=>T|seen,t::l=>(bb seen t.1).isNone&&cQ (seen++[t]) l
def vv t:∀l a,cQ a (l++[t])=(cQ a l&&(bb (a++l) t.1).isNone)|[],a=>by simp[cQ];|x::l,a=>by simp only[z6,cQ,vv t l];grind
def thV(vs:List Str):List Th:=vs.mapIdx λi n=>(n,2,i)
def thA(y:List (Str×Int)):List Th:=y.mapIdx λi a=>(a.1,3,i)
def thF(fs:List Fn):List Th:=fs.mapIdx λi f=>(f.name,4,i)
def bH(p:Prog):List Th:=thV p.v++thA p.a++thF p.f
def thL(k:Nat)(m:List Str):List Th:=m.mapIdx λi n=>(n,1,k+i)
def bQ(f:Fn):List Th:=thL 0 f.p++thL (z f.p) f.l
def bG(o i:List Th)(s:Str):Option (Nat×Nat):=match bb i s with|some x=>S x|none=>bb o s
def bT(g:Str->Option (Nat×Nat))(i:Nat)(kind:Nat)(name:Str):Bool:=match g name with|none=>F|some (k,n)=>if kind=2 then k==1||k==2 else if kind=3 then k==3 else k==4&&decide (n<i)
def iz(g:Str->Option (Nat×Nat))(fs:List Fn)(i:Nat)(kind:Nat)(name:Str)(args:Nat):Bool:=match g name with|none=>T|some (k,n)=>if kind=4/\k=4/\n<i then(match fs[n]?with|some f=>z f.p==args|none=>T)else T
mutual
def okE(u:Nat->Str->Nat->Bool):Ex->Bool
 |.mk kind _ _ name kids=>(if kind=2 then u 2 name 0 else if kind=3 then u 3 name 0 else if kind=4 then u 4 name (z kids)else T) && eP u kids
def eP(u:Nat->Str->Nat->Bool):List Ex->Bool
 |[]=>T
 |e::l=>okE u e&&eP u l
end
mutual
def okS(u:Nat->Str->Nat->Bool):Stm->Bool
 |.mk kind name e a el=>(if kind=1 then u 2 name 0 else if kind=2 then u 3 name 0 else if kind=6 then u 4 name (z e)else T) && eP u e && fp u a && fp u el
def fp(u:Nat->Str->Nat->Bool):List Stm->Bool
 |[]=>T
 |s::l=>okS u s&&fp u l
end
def mN(p:Prog)(i:Nat)(f:Fn):Bool:=cQ [] (bQ f)&&fp (λk n _=>bT (bG (bH p) (bQ f)) i k n) f.body
def Da(p:Prog)(i:Nat)(f:Fn):Bool:=fp (λk n a=>iz (bG (bH p) (bQ f)) p.f i k n a) f.body
def ck{H:Type}(c:Nat->H->Bool):Nat->List H->Bool|_,[]=>T|i,a::l=>c i a&&ck c (i+1) l
def FU{H} c x:∀(l:List H) i,ck c i (l++[x])=(ck c i l&&c (i+z l) x)|[],i=>by simp[ck];|a::l,i=>by simp only[z6,ck,FU c x l,j8,G1];grind
def VW:Str:=[109,97,105,110]
def lh(p:Prog):Nat:=if (cQ [] (bH p)&&ck (mN p) 0 p.f)=F then 4 else match p.f.getLast? with|none=>0|some f=>if ck (Da p) 0 p.f=T/\f.name=VW/\f.p=[]/\f.word=F then 0 else 1
variable{s:Str}{k n:Nat}{fs:List Str}
def PZ{fs}(h:(s,k,n)∈thF fs):k=4/\n<z fs:=by simp only[thF,I6]at h;grind
def acS(h:(s,k,n)∈thV fs):k=2:=by simp_all[thV]
def acT{fs}(h:(s,k,n)∈thA fs):k=3:=by simp_all[thA]
def JH{j}(h:(s,k,n)∈thL j fs):k=1/\n<j+z fs:=by simp only[thL,I6]at h;grind
def ZK{p}{f}{n}(h:bG (bH p) (bQ f) s=S (4,n)):n<z p.f:=by
 unfold bG at h;split at h
 .rename_i a;cases h;have:=fk a;rcases C6.1 this with h|h;.exact absurd (JH h).1 a8
  .exact absurd (JH h).1 a8
 .have:=fk h;rcases C6.1 this with h|h
  .rcases C6.1 h with h|h;.exact absurd (acS h) a8
   .exact absurd (acT h) a8
  .exact(PZ h).2
end Go.Src


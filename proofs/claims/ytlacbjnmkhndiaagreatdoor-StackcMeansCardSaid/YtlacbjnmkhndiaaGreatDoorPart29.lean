/- A part of the proof; no conditions. -/
import Derived.Test.YtlacbjnmkhndiaaGreatDoorPart28
set_option linter.unusedSimpArgs false
set_option linter.unusedVariables false
set_option linter.defProp false
open List renaming length -> z
open Option renaming some -> S, none -> N
open Bool renaming true -> T, false -> F
set_option maxHeartbeats 64000000
set_option maxRecDepth 100000
namespace Go.Proofs.YtlacbjnmkhndiaaGreatDoor.Low
section
attribute [local congr] Go.Am.ite_cc
open Go Go.Am Go.Asm Go.Mach
def mT(b:Bool):(List Nat×Nat)×Nat:=if b then((aC,1),0)else(([],0),3)
def oB(b:Bool):Str×Nat×Nat:=if b then(aB,0,0)else([],22,3)
def m_T(b:Bool):(if (rT b).2.2≠0 then(([],0),(rT b).2.2)else fR (rT b).1)=mT b:=by cases b<;>decide +kernel
def o_T(b:Bool):oB b=((if (mT b).2≠0 then []else LJ (mT b).1),(rT b).2.1,(mT b).2):=by cases b<;>decide +kernel
def wI{o:cF}(ho:jS o)(b:Bool):bP Tryz.prog 1 o 11 [sv (vD b)] (·=CM (oB b)):=by
 have hP:=PV ho b;have hT:=KV ho (p:=(rT b).1) (e:=(rT b).2.2) (λ_=>by cases b<;>decide);rw[m_T]at hT;have i:=KW (o:=o) (m:=(mT b).1) (e:=(mT b).2) (by cases b<;>decide) (by cases b<;>decide);rw[o_T];generalize rT b=r at hP hT|-;generalize mT b=m at hT i|-;obtain⟨p,j,e⟩:=r;obtain⟨⟨code,data⟩,c⟩:=m;have G:bS p=.agg [.d (.sl (p.vars.map λs=>[.str s])),.d (.sl (p.arrays.map arD)),.d (.sl (p.funcs.map fnD))]:=rfl;have a:eZ (code,data)=.agg [.d (eO code),.d (.int .i64 (data:Nat))]:=rfl;unfold GN at hP;unfold qF at hT;simp only at hP hT i|-;rw[G]at hP hT;rw[a]at hT i;refine hdG Tryz.func11 rfl [.tmp 2,.tmp 3,.tmp 4] λO bn s0 w0 g=>?_;simp only[go_sem];refine cG rfl Xp ?_;rintro _ rfl;simp only[go_sem];refine cG rfl VT ?_;rintro _ rfl;simp only[go_sem];refine cG rfl (by simp only[go_sem];exact i) ?_;rintro _ rfl;unfold CM;simp only[go_sem];exact⟨_,KT,rfl⟩
def Me{o:cF}(b:jS o):bP Tryz.prog 1 o 5 [] (·=bv T):=by
 refine hdG Tryz.func5 rfl [.tmp 0] λO bn s0 w0 g=>?_;simp only[go_sem];refine cG rfl (by simp only[go_sem];exact wI b T) ?_;rintro _ rfl;unfold CM oB;simp only[go_sem];refine ip rfl (by simp only[go_sem];exact BH aB b9) ?_;rintro _ rfl;rw[a_r];unfold Bx eZ;simp only[go_sem];refine bY aA mixed aE [6] [([4],[0],[],F),([4],[0],[],F),([23],[0],[],F),([22,24],[0],[],F),([],[],[0],F),([6,25],[],[],T)] 1 rfl c8 rfl b9 ?_;simp only[go_sem]
 iterate 2 (apply aj;(case hg=>first|exact x9|exact⟨_,rfl,by decide,rfl⟩);(case U=>intro e ga j a J;simp only[go_sem]at J|-;exact J))
 refine aj (v:=iv .i64 (gq 0 aC 1:Nat)) x9 (λe ga j a J=>?_) ?_
 .simp only[go_sem]at J|-
  refine ip rfl (by simp only[go_sem];exact F_A 0 aC 1 b9 b9 b9) ?_;exact SF
 refine aj (v:=Ly (1,[65],6)) x9 (λe ga j a J=>?_) ?_
 .simp only[go_sem]at J|-
  refine ip rfl (by simp only[go_sem];exact CZ aC 1 [] (gq 0 aC 1) b9 c8 b9 b9) ?_;rintro _ rfl;rw[a_x];exact nn
 unfold Ly
 (apply bF;(case hg=>first|exact x9|exact⟨_,rfl,by decide,rfl⟩);(case U=>intro e ga j a J;simp only[go_sem]at J|-;exact J))
 refine bZ x9 ?_;intro a l;simp only[go_sem];refine l _ ?_;clear l a;simp only[go_sem];refine cG rfl (by simp only[go_sem];exact wI b F) ?_;rintro _ rfl;unfold CM oB;simp only[go_sem];refine cG rfl (by simp only[go_sem];exact Tu (xw b (p:=⟨[],[],[]⟩) c8)) ?_;rintro _ rfl;rw[e_c];unfold qF eZ;exact hx
end
end Go.Proofs.YtlacbjnmkhndiaaGreatDoor.Low
namespace Go.Am
section
attribute [local congr] Go.Am.ite_cc
section
variable{ar:Sp}{s:St}{B:(Exit->St->Prop)->St->Prop}{Q:Exit->St->Prop}
def Hv{b:Box B}{q:Box Q}(d:St)(h:ar.vs s d)(J:Nat->St->Prop)(n:Nat)(e:J 0 d)
 (V:∀k f g a,k<=n->J k ⟨f,g,a⟩->B (iQ (bx λW=>∃j d,j<n-k/\ar.vs W d/\∃c,j+c=n/\J c d) q) ⟨f,g,a⟩):ng ar b q s:=
 ⟨λm K=>∃k,m+k=n/\J k K,⟨n,d,h,0,rfl,e⟩,λm K⟨k,U,i⟩=>by
  have:=V k K.f K.gen K.obj a7 i
  rwa [show n-k=m by omega]at this⟩
def dD{b:Box B}{q:Box Q}(J:Nat->St->Prop)(n:Nat)(h0:J 0 s)
 (V:∀k f g ob,k<=n->J k ⟨f,g,ob⟩->B (iQ (bx λW=>∃j d,j<n-k/\ar.vs W d/\∃k',j+k'=n/\J k' d) q) ⟨f,g,ob⟩)(hv:∀s,ar.vs s s:=by exact λs=>ae.refl s):ng ar b q s:=Hv s (hv s) J n h0 V
def bN{J:Nat->St->Prop}{n k:Nat}(h:k<n)(hJ:J (k+1) s)(hv:ar.vs s s:=by exact ae.refl _):∃j d,j<n-k/\ar.vs s d/\∃k',j+k'=n/\J k' d:=
 ⟨n-(k+1),s,a7,hv,k+1,a7,hJ⟩
end
end
end Go.Am
namespace Go.Src
section
attribute [local congr] Go.Am.ite_cc
section
mutual
def inE:Ex->Prop
 |.mk _ _ _ _ kids=>z kids<=1000000000000000000/\qI kids
def qI:List Ex->Prop
 |[]=>True
 |e::l=>inE e/\qI l
end
mutual
def inS:Stm->Prop
 |.mk _ _ e a el=>(z e<=1000000000000000000/\qI e)/\(z a<=1000000000000000000/\pR a)/\(z el<=1000000000000000000/\pR el)
def pR:List Stm->Prop
 |[]=>True
 |e::l=>inS e/\pR l
end
def Hw:∀{l:List Ex}{k:Nat}{e:Ex},qI l->l[k]?=S e->inE e
 |_::_,0,_,h,he=>by cases he;exact h.1
 |_::_,_+1,_,h,he=>Hw h.2 (by simpa using he)
def Hx:∀{l:List Stm}{k:Nat}{e:Stm},pR l->l[k]?=S e->inS e
 |_::_,0,_,h,he=>by cases he;exact h.1
 |_::_,_+1,_,h,he=>Hx h.2 (by simpa using he)
mutual
def mQ:Ex->Int->Int->Int
 |.mk _ _ _ name kids,left,b=>if b<=0\/60<(z name:Int)then -1 else cX kids (left-1) (b-1)
def cX:List Ex->Int->Int->Int
 |[],left,_=>left
 |e::l,left,b=>if left<0 then left else cX l (mQ e left b) b
end
mutual
def mR:Stm->Int->Int->Int
 |.mk _ name e a el,left,b=>if b<=0\/60<(z name:Int)then -1 else dt el (dt a (cX e (left-1) (b-1)) (b-1)) (b-1)
def dt:List Stm->Int->Int->Int
 |[],left,_=>left
 |e::l,left,b=>if left<0 then left else dt l (mR e left b) b
end
variable{left b:Int}
def Bq(h:left<0):∀l:List Ex,cX l left b=left
 |[]=>rfl
 |e::l=>by rw[cX,l8 h]
def mw(h:left<0):∀l:List Stm,dt l left b=left
 |[]=>rfl
 |e::l=>by rw[dt,l8 h]
mutual
theorem Hy:∀(e:Ex)(left b:Int),mQ e left b<0\/mQ e left b+szE e=left
 |.mk _ _ _ name kids,left,b=>by
   rw[mQ,szE];split
   .omega
   .have:=rN kids (left-1) (b-1);omega
theorem rN:∀(l:List Ex)(left b:Int),cX l left b<0\/cX l left b+bc l=left
 |[],left,b=>by rw[cX,bc];omega
 |e::l,left,b=>by
   rw[cX,bc];split
   .omega
   .have:=Hy e left b
    by_cases h:(mQ e left b)<0
    .rw[Bq h];omega
    .have:=rN l (mQ e left b) b;omega
end
mutual
theorem Hz:∀(e:Stm)(left b:Int),mR e left b<0\/mR e left b+szS e=left
 |.mk _ name e a el,left,b=>by
   rw[mR,szS];split
   .omega
   .have U:=rN e (left-1) (b-1)
    by_cases h:(cX e (left-1) (b-1))<0
    .rw[mw h,mw h];omega
    have c:=oQ a (cX e (left-1) (b-1)) (b-1);by_cases q:(dt a (cX e (left-1) (b-1)) (b-1))<0
    .rw[mw q];omega
    have d:=oQ el (dt a (cX e (left-1) (b-1)) (b-1)) (b-1);omega
theorem oQ:∀(l:List Stm)(left b:Int),dt l left b<0\/dt l left b+aD l=left
 |[],left,b=>by rw[dt,aD];omega
 |e::l,left,b=>by
   rw[dt,aD];split
   .omega
   .have:=Hz e left b
    by_cases h:(mR e left b)<0
    .rw[mw h];omega
    .have:=oQ l (mR e left b) b;omega
end
mutual
theorem HA:∀(e:Ex)(left b:Int),0<=left->-1<=mQ e left b
 |.mk _ _ _ name kids,left,b,h=>by
   rw[mQ];split
   .omega
   .exact rO kids _ _ a7
theorem rO:∀(l:List Ex)(left b:Int),-1<=left->-1<=cX l left b
 |[],left,b,h=>by rw[cX];exact h
 |e::l,left,b,h=>by
   rw[cX];split
   .exact h
   .exact rO l _ _ (HA e _ _ a7)
end
mutual
theorem HC:∀(e:Stm)(left b:Int),0<=left->-1<=mR e left b
 |.mk _ name e a el,left,b,h=>by
   rw[mR];split
   .omega
   .exact rP el _ _ (rP a _ _ (rO e _ _ a7))
theorem rP:∀(l:List Stm)(left b:Int),-1<=left->-1<=dt l left b
 |[],left,b,h=>by rw[dt];exact h
 |e::l,left,b,h=>by
   rw[dt];split
   .exact h
   .exact rP l _ _ (HC e _ _ a7)
end
end
end
end Go.Src
namespace Go.Proofs.YtlacbjnmkhndiaaGreatDoor
section
attribute [local congr] Go.Am.ite_cc
open Go Go.Am Go.Asm
open Go.Src (Ex Stm szE bc szS aD inE qI inS pR mQ cX mR dt)
def de{A:Type}{l:List A}{k:Nat}{e:A}(h:l[k]?=S e):l.drop k=e::l.drop (k+1):=by
 obtain⟨U,rfl⟩:=l5.1 h;exact C1 U
def getD_at{A:Type}{f:A->List D}{l:List A}{k:Nat}{e:A}(h:l[k]?=S e):(l.map f)[k]?=S (f e):=by rw[x8,h];rfl
def zz:∀(al:Nat)(l:List Ex)(left b:Int),bc l<=al->z l<=1000000000000000000->qI l->(-4000000000000000000<=left/\left<=1000000)->(0<=b/\b<=60)->ax Tryz.prog 59 [eb l,iv .i64 left,iv .i64 b] (·=iv .i64 (cX l left b)):=by
 intro al
 induction al using Nat.strongRecOn with
 |ind al A=>
 intro l left b H hl E a1 u;refine hdP Tryz.func59 rfl [6] λg=>?_;obtain⟨X,y⟩:∃X,cX l left b=X:=⟨_,rfl⟩
 rw[y];unfold eb;simp only[go_sem];refine dD (λk K=>∃c:Int,cX (l.drop k) c b=X/\(-4000000000000000000<=c/\c<=1000000)/\K.f 0=.one (.d (.sl (l.map exD)))/\K.f 1=iv .i64 c/\K.f 2=iv .i64 b/\K.f 7=iv .i64 k) (z l) ⟨left,y,a1,?_⟩ ?_
 .exact hx
 rintro k f I L hk ⟨c,Z,O,q0,i,q2,q7⟩;simp only at q0 i q2 q7;have hw:=ac (k:=k) a7;by_cases af:k<z l
 case neg=>
  have Q:¬(k:Int)<(z l:Int):=a7;rw[y9 a7,cX]at Z;simp only[go_sem,q0,i,q2,q7,Q,j6,Z]
 have Q:(k:Int)<(z l:Int):=a7;by_cases o:0<=c
 case neg=>
  rw[Src.Bq a7]at Z;subst Z;simp only[go_sem,q0,i,q2,q7,Q,j6,o]
 have t:IntKind.i64.wrap (c-1)=c-1:=wrap_i64 _ a7 a7;have w:IntKind.i64.wrap (b-1)=b-1:=wrap_i64 _ a7 a7;obtain⟨e,p⟩:=getq af;rw[de p,cX,j8 a7]at Z;have v:=Src.Hw E p;have az:=Src.LU (l6 p);obtain⟨kind,op,num,name,a⟩:=e;have G:exD (.mk kind op num name a)=[.int .i64 kind,.int .i64 op,.int .u32 num,.str name,.sl (a.map exD)]:=by simp only[exD,aK]
 have x:=getD_at (f:=exD) p;rw[G]at x;rw[mQ]at Z;rw[szE]at az;rw[inE]at v;by_cases hd:b<=0
 .rw[l8 (.inl hd),Src.Bq a7]at Z
  simp only[go_sem,q0,i,q2,q7,Q,j6,o,t,hd,<-Z]
 by_cases hn:60<(z name:Int)
 .rw[l8 (.inr hn),Src.Bq a7]at Z
  simp only[go_sem,q0,i,q2,q7,Q,j6,o,t,hd,x,hn,<-Z]
 rw[j8 a7]at Z;have ho:=Src.rN a (c-1) (b-1);have m:=Src.rO a (c-1) (b-1) a7;simp only[go_sem,q0,i,q2,q7,Q,j6,o,t,w,hd,x,hn];refine bJ rfl (by simp only[go_sem,w];exact A (bc a) a7 a (c-1) (b-1) (l7 _) v.1 v.2 a7 a7) ?_;exact U0
end
end Go.Proofs.YtlacbjnmkhndiaaGreatDoor
namespace Go.Src
section
attribute [local congr] Go.Am.ite_cc
open Go.Asm (Str)
def Bt(l:List Str):Bool:=decide (z l<=200)&&l.all λs=>decide ((z s:Int)<=60)
def Lf(left:Int):List Fn->Option Int
 |[]=>S left
 |f::l=>if Bt f.params && Bt f.locals && decide ((z f.name:Int)<=60)then Lf (dt f.body (left-z f.params-z f.locals) 60) l else N
def Tv(p:Prog)(i:Int):Bool:=
 if (Bt p.vars && decide (z p.arrays<=200) && decide (z p.funcs<=70))=F then F
 else if (p.arrays.all λa=>decide ((z a.1:Int)<=60))=F then F
 else match Lf (i-z p.vars-z p.arrays-z p.funcs) p.funcs with
  |some n=>decide (0<=n)
  |none=>F
structure InP (p:Prog):Prop where
 v:p.vars.length<=1000000000000000000
 a:p.arrays.length<=1000000000000000000
 f:p.funcs.length<=1000000000000000000
 fs:∀f∈p.funcs,(f.params.length<=1000000000000000000/\f.locals.length<=1000000000000000000)/\f.body.length<=1000000000000000000/\pR f.body
def CO:∀(l:List Fn)(left n:Int),Lf left l=S n->n<0\/n+((l.map λf=>z f.params+z f.locals+aD f.body).sum:Nat)<=left
 |[],left,n,h=>by cases h;simp
 |f::l,left,n,h=>by
   rw[Lf]at h;split at h
   .have a:=CO l _ n h
    simp only[l9,D9];have b:=oQ f.body (left-z f.params-z f.locals) 60;omega
   .cases h
def UT{p:Prog}{i:Nat}(h:Tv p i=T):z p.vars+z p.arrays+z p.funcs+(p.funcs.map λf=>z f.params+z f.locals+aD f.body).sum<=i:=by
 unfold Tv at h;split at h
 .cases h
 split at h
 .cases h
 split at h
 .rename_i n a
  have b:=M4 h;rcases CO _ _ _ a with U|U<;>omega
 .cases h
end
end Go.Src
namespace Go.Proofs.YtlacbjnmkhndiaaGreatDoor
section
attribute [local congr] Go.Am.ite_cc
open Go Go.Am Go.Asm
open Go.Src (Ex Stm szE bc szS aD inE qI inS pR mQ cX mR dt)
def zB:∀(al:Nat)(l:List Stm)(left b:Int),aD l<=al->z l<=1000000000000000000->pR l->(-4000000000000000000<=left/\left<=1000000)->(0<=b/\b<=60)->ax Tryz.prog 38 [eS l,iv .i64 left,iv .i64 b] (·=iv .i64 (dt l left b)):=by
 intro al
 induction al using Nat.strongRecOn with
 |ind al y=>
 intro l left b H hl E a1 u;refine hdP Tryz.func38 rfl [6] λg=>?_;obtain⟨X,A⟩:∃X,dt l left b=X:=⟨_,rfl⟩
 rw[A];unfold eS;simp only[go_sem];refine dD (λk K=>∃c:Int,dt (l.drop k) c b=X/\(-4000000000000000000<=c/\c<=1000000)/\K.f 0=.one (.d (.sl (l.map smD)))/\K.f 1=iv .i64 c/\K.f 2=iv .i64 b/\K.f 7=iv .i64 k) (z l) ⟨left,A,a1,?_⟩ ?_
 .exact hx
 rintro k f I L hk ⟨c,Z,O,q0,o,q2,q7⟩;simp only at q0 o q2 q7;have hw:=ac (k:=k) a7;by_cases af:k<z l
 case neg=>
  have Q:¬(k:Int)<(z l:Int):=a7;rw[y9 a7,dt]at Z;simp only[go_sem,q0,o,q2,q7,Q,j6,Z]
 have Q:(k:Int)<(z l:Int):=a7;by_cases t:0<=c
 case neg=>
  rw[Src.mw a7]at Z;subst Z;simp only[go_sem,q0,o,q2,q7,Q,j6,t]
 have x:IntKind.i64.wrap (c-1)=c-1:=wrap_i64 _ a7 a7;have w:IntKind.i64.wrap (b-1)=b-1:=wrap_i64 _ a7 a7;obtain⟨e,v⟩:=getq af;rw[de v,dt,j8 a7]at Z;have i:=Src.Hx E v;have az:=Src.LV (l6 v);obtain⟨kind,name,e,a,el⟩:=e;have G:smD (.mk kind name e a el)=[.int .i64 kind,.str name,.sl (e.map exD),.sl (a.map smD),.sl (el.map smD)]:=by simp only[smD,aK,dQ]
 have p:=getD_at (f:=smD) v;rw[G]at p;rw[mR]at Z;rw[szS]at az;rw[inS]at i;by_cases hd:b<=0
 .rw[l8 (.inl hd),Src.mw a7]at Z
  simp only[go_sem,q0,o,q2,q7,Q,j6,t,x,hd,<-Z]
 by_cases hn:60<(z name:Int)
 .rw[l8 (.inr hn),Src.mw a7]at Z
  simp only[go_sem,q0,o,q2,q7,Q,j6,t,x,hd,p,hn,<-Z]
 rw[j8 a7]at Z;have U:=Src.rN e (c-1) (b-1);have b2:=Src.rO e (c-1) (b-1) a7;have Y:=Src.oQ a (cX e (c-1) (b-1)) (b-1);have c2:=Src.rP a (cX e (c-1) (b-1)) (b-1) a7;have d1:=Src.oQ el (dt a (cX e (c-1) (b-1)) (b-1)) (b-1);have d2:=Src.rP el (dt a (cX e (c-1) (b-1)) (b-1)) (b-1) a7;simp only[go_sem,q0,o,q2,q7,Q,j6,t,x,w,hd,p,hn];refine bJ rfl (by simp only[go_sem,w];exact zz (bc e) e (c-1) (b-1) (l7 _) i.1.1 i.1.2 a7 a7) ?_;rintro _ rfl;simp only[go_sem,q0,q2,q7,p,w];refine bJ rfl (by simp only[go_sem,w];exact y (aD a) a7 a _ (b-1) (l7 _) i.2.1.1 i.2.1.2 a7 a7) ?_;rintro _ rfl;simp only[go_sem,q0,q2,q7,p,w];refine bJ rfl (by simp only[go_sem,w];exact y (aD el) a7 el _ (b-1) (l7 _) i.2.2.1 i.2.2.2 a7 a7) ?_;exact U0
def cQ{A:Type}{p:A->Bool}{l:List A}{k:Nat}{x:A}{X:Bool}(h:(l.drop k).all p=X)(I:l[k]?=S x):(p x=T->(l.drop (k+1)).all p=X)/\(p x=F->X=F):=by
 rw[de I,E9]at h;constructor
 .intro e;rw[e,x6]at h;exact h
 .intro e;rw[e,A7]at h;exact h.symm
def jh(l:List Str):AV:=.one (.d (.sl (l.map λs=>[.str s])))
def xE(l:List Str)(hl:z l<=1000000000000000000):ax Tryz.prog 37 [jh l] (·=bv (Src.Bt l)):=by
 refine hdP Tryz.func37 rfl [2] λg=>?_;unfold Src.Bt jh;obtain⟨X,a⟩:∃X,(l.all λs=>decide ((z s:Int)<=60))=X:=⟨_,rfl⟩
 rw[a];simp only[go_sem];refine dD (λk K=>((l.drop k).all λs=>decide ((z s:Int)<=60))=X/\K.f 0=.one (.d (.sl (l.map λs=>[.str s])))/\K.f 3=iv .i64 k) (z l) ⟨a,?_⟩ ?_
 .exact hx
 rintro k f v w x ⟨Z,q0,i⟩;simp only at q0 i;have t:=ac (k:=k) a7;by_cases o:k<z l
 case neg=>
  have Q:¬(k:Int)<(z l:Int):=a7;rw[y9 a7]at Z;have a:X=T:=Z.symm;have e:decide ((z l:Int)<=200)=decide (z l<=200):=by congr 1;exact propext ⟨λh=>by omega,λh=>by omega⟩
  simp only[go_sem,q0,i,Q,j6,a,K7,e]
 have Q:(k:Int)<(z l:Int):=a7;obtain⟨s,p⟩:=getq o;obtain⟨U,u⟩:=cQ Z p;have r:=getD_at (f:=λs:Str=>[D.str s]) p;by_cases hn:60<(z s:Int)
 .have a:X=F:=u (A4 a7)
  simp only[go_sem,q0,i,Q,j6,r,hn,a,D2]
 .simp only[go_sem,q0,i,Q,j6,r,hn,t]
  refine bN o ⟨U (C9 a7),?_⟩;exact UP
end
end Go.Proofs.YtlacbjnmkhndiaaGreatDoor

/- A part of the proof; no conditions. -/
import Derived.Test.YtlacbjnmkhndiaaGreatDoorPart10
set_option linter.unusedSimpArgs false
set_option linter.unusedVariables false
set_option linter.defProp false
open List renaming length -> z
open Option renaming some -> S, none -> N
open Bool renaming true -> T, false -> F
set_option maxHeartbeats 64000000
set_option maxRecDepth 100000
namespace Go.Proofs.YtlacbjnmkhndiaaGreatDoor
section
open Go Go.Am Go.Asm
open Go.Src (Ex Stm szE bw szS aN bW fM dm cI fb cj)
attribute[local congr]ite_cc
section
def AR(M:List C)(fs:List Src.Fn):Prop:=∀s:Str,mget M (.str s)=(bW fs s).map λf=>.d (.iptr (fnD f))
def Gt(gr gm:Nat):List C:=[.mp 1010 gm 208,.d .nilf,.d (.fn 167),.d (.fn 167),.clo (169+1000000) [.ptr 1012 gr 0],.clo (170+1000000) [.ptr 1012 gr 0],.d (.fn 167),.clo (171+1000000) [.ptr 1012 gr 0],.clo (168+1000000) [.ptr 1012 gr 0],.clo (168+1000000) [.ptr 1012 gr 0],.clo (168+1000000) [.ptr 1012 gr 0]]
structure zb (fs:List Src.Fn) (gr gm:Nat) (g:Nat->Nat) (ob:Obs):Prop where
 or:ob 1012=some (Gt gr gm)
 om:∃M,ob 1010=some M/\AR M fs
 gr:g 1012=gr
 gm:g 1010=gm
variable{kind op num:Int}{name:Str}{kids:List Ex}{fs:List Src.Fn}{K:St->Prop}{args:Array Operand}{tys:Array TypeId}{xs:List AV}{gr gm:Nat}
def zb.mono{gr gm B:Nat}{g g':Nat->Nat}{ob Y:Obs}(h:zb fs gr gm g ob)(hB:2000<=B)(a:∀i,i<B->g' i=g i/\Y i=ob i):zb fs gr gm g' Y where
 or:=by rw[(a 1012 a7).2];exact h.or
 om:=by rw[(a 1010 a7).2];exact h.om
 gr:=by rw[(a 1012 a7).1];exact h.gr
 gm:=by rw[(a 1010 a7).1];exact h.gm
def kQ(fs:List Src.Fn)(gr gm:Nat)(f:FuncId)(xs:List AV)(r:AV):Prop:=∀(B:Nat)(g:Nat->Nat)(ob:Obs),2000<=B->(∀i,B<=i->ob i=N)->zb fs gr gm g ob->
 dj Tryz.prog f (aj 1012 gr 0::xs) g ob (λq a Y=>a=g/\Y=ob/\q=r) (λ_ _ _=>False)
section
variable{O:Bs}{rd:Option Nat}{a:St->Am.Loc->List Deferred->World->Prop}
def cK{d:fT}{e:Nat}(a6:bp O a){o:Oper}{s:St}{k:Box K}{f:FuncId}(ho:o.op=.call ⟨.value (.func f),args,tys⟩){r:AV}
 (V:kQ fs gr gm f xs r)(I:args.toList.map s.ev=aj 1012 gr 0::xs)(b:Nat)(hB:2000<=b)(bk:∀i,b<=i->s.obj i=N)(E:zb fs gr gm s.gen s.obj)(g:K (s.put o.dst r)):bC (spF Tryz.prog rd O a e d) o s k:=by
 refine cH (R:=λq c Y=>c=s.gen/\Y=s.obj/\q=r) (L:=λ_ _ _=>False) a6 ho (by rw[I];exact V b s.gen s.obj hB bk E) (λ_ _ _ h=>h.elim) ?_;rintro _ c Y ⟨rfl,rfl,rfl⟩;exact g
def lu{d:fT}{e:Nat}(a6:bp O a){o:Oper}{s:St}{k:Box K}{t:Nat}(ho:o.op=.call ⟨.value (.tmp t),args,tys⟩){f:FuncId}{r:AV}(hf:s.f t=.one (.clo (f+1000000) [.ptr 1012 gr 0]))
 (V:kQ fs gr gm f xs r)(I:args.toList.map s.ev=xs)(b:Nat)(hB:2000<=b)(bk:∀i,b<=i->s.obj i=N)(E:zb fs gr gm s.gen s.obj)(g:K (s.put o.dst r)):bC (spF Tryz.prog rd O a e d) o s k:=by
 refine Cv (R:=λq c Y=>c=s.gen/\Y=s.obj/\q=r) (L:=λ_ _ _=>False) a6 ho hf (by rw[I];exact V b s.gen s.obj hB bk E) (λ_ _ _ h=>h.elim) ?_;rintro _ c Y ⟨rfl,rfl,rfl⟩;exact g
end
def CW(e:Ex):aJ Tryz.prog 167 [exV e] (·=ae 1):=by
 obtain⟨kind,op,num,name,kids⟩:=e;refine hdP Tryz.func167 rfl [2] λg=>?_;unfold exV;simp only[exD,s6,x7];exact gW
section
variable{fs:List Src.Fn}{gr gm:Nat}
def CX(h:kQ fs gr gm 173 [eJ kids,ae 2] (bv (cI fs 2 kids))):kQ fs gr gm 168 [exV (.mk kind op num name kids)] (ae (if cI fs 2 kids then 2 else 0)):=by
 intro B g ob hB hf E;refine hdM B [] Tryz.func168 rfl [.tmp 4] a8 hf λO bn s0 w0=>?_;unfold exV;simp only[exD,aV,s6,x7];simp only[go_sem];refine cK aa rfl h XK (B+20) a7 (λi hi=>nt (hf i a7)) (E.mono hB λi hi=>⟨nu,nu⟩) ?_;simp only[go_sem];cases cI fs 2 kids
 .simp only[go_sem]
  exact gT
 .simp only[go_sem]
  exact p9
def MN(h:kQ fs gr gm 173 [eJ kids,ae 1] (bv (cI fs 1 kids))):kQ fs gr gm 169 [exV (.mk kind op num name kids)] (ae (if cI fs 1 kids then 1 else 0)):=by
 intro B g ob hB hf E;refine hdM B [] Tryz.func169 rfl [.tmp 4] a8 hf λO bn s0 w0=>?_;unfold exV;simp only[exD,aV,s6,x7];simp only[go_sem];exact l3
def Zn(h:kQ fs gr gm 173 [eJ kids,ae 1] (bv (cI fs 1 kids))):kQ fs gr gm 171 [exV (.mk kind op num name kids)] (ae (if cI fs 1 kids then(if op=14\/op=15 then 2 else 1)else 0)):=by
 intro B g ob hB hf E;refine hdM B [] Tryz.func171 rfl [.tmp 4] a8 hf λO bn s0 w0=>?_;unfold exV;simp only[exD,aV,s6,x7];simp only[go_sem];refine cK aa rfl h XK (B+20) a7 (λi hi=>nt (hf i a7)) (E.mono hB λi hi=>⟨nu,nu⟩) ?_;simp only[go_sem];cases cI fs 1 kids
 .simp only[go_sem]
  exact gT
 by_cases U:op=14
 .rw[l9 rfl,l9 (.inl U)]
  simp only[go_sem,x6 U];exact p9
 by_cases a:op=15
 .rw[l9 rfl,l9 (.inr a)]
  simp only[go_sem,U,x6 a];exact p9
 .rw[l9 rfl,j9 a7]
  simp only[go_sem,U,a];refine⟨_,ai.refl _,?_⟩;simp only[go_sem];exact bB.nil (λi hi=>⟨nu,nu⟩) (o:=[ae 1]) ⟨_,_,rfl,.one (.d _),rfl⟩ ⟨rfl,rfl,rfl⟩
def Rk(h:kQ fs gr gm 173 [eJ kids,ae 1] (bv (cI fs 1 kids))):kQ fs gr gm 170 [exV (.mk kind op num name kids)] (ae (if fM fs name && cI fs 1 kids then 1 else 0)):=by
 intro B g ob hB hf E;refine hdM B [] Tryz.func170 rfl [.tmp 4] a8 hf λO bn s0 w0=>?_;have j:=E;obtain⟨or,⟨M,om,l⟩,r,H⟩:=j;have a:∀k,(1012=B+k)=False:=λk=>by simp;omega
 have b:∀k,(1010=B+k)=False:=λk=>by simp;omega
 have I:=l name;unfold exV;unfold Gt at or;unfold fM;simp only[exD,aV,s6,x7];simp only[go_sem];refine aP c9 ?_;cases e:bW fs name with
 |none=>
   rw[e]at I;simp only[H8]at I;simp only[go_sem,a,b,or,r,H,om,I,E4];simp only[A9,E0,B1];exact gT
 |some x=>
   obtain⟨s,t,u,n,body⟩:=x;rw[e]at I;simp only[A3,fnD]at I;cases n
   .simp only[go_sem,a,b,or,r,H,om,I,C9]
    simp only[A9,E0,B1];exact gT
   .simp only[go_sem,a,b,or,r,H,om,I,C9]
    exact l3
end
end
section
section
variable{fs:List Src.Fn}{gr gm:Nat}
def Jm{kind op num:Int}{name:Str}{kids:List Ex}(h:∀t:Int,kQ fs gr gm 173 [eJ kids,ae t] (bv (cI fs t kids))):kQ fs gr gm 197 [exV (.mk kind op num name kids)] (ae (dm fs (.mk kind op num name kids))):=by
 intro B g ob hB hf E;refine hdM B [] Tryz.func197 rfl [.tmp 4] a8 hf λO bn s0 w0=>?_;have e:=E;obtain⟨or,⟨M,om,l⟩,r,H⟩:=e;have j:∀k,(1012=B+k)=False:=λk=>by simp;omega
 have b3:exV (.mk kind op num name kids)=.agg [ag kind,ag op,.d (.int .u32 num),bF name,aq (kids.map exD)]:=by unfold exV;simp only[exD,aV,s6,x7]
 rw[b3];unfold Gt at or;obtain⟨X,a⟩:∃X,dm fs (.mk kind op num name kids)=X:=⟨_,rfl⟩
 rw[a];rw[dm]at a;by_cases U:kind<1
 .rw[l9 (.inl U)]at a
  subst a;simp only[go_sem,x6 U];exact gT
 by_cases b:9<kind
 .rw[l9 (.inr b)]at a
  subst a;simp only[go_sem,U,x6 b];exact gT
 rw[j9 a7]at a;simp only[go_sem,U,b];refine aP c9 ?_;obtain h|h|h|h|h|h|h|h|h:kind=1\/kind=2\/kind=3\/kind=4\/kind=5\/kind=6\/kind=7\/kind=8\/kind=9:=a7
 all_goals subst h
 all_goals simp only[go_sem,j,or,r]
 .rw[l9 a7]at a
  subst a;refine sI aa rfl (f:=167) XD Zl XK ?_;rintro _ rfl;simp only[go_sem];refine⟨_,ai.refl _,?_⟩;simp only[go_sem];exact bB.nil (λi hi=>⟨nu,nu⟩) (o:=[ae _]) ⟨_,_,rfl,.one (.d _),rfl⟩ ⟨rfl,rfl,rfl⟩
 .rw[l9 a7]at a
  subst a;refine sI aa rfl (f:=167) XD Zl XK ?_;rintro _ rfl;simp only[go_sem];refine⟨_,ai.refl _,?_⟩;simp only[go_sem];exact bB.nil (λi hi=>⟨nu,nu⟩) (o:=[ae _]) ⟨_,_,rfl,.one (.d _),rfl⟩ ⟨rfl,rfl,rfl⟩
 .rw[j9 a7,l9 a7]at a
  subst a;refine lu aa rfl (f:=169) XD (MN (h 1)) YL (B+30) a7 (λi hi=>nt (hf i a7)) (E.mono hB λi hi=>⟨nu,nu⟩) ?_;simp only[go_sem];refine⟨_,ai.refl _,?_⟩;simp only[go_sem];exact bB.nil (λi hi=>⟨nu,nu⟩) (o:=[ae _]) ⟨_,_,rfl,.one (.d _),rfl⟩ ⟨rfl,rfl,rfl⟩
 .rw[j9 a7,j9 a7,l9 a7]at a
  subst a;refine lu aa rfl (f:=170) XD (Rk (h 1)) YL (B+30) a7 (λi hi=>nt (hf i a7)) (E.mono hB λi hi=>⟨nu,nu⟩) ?_;simp only[go_sem];refine⟨_,ai.refl _,?_⟩;simp only[go_sem];exact bB.nil (λi hi=>⟨nu,nu⟩) (o:=[ae _]) ⟨_,_,rfl,.one (.d _),rfl⟩ ⟨rfl,rfl,rfl⟩
 .rw[l9 a7]at a
  subst a;refine sI aa rfl (f:=167) XD Zl XK ?_;rintro _ rfl;simp only[go_sem];refine⟨_,ai.refl _,?_⟩;simp only[go_sem];exact bB.nil (λi hi=>⟨nu,nu⟩) (o:=[ae _]) ⟨_,_,rfl,.one (.d _),rfl⟩ ⟨rfl,rfl,rfl⟩
 .rw[j9 a7,j9 a7,j9 a7,l9 a7]at a
  subst a;refine lu aa rfl (f:=171) XD (Zn (h 1)) YL (B+30) a7 (λi hi=>nt (hf i a7)) (E.mono hB λi hi=>⟨nu,nu⟩) ?_;simp only[go_sem];refine⟨_,ai.refl _,?_⟩;simp only[go_sem];exact bB.nil (λi hi=>⟨nu,nu⟩) (o:=[ae _]) ⟨_,_,rfl,.one (.d _),rfl⟩ ⟨rfl,rfl,rfl⟩
 .rw[j9 a7,j9 a7,j9 a7,j9 a7]at a
  subst a;refine lu aa rfl (f:=168) XD (CX (h 2)) YL (B+30) a7 (λi hi=>nt (hf i a7)) (E.mono hB λi hi=>⟨nu,nu⟩) ?_;simp only[go_sem];refine⟨_,ai.refl _,?_⟩;simp only[go_sem];exact bB.nil (λi hi=>⟨nu,nu⟩) (o:=[ae _]) ⟨_,_,rfl,.one (.d _),rfl⟩ ⟨rfl,rfl,rfl⟩
 .rw[j9 a7,j9 a7,j9 a7,j9 a7]at a
  subst a;refine lu aa rfl (f:=168) XD (CX (h 2)) YL (B+30) a7 (λi hi=>nt (hf i a7)) (E.mono hB λi hi=>⟨nu,nu⟩) ?_;simp only[go_sem];refine⟨_,ai.refl _,?_⟩;simp only[go_sem];exact bB.nil (λi hi=>⟨nu,nu⟩) (o:=[ae _]) ⟨_,_,rfl,.one (.d _),rfl⟩ ⟨rfl,rfl,rfl⟩
 .rw[j9 a7,j9 a7,j9 a7,j9 a7]at a
  subst a;refine lu aa rfl (f:=168) XD (CX (h 2)) YL (B+30) a7 (λi hi=>nt (hf i a7)) (E.mono hB λi hi=>⟨nu,nu⟩) ?_;simp only[go_sem];refine⟨_,ai.refl _,?_⟩;simp only[go_sem];exact bB.nil (λi hi=>⟨nu,nu⟩) (o:=[ae _]) ⟨_,_,rfl,.one (.d _),rfl⟩ ⟨rfl,rfl,rfl⟩
def Wd:∀(al:Nat)(l:List Ex)(t:Int),bw l<=al->al<=1000000000->kQ fs gr gm 173 [eJ l,ae t] (bv (cI fs t l)):=by
 intro al
 induction al using Nat.strongRecOn with
 |ind al w=>
 intro l t I J B g ob hB hf E;refine hdM B [] Tryz.func173 rfl [.tmp 6] a8 hf λO bn s0 w0=>?_;obtain⟨X,hz⟩:∃X,cI fs t l=X:=⟨_,rfl⟩
 rw[hz];have bz:=Src.KQ l;unfold eJ;simp only[go_sem,j7];refine aG (λm K=>∃k:Nat,m+k=z l/\cI fs t (l.drop k)=X/\K.f 0=aj 1012 gr 0/\K.f 2=ae t/\K.f 9=.one (aq (l.map exD))/\K.f 10=ae (z l)/\K.f 11=ae k/\(∀j,j<B->K.gen j=g j/\K.obj j=ob j)/\(∀j,B+21<=j->K.obj j=N)) (z l) ?_ ?_
 .exact Xw
 rintro m f L U ⟨k,W,b,n,a,r,A,q,fr,ar⟩;simp only at n a r A q fr ar;have x:=ah (k:=k) a7;by_cases u:k<z l
 case neg=>
  have Q:¬(k:Int)<(z l:Int):=a7;obtain rfl:k=z l:=a7;rw[G3,cI]at b;exact ia
 have Q:(k:Int)<(z l:Int):=a7;have G:(0:Int)<=(k:Int):=a7;obtain⟨e,s⟩:=getq u;have Z:=Src.Oz (l7 s);have an:l.drop k=e::l.drop (k+1):=by rw[C3 u,(l6.1 s).2]
 rw[an,cI]at b;obtain⟨kind,op,num,name,kids⟩:=e;rw[szE]at Z;have bl:=Jm (fs:=fs) (gr:=gr) (gm:=gm) (kind:=kind) (op:=op) (num:=num) (name:=name) (kids:=kids) λt=>w (bw kids) a7 kids t (l8 _) a7;obtain⟨y,H⟩:∃y,dm fs (.mk kind op num name kids)=y:=⟨_,rfl⟩
 rw[H]at b bl;have v:exD (.mk kind op num name kids)=[.int .i64 kind,.int .i64 op,.int .u32 num,.str name,.sl (kids.map exD)]:=by simp only[exD,aV]
 simp only[go_sem,n,a,r,A,q,Q,G,s,v];refine cK aa rfl bl (by simp only[go_sem,exV,v,s6,x7]) (B+21) a7 (λi hi=>nt (ar i a7)) ((E.mono hB fr).mono hB λi hi=>⟨nu,nu⟩) ?_;by_cases V:y=t
 .rw[C8 V,x8]at b
  simp only[go_sem,a,x6 V,q,x];refine ao (m-1) a7 ⟨k+1,a7,b,?_⟩;simp only[go_sem,n,a,r,A];exact⟨λj hj=>⟨nt ((fr j hj).1),nt ((fr j hj).2)⟩,λj hj=>nt (ar j hj)⟩
 .rw[A5 V,A9]at b
  subst b;simp only[go_sem,a,V];exact ns
end
end
end
section
open Go Go.Am Go.Asm
open Go.Src (Ex Stm szE bw szS aN bW fM dm cI fb cj jn bK)
attribute[local congr]ite_cc
section
section
variable{fs:List Src.Fn}{gr gm:Nat}
def EL:∀(al:Nat)(e:Ex),szE e<=al->al<=1000000000->kQ fs gr gm 172 [exV e] (bv (fb fs e)):=by
 intro al
 induction al using Nat.strongRecOn with
 |ind al ih=>
 intro e Z hN B g ob hB hf E;refine hdM B [] Tryz.func172 rfl [.tmp 4] a8 hf λO bn s0 w0=>?_;have W:=E;obtain⟨or,⟨M,om,Y⟩,r,H⟩:=W;unfold Gt at or;have L:∀k,(1012=B+k)=False:=λk=>by simp;omega
 have U:∀k,(1010=B+k)=False:=λk=>by simp;omega
 obtain⟨kind,op,num,name,kids⟩:=e;obtain⟨X,hz⟩:∃X,fb fs (.mk kind op num name kids)=X:=⟨_,rfl⟩
 rw[hz];rw[fb]at hz;rw[szE]at Z;have bz:=Src.KQ kids;have I:=Y name;have b3:exV (.mk kind op num name kids)=.agg [ag kind,ag op,.d (.int .u32 num),bF name,aq (kids.map exD)]:=by unfold exV;simp only[exD,aV,s6,x7]
 rw[b3];by_cases G:kind=4
 .rw[l9 G]at hz
  simp only[go_sem,x6 G];refine pP (B:=B) aO mixed aa [B+5] [([0],[0],[],F),([13],[0],[],F),([14],[0],[],F),([15],[0],[],F),([3],[0],[],F),([17],[0],[],F),([16,18],[0],[],F),([19],[0],[],F),([12],[0],[],F),([12],[0],[],F),([],[],[0],F),([5,20],[],[0],F),([21],[],[],T)] 1 rfl c9 rfl a8 ?_;simp only[go_sem];cases V:bW fs name with
  |none=>
    rw[V]at I hz;simp only[H8]at I;simp only[E4,A9]at hz;subst hz
    iterate 10 (apply aT;· (intro t ga u l J;simp only[go_sem,L,U,or,r,H,om,I,E4]at J|-;exact J))
    (apply db;· (intro t ga u l J;simp only[go_sem]at J|-;exact J))
    (apply jY;(focus simp);(focus (intro t ga u l J;simp only[go_sem]at J|-;exact J)))
    apply di;intro l w;simp only[go_sem];refine w _ ?_;clear w l;simp only[go_sem];refine⟨_,ai.refl _,?_⟩;simp only[go_sem];exact bB.nil (λi hi=>⟨nu,nu⟩) (o:=[bv F]) ⟨_,_,rfl,.one (.d _),rfl⟩ ⟨rfl,rfl,rfl⟩
  |some x=>
    obtain⟨nm,ps,ls,wd,body⟩:=x;rw[V]at I hz;simp only[A3,fnD]at I;simp only[C9,x8]at hz
    iterate 10 (apply aT;· (intro t ga u l J;simp only[go_sem,L,U,or,r,H,om,I,C9]at J|-;exact J))
    (apply db;· (intro t ga u l J;simp only[go_sem]at J|-;exact J))
    (apply jY;(focus simp);(focus (intro t ga u l J;simp only[go_sem]at J|-;exact J)))
    apply di;intro l w;simp only[go_sem];refine w _ ?_;clear w l;simp only[go_sem,j7];refine aG (λm K=>∃k:Nat,m+k=z kids/\cj fs (kids.drop k)=X/\K.f 0=aj 1012 gr 0/\K.f 25=.one (aq (kids.map exD))/\K.f 26=ae (z kids)/\K.f 27=ae k/\(∀j,j<B->K.gen j=g j/\K.obj j=ob j)/\(∀j,B+36<=j->K.obj j=N)) (z kids) ?_ ?_
    .exact VL
    exact Xo
 rw[j9 G,x8]at hz;simp only[go_sem,G,j7];refine aG (λm K=>∃k:Nat,m+k=z kids/\cj fs (kids.drop k)=X/\K.f 0=aj 1012 gr 0/\K.f 25=.one (aq (kids.map exD))/\K.f 26=ae (z kids)/\K.f 27=ae k/\(∀j,j<B->K.gen j=g j/\K.obj j=ob j)/\(∀j,B+36<=j->K.obj j=N)) (z kids) ?_ ?_
 .refine⟨0,rfl,by rw[D7];exact hz,?_⟩
  simp only[go_sem]
  first|exact λj hj=>hf j (by omega)|exact⟨λj hj=>⟨nu,nu⟩,λj hj=>nt (hf j (by omega))⟩
 exact Xo
end
end
section
section
variable{fs:List Src.Fn}{gr gm:Nat}
def CY:∀(al:Nat)(l:List Stm),aN l<=al->al<=1000000000->kQ fs gr gm 109 [fH l] (bv (bK fs l)):=by
 intro al
 induction al using Nat.strongRecOn with
 |ind al ih=>
 intro l bd hN B g ob hB hf E;refine hdM B [] Tryz.func109 rfl [.tmp 4] a8 hf λO bn s0 w0=>?_;have n1:∀k,(1012=B+k)=False:=λk=>by simp;omega
 have n2:∀k,(1010=B+k)=False:=λk=>by simp;omega
 obtain⟨X,hz⟩:∃X,bK fs l=X:=⟨_,rfl⟩
 rw[hz];have bz:=Src.KR l;unfold fH;simp only[go_sem,j7];refine aG (λm K=>∃k:Nat,m+k=z l/\bK fs (l.drop k)=X/\K.f 0=aj 1012 gr 0/\K.f 11=.one (aq (l.map smD))/\K.f 12=ae (z l)/\K.f 13=ae k/\(∀j,j<B->K.gen j=g j/\K.obj j=ob j)/\(∀j,B+57<=j->K.obj j=N)) (z l) ?_ ?_
 .exact Xw
 rintro m f g1 av ⟨k,hk,b,q0,q9,A,q,fr,ar⟩;simp only at q0 q9 A q fr ar;have E1:=E.mono hB fr;obtain⟨or,⟨M,om,mM⟩,r,H⟩:=E1;unfold Gt at or;have hw:=ah (k:=k) a7;by_cases af:k<z l
 case neg=>
  have Q:¬(k:Int)<(z l:Int):=a7;obtain rfl:k=z l:=a7;rw[G3,bK]at b;exact ia
 have Q:(k:Int)<(z l:Int):=a7;have bf:(0:Int)<=(k:Int):=a7;obtain⟨e,he⟩:=getq af;have Z:=Src.OA (l7 he);have an:l.drop k=e::l.drop (k+1):=by rw[C3 af,(l6.1 he).2]
 rw[an,bK]at b;obtain⟨kind,name,es,th,el⟩:=e;rw[jn]at b;rw[szS]at Z;have a1:=Src.KQ es;have I:=mM name;have hE:smD (.mk kind name es th el)=[.int .i64 kind,.str name,.sl (es.map exD),.sl (th.map smD),.sl (el.map smD)]:=by simp only[smD,aV,ez]
 have G:=ih (aN th) a7 th (l8 _) a7;have a6:=ih (aN el) a7 el (l8 _) a7;obtain⟨yt,V⟩:∃y,bK fs th=y:=⟨_,rfl⟩
 obtain⟨ye,bo⟩:∃y,bK fs el=y:=⟨_,rfl⟩
 rw[V]at b G;rw[bo]at b a6;by_cases h4:kind=6
 .rw[l9 h4]at b
  simp only[go_sem,q0,q9,A,q,Q,bf,he,hE,x6 h4];refine pP (B:=B) aO mixed aa [B+7] [([0],[0],[],F),([21],[0],[],F),([22],[0],[],F),([23],[0],[],F),([6],[0],[],F),([25],[0],[],F),([24,26],[0],[],F),([27],[0],[],F),([20],[0],[],F),([20],[0],[],F),([],[],[0],F),([7,28],[],[0],F),([29],[],[],T)] 1 rfl c9 rfl a8 ?_;simp only[go_sem];cases ad:bW fs name with
  |none=>
    rw[ad]at I b;simp only[H8]at I;simp only[E4,A9]at b;subst b
    iterate 10 (apply aT;· (intro fa ga oa K' J;simp only[go_sem,q0,n1,n2,or,r,H,om,I,E4]at J|-;exact J))
    (apply db;· (intro fa ga oa K' J;simp only[go_sem]at J|-;exact J))
    (apply jY;(focus simp);(focus (intro fa ga oa K' J;simp only[go_sem]at J|-;exact J)))
    apply di;intro K' a';simp only[go_sem];refine a' _ ?_;clear a' K';exact dM
  |some x=>
    obtain⟨nm,ps,ls,wd,body⟩:=x;rw[ad]at I b;simp only[A3,fnD]at I;simp only[C9,x8]at b
    iterate 10 (apply aT;· (intro fa ga oa K' J;simp only[go_sem,q0,n1,n2,or,r,H,om,I,C9]at J|-;exact J))
    (apply db;· (intro fa ga oa K' J;simp only[go_sem]at J|-;exact J))
    (apply jY;(focus simp);(focus (intro fa ga oa K' J;simp only[go_sem]at J|-;exact J)))
    apply di;intro K' a';simp only[go_sem];refine a' _ ?_;clear a' K';simp only[go_sem,n1,n2,j7];exact j3
 rw[j9 h4,x8]at b;simp only[go_sem,q0,q9,A,q,Q,bf,he,hE,h4,j7];exact j3
end
end
end
section
open Go Go.Am Go.Asm
open Go.Src (Ex Stm szE bw szS aN bW fM dm cI gQ aX)
attribute[local congr]ite_cc
section
section
variable{fs:List Src.Fn}{gr gm:Nat}
def CZ(b6:Src.Fn):∀(al:Nat)(l:List Stm),aN l<=al->al<=1000000000->kQ fs gr gm 110 [fnV b6,fH l] (bv (aX fs b6.word l)):=by
 obtain⟨p,v,L,w,c⟩:=b6;intro al
 induction al using Nat.strongRecOn with
 |ind al W=>
 intro l bd hN B g ob hB hf E;refine hdM B [] Tryz.func110 rfl [.tmp 6] a8 hf λO bn s0 w0=>?_;have n1:∀k,(1012=B+k)=False:=λk=>by simp;omega
 have n2:∀k,(1010=B+k)=False:=λk=>by simp;omega
 have J:fnV ⟨p,v,L,w,c⟩=.agg [bF p,aq (v.map λs=>[.str s]),aq (L.map λs=>[.str s]),bE w,aq (c.map smD)]:=rfl;rw[J]at W|-;simp only at W|-;obtain⟨X,hz⟩:∃X,aX fs w l=X:=⟨_,rfl⟩
 rw[hz];have bz:=Src.KR l;unfold fH;simp only[go_sem,j7]
 refine aG (λm K=>∃k:Nat,m+k=z l/\aX fs w (l.drop k)=X/\K.f 0=aj 1012 gr 0/\K.f 4=aj (B+4) (K.gen (B+4)) 0/\K.f 10=.one (aq (l.map smD))/\K.f 11=ae (z l)/\K.f 12=ae k/\
   K.obj (B+4)=S [bF p,aq (v.map λs=>[.str s]),aq (L.map λs=>[.str s]),bE w,aq (c.map smD)]/\(∀j,j<B->K.gen j=g j/\K.obj j=ob j)/\(∀j,B+65<=j->K.obj j=N)) (z l) ?_ ?_
 .exact VL
 rintro m f g1 av ⟨k,hk,b,q0,q4,q9,A,q,o4,fr,ar⟩;simp only at q0 q4 q9 A q o4 fr ar;have E1:=E.mono hB fr;obtain⟨or,⟨M,om,mM⟩,r,H⟩:=E1;unfold Gt at or;have hw:=ah (k:=k) a7;by_cases af:k<z l
 case neg=>
  have Q:¬(k:Int)<(z l:Int):=a7;obtain rfl:k=z l:=a7;rw[G3,aX]at b;exact ia
 have Q:(k:Int)<(z l:Int):=a7;have bf:(0:Int)<=(k:Int):=a7;obtain⟨e,he⟩:=getq af;have Z:=Src.OA (l7 he);have an:l.drop k=e::l.drop (k+1):=by rw[C3 af,(l6.1 he).2]
 rw[an,aX]at b;obtain⟨kind,name,es,U,el⟩:=e;rw[gQ]at b;rw[szS]at Z;have a1:=Src.KQ es;have I:=mM name;have hE:smD (.mk kind name es U el)=[.int .i64 kind,.str name,.sl (es.map exD),.sl (U.map smD),.sl (el.map smD)]:=by simp only[smD,aV,ez]
 have G:=W (aN U) a7 U (l8 _) a7;have a6:=W (aN el) a7 el (l8 _) a7;have u:=λt=>Wd (fs:=fs) (gr:=gr) (gm:=gm) (bw es) es t (l8 _) a7;obtain⟨yt,V⟩:∃y,aX fs w U=y:=⟨_,rfl⟩
 obtain⟨ye,bo⟩:∃y,aX fs w el=y:=⟨_,rfl⟩
 rw[V]at b G;rw[bo]at b a6;simp only[go_sem,q0,q4,q9,A,q,Q,bf,he,hE];by_cases k4:kind=4
 .subst k4
  rw[l9 a7]at b;simp only[show ((4:Int)==6)=F from rfl,show ((4:Int)==7)=F from rfl,A9,K7,x8]at b
  try (simp only[go_sem,q0,q4,o4])
  exact la
 by_cases k5:kind=5
 .subst k5
  rw[l9 a7]at b;simp only[show ((5:Int)==6)=F from rfl,show ((5:Int)==7)=F from rfl,A9,K7,x8]at b
  try (simp only[go_sem,q0,q4,o4])
  exact la
 rw[j9 a7]at b;by_cases P:kind=6
 .subst P
  simp only[show ((6:Int)==6)=T from rfl,show ((6:Int)==7)=F from rfl,A9,K7,x8,K8]at b;unfold fM at b;simp only[go_sem];refine aP c9 ?_;cases ad:bW fs name with
  |none=>
    rw[ad]at I b;simp only[H8]at I;simp only[K7,x8]at b;simp only[go_sem,n1,n2,q0,or,r,H,om,I,E4]
    try (simp only[go_sem,q0,q4,o4])
    exact gG
  |some x=>
    obtain⟨nm,ps,ls,wd,body⟩:=x;rw[ad]at I b;simp only[A3,fnD]at I;cases wd
    .simp only[K7,x8]at b
     simp only[go_sem,n1,n2,q0,or,r,H,om,I,C9]
     try (simp only[go_sem,q0,q4,o4])
     exact gG
    .simp only[P1,A9]at b
     subst b;simp only[go_sem,n1,n2,q0,or,r,H,om,I,C9];exact ns
 rw[show (kind==6)=F by simp[P]]at b;by_cases Y:kind=7
 .subst Y
  simp only[show ((7:Int)==7)=T from rfl,A9,K7,x8]at b;by_cases n:0<z es
  .have h:(0:Int)<(z es:Int):=a7
   rw[C8 n]at b;simp only[x8,Bool.not_not]at b;cases w
   .simp only[A9]at b
    subst b;simp only[go_sem,j7,h,q4,o4];exact ns
   simp only[x8]at b;simp only[go_sem,j7,h,q4,o4]
   try (simp only[go_sem,q0,q4,o4])
   exact gG
  have h:¬(0:Int)<(z es:Int):=a7;rw[A5 n]at b;simp only[A9,K7,x8]at b;simp only[go_sem,j7,h,q4,o4]
  try (simp only[go_sem,q0,q4,o4])
  exact gG
 rw[show (kind==7)=F by simp[Y]]at b;simp only[A9,K7,x8]at b;simp only[go_sem,k4,k5,P,Y]
 try (simp only[go_sem,q0,q4,o4])
 exact gG
end
end
section
variable{l:List Src.Fn}
def AR.put{M:List C}{f:Src.Fn}(h:AR M l)(b:bW l f.name=N):AR (mset M (.str f.name) (.d (.iptr (fnD f)))) (l++[f]):=λs=>by
 rw[pM,Src.Sy];simp only[kO,bW];by_cases a:f.name=s
 .subst a
  rw[b];simp
 .simp only[a,L7,E0,B1]
  rw[h s];cases bW l s<;>rfl
def AR.old{M:List C}{f x:Src.Fn}(h:AR M l)(b:bW l f.name=S x):AR M (l++[f]):=λs=>by
 rw[h s,Src.Sy];cases a:bW l s with
 |some y=>rfl
 |none=>
   simp only[bW];rw[j9 (by rintro rfl;rw[b]at a;cases a)]
def r9{P:Prop}(h:P:=by repeat' (first|assumption|rfl|(intro i hi;(try simp only[upd]);(try rw[j9 hi]);exact ho i hi)|(intro hh;first|exact h0 hh|exact U hh|exact h2 hh|exact h3 hh|exact h4 hh|exact h5 hh|exact h6 hh|exact h7 hh|exact h8 hh|exact o hh|exact H hh|exact e hh|exact b hh|exact w hh|exact q hh)|apply A4)):P:=h
def MO{g:Nat->Nat}{ob:Obs}(p:Src.Prog)(az:szP p<=1000000000):
  dj Tryz.prog 108 [cl p] g ob (λr g' Y=>∃gr gm,r=aj 1012 gr 0/\zb p.f gr gm g' Y/\∀i,i<1000\/1100<=i->g' i=g i/\Y i=ob i) (λ_ _ _=>False):=by
 refine hdX 1000 Tryz.func108 rfl [.tmp 2] λO bn s0 w0=>?_;unfold szP at az;have G:cl p=.agg [aq (p.v.map λs=>[.str s]),aq (p.a.map arD),aq (p.f.map fnD)]:=rfl;rw[G];simp only[go_sem,j7]
 refine aG (λm K=>∃k:Nat,m+k=z p.f/\K.f 3=aj 1012 (K.gen 1012) 0/\K.f 14=.one (aq (p.f.map fnD))/\K.f 15=ae (z p.f)/\K.f 16=ae k/\
   K.obj 1012=S [.mp 1010 (K.gen 1010) 208,.d .nilf,.d .nilf,.d .nilf,.d .nilf,.d .nilf,.d .nilf,.d .nilf,.d .nilf,.d .nilf,.d .nilf]/\(∃M,K.obj 1010=S M/\AR M (p.f.take k))/\(∀i,i<1000\/1100<=i->K.gen i=g i/\K.obj i=ob i)) (z p.f) ?_ ?_
 .refine⟨0,rfl,?_⟩
  simp only[go_sem];exact⟨⟨[],rfl,λs=>rfl⟩,λi hi=>⟨nu,nu⟩⟩
 rintro m f g1 av ⟨k,hk,q3,E,n,A,P,⟨M,oM,mM⟩,fr⟩;simp only at q3 E n A P oM fr;have hw:=ah (k:=k) a7;by_cases af:k<z p.f
 .have Q:(k:Int)<(z p.f:Int):=a7
  have bf:(0:Int)<=(k:Int):=a7;obtain⟨x,he⟩:=getq af;have a6:fnD x=[.str x.name,.sl (x.p.map λs=>[.str s]),.sl (x.l.map λs=>[.str s]),.bool x.word,.sl (x.body.map smD)]:=rfl;have I:=mM x.name;simp only[go_sem,q3,E,n,A,Q,bf,he,a6];refine pP (B:=1000) aO mixed aa [1006] [([3],[0],[],F),([21],[0],[],F),([22],[0],[],F),([23],[0],[],F),([5],[0],[],F),([25],[0],[],F),([24,26],[0],[],F),([27],[0],[],F),([20],[0],[],F),([20],[0],[],F),([],[],[0],F),([6,28],[],[0],F),([29],[],[],T)] 1 rfl c9 rfl a8 ?_;simp only[go_sem];cases ad:bW (p.f.take k) x.name with
  |none=>
    rw[ad]at I;simp only[H8]at I
    iterate 10 (apply aT;· (intro fa ga oa K' J;simp only[go_sem,q3,P,oM,I,E4]at J|-;exact J))
    (apply db;· (intro fa ga oa K' J;simp only[go_sem]at J|-;exact J))
    (apply jY;(focus simp);(focus (intro fa ga oa K' J;simp only[go_sem]at J|-;exact J)))
    apply di;intro K' a';simp only[go_sem];refine a' _ ?_;clear a' K';simp only[go_sem];refine aP c9 ?_;simp only[go_sem,q3,P,oM,A,hw];refine ao (m-1) a7 ⟨k+1,a7,?_⟩;have hT:p.f.take (k+1)=p.f.take k++[x]:=by rw[D2,he,Ln]
    simp only[go_sem,q3,E,n,P];exact⟨⟨_,rfl,by rw[hT];exact mM.put ad⟩,λi hi=>⟨nt ((fr i hi).1),nt ((fr i hi).2)⟩⟩
  |some y=>
    obtain⟨nm,ps,ls,wd,body⟩:=y;rw[ad]at I;simp only[A3,fnD]at I
    iterate 10 (apply aT;· (intro fa ga oa K' J;simp only[go_sem,q3,P,oM,I,C9]at J|-;exact J))
    (apply db;· (intro fa ga oa K' J;simp only[go_sem]at J|-;exact J))
    (apply jY;(focus simp);(focus (intro fa ga oa K' J;simp only[go_sem]at J|-;exact J)))
    apply di;intro K' a';simp only[go_sem];refine a' _ ?_;clear a' K';simp only[go_sem,A,hw];refine ao (m-1) a7 ⟨k+1,a7,?_⟩;have hT:p.f.take (k+1)=p.f.take k++[x]:=by rw[D2,he,Ln]
    simp only[go_sem,q3,E,n,P];exact⟨⟨M,oM,by rw[hT];exact mM.old ad⟩,λi hi=>⟨nt ((fr i hi).1),nt ((fr i hi).2)⟩⟩
 have Q:¬(k:Int)<(z p.f:Int):=a7;obtain rfl:k=z p.f:=a7;rw[s7 (l8 _)]at mM;simp only[go_sem,q3,n,A,Q,P];refine sF (B:=1000) aO mixed aa c9 c9 (λL s=>s.gen=g1/\(∀i,i≠1012->s.obj i=av i)/\s.f 3=aj 1012 (g1 1012) 0/\s.f 8=.one (.d (.fn 167))/\s.f 9=.one (.clo (168+1000000) [.ptr 1012 (g1 1012) 0])/\(L 0=T->s.f 42=aj 1012 (g1 1012) 0)/\(L 1=T->s.f 43=aj 1012 (g1 1012) 0)/\(L 2=T->s.f 44=aj 1012 (g1 1012) 0)/\(L 3=T->s.f 45=.one (.d (.fn 167)))/\(L 4=T->s.f 46=.one (.d (.fn 167)))/\(L 5=T->s.f 47=.one (.d (.fn 167)))/\(L 6=T->s.f 48=aj 1012 (g1 1012) 0)/\(L 7=T->s.f 49=aj 1012 (g1 1012) 1)/\(L 8=T->s.f 50=aj 1012 (g1 1012) 2)/\(L 10=T->s.f 51=aj 1012 (g1 1012) 0)/\(L 11=T->s.f 52=aj 1012 (g1 1012) 1)/\(L 12=T->s.f 53=aj 1012 (g1 1012) 3)/\(L 14=T->s.f 54=aj 1012 (g1 1012) 0)/\(L 15=T->s.f 55=aj 1012 (g1 1012) 1)/\(L 16=T->s.f 56=aj 1012 (g1 1012) 6)/\s.obj 1012=S [.mp 1010 (g1 1010) 208,.d .nilf,if L 9=T then .d (.fn 167)else .d .nilf,if L 13=T then .d (.fn 167)else .d .nilf,.d .nilf,.d .nilf,if L 17=T then .d (.fn 167)else .d .nilf,.d .nilf,.d .nilf,.d .nilf,.d .nilf]) ?_ ?_ ?_
 .exact⟨rfl,λi hi=>rfl,by simp only[go_sem,q3],by simp only[go_sem,q3],by simp only[go_sem,q3],λh=>by simp at h,λh=>by simp at h,λh=>by simp at h,λh=>by simp at h,λh=>by simp at h,λh=>by simp at h,λh=>by simp at h,λh=>by simp at h,λh=>by simp at h,λh=>by simp at h,λh=>by simp at h,λh=>by simp at h,λh=>by simp at h,λh=>by simp at h,λh=>by simp at h,by simp only[go_sem,P,E0]⟩
 .rintro L ⟨f',g',Y⟩ i op ⟨hg,ho,k3,k8,V,h0,U,h2,h3,h4,h5,h6,h7,h8,o,H,e,b,w,q,Z⟩ u hL c b8
  simp only at hg ho k3 k8 V h0 U h2 h3 h4 h5 h6 h7 h8 o H e b w q Z;subst hg
  match i,u with
  |0,u=>
    exact nn
  |1,u=>
    exact nn
  |2,u=>
    exact nn
  |3,u=>
    exact nn
  |4,u=>
    exact nn
  |5,u=>
    exact nn
  |6,u=>
    simp only[y7,w8,u7,w7]at u;subst u;have d0:L 0=T:=c ⟨0,.data⟩ a8 rfl;simp only[go_sem,h0 d0,k3,k8,V,Z];exact r9
  |7,u=>
    simp only[y7,w8,u7,w7]at u;subst u;have d6:L 6=T:=c ⟨6,.data⟩ a8 rfl;simp only[go_sem,h6 d6,k3,k8,V,Z];exact r9
  |8,u=>
    simp only[y7,w8,u7,w7]at u;subst u;have d7:L 7=T:=c ⟨7,.data⟩ a8 rfl;simp only[go_sem,h7 d7,k3,k8,V,Z];exact r9
  |9,u=>
    simp only[y7,w8,u7,w7]at u;subst u;have d8:L 8=T:=c ⟨8,.data⟩ a8 rfl;have d3:L 3=T:=c ⟨3,.data⟩ a8 rfl;simp only[go_sem,h8 d8,h3 d3,k3,k8,V,Z];exact r9
  |10,u=>
    simp only[y7,w8,u7,w7]at u;subst u;have d1:L 1=T:=c ⟨1,.data⟩ a8 rfl;simp only[go_sem,U d1,k3,k8,V,Z];exact r9
  |11,u=>
    simp only[y7,w8,u7,w7]at u;subst u;have X:L 10=T:=c ⟨10,.data⟩ a8 rfl;simp only[go_sem,o X,k3,k8,V,Z];exact r9
  |12,u=>
    simp only[y7,w8,u7,w7]at u;subst u;have al:L 11=T:=c ⟨11,.data⟩ a8 rfl;simp only[go_sem,H al,k3,k8,V,Z];exact r9
  |13,u=>
    simp only[y7,w8,u7,w7]at u;subst u;have W:L 12=T:=c ⟨12,.data⟩ a8 rfl;have d4:L 4=T:=c ⟨4,.data⟩ a8 rfl;simp only[go_sem,e W,h4 d4,k3,k8,V,Z];exact r9
  |14,u=>
    simp only[y7,w8,u7,w7]at u;subst u;have d2:L 2=T:=c ⟨2,.data⟩ a8 rfl;simp only[go_sem,h2 d2,k3,k8,V,Z];exact r9
  |15,u=>
    simp only[y7,w8,u7,w7]at u;subst u;have an:L 14=T:=c ⟨14,.data⟩ a8 rfl;simp only[go_sem,b an,k3,k8,V,Z];exact r9
  |16,u=>
    simp only[y7,w8,u7,w7]at u;subst u;have ar:L 15=T:=c ⟨15,.data⟩ a8 rfl;simp only[go_sem,w ar,k3,k8,V,Z];exact r9
  |17,u=>
    simp only[y7,w8,u7,w7]at u;subst u;have a1:L 16=T:=c ⟨16,.data⟩ a8 rfl;have d5:L 5=T:=c ⟨5,.data⟩ a8 rfl;simp only[go_sem,q a1,h5 d5,k3,k8,V,Z];exact r9
  |j+18,u=>exact absurd u a8
 rintro L ⟨f',g',Y⟩ ⟨hg,ho,k3,k8,V,h0,U,h2,h3,h4,h5,h6,h7,h8,o,H,e,b,w,q,Z⟩ bs;simp only at hg ho k3 k8 V h0 U h2 h3 h4 h5 h6 h7 h8 o H e b w q Z;subst hg;rw[bs 9 b9,bs 13 b9,bs 17 b9]at Z;simp only[B5]at Z;clear bs h0 U h2 h3 h4 h5 h6 h7 h8 o H e b w q;have t:=ho;simp only[go_sem,k3,V,Z];refine sF (B:=1000) aO mixed aa c9 c9 (λL s=>s.gen=g'/\(∀i,i≠1012->s.obj i=Y i)/\s.f 3=aj 1012 (g' 1012) 0/\s.f 9=.one (.clo (168+1000000) [.ptr 1012 (g' 1012) 0])/\(L 0=T->s.f 75=aj 1012 (g' 1012) 0)/\(L 1=T->s.f 76=aj 1012 (g' 1012) 0)/\(L 2=T->s.f 77=aj 1012 (g' 1012) 0)/\(L 3=T->s.f 78=.one (.clo (168+1000000) [.ptr 1012 (g' 1012) 0]))/\(L 4=T->s.f 79=.one (.clo (168+1000000) [.ptr 1012 (g' 1012) 0]))/\(L 5=T->s.f 80=.one (.clo (168+1000000) [.ptr 1012 (g' 1012) 0]))/\(L 6=T->s.f 81=aj 1012 (g' 1012) 0)/\(L 7=T->s.f 82=aj 1012 (g' 1012) 1)/\(L 8=T->s.f 83=aj 1012 (g' 1012) 8)/\(L 10=T->s.f 84=aj 1012 (g' 1012) 0)/\(L 11=T->s.f 85=aj 1012 (g' 1012) 1)/\(L 12=T->s.f 86=aj 1012 (g' 1012) 9)/\(L 14=T->s.f 87=aj 1012 (g' 1012) 0)/\(L 15=T->s.f 88=aj 1012 (g' 1012) 1)/\(L 16=T->s.f 89=aj 1012 (g' 1012) 10)/\s.obj 1012=S [.mp 1010 (g' 1010) 208,.d .nilf,.d (.fn 167),.d (.fn 167),.clo (169+1000000) [.ptr 1012 (g' 1012) 0],.clo (170+1000000) [.ptr 1012 (g' 1012) 0],.d (.fn 167),.clo (171+1000000) [.ptr 1012 (g' 1012) 0],if L 9=T then .clo (168+1000000) [.ptr 1012 (g' 1012) 0]else .d .nilf,if L 13=T then .clo (168+1000000) [.ptr 1012 (g' 1012) 0]else .d .nilf,if L 17=T then .clo (168+1000000) [.ptr 1012 (g' 1012) 0]else .d .nilf]) ?_ ?_ ?_
 .exact⟨rfl,λi hi=>nu,by simp only[go_sem,k3,V],by simp only[go_sem,k3,V],λh=>by simp at h,λh=>by simp at h,λh=>by simp at h,λh=>by simp at h,λh=>by simp at h,λh=>by simp at h,λh=>by simp at h,λh=>by simp at h,λh=>by simp at h,λh=>by simp at h,λh=>by simp at h,λh=>by simp at h,λh=>by simp at h,λh=>by simp at h,λh=>by simp at h,by simp only[go_sem,Z,E0]⟩
 .rintro L ⟨f2,g2,bo⟩ i op ⟨hg,ho,k3,V,h0,U,h2,h3,h4,h5,h6,h7,h8,o,H,e,b,w,q,Z⟩ u hL c b8
  simp only at hg ho k3 V h0 U h2 h3 h4 h5 h6 h7 h8 o H e b w q Z;subst hg
  match i,u with
  |0,u=>
    exact n9
  |1,u=>
    exact n9
  |2,u=>
    exact n9
  |3,u=>
    exact n9
  |4,u=>
    exact n9
  |5,u=>
    exact n9
  |6,u=>
    simp only[y7,w8,u7,w7]at u;subst u;have d0:L 0=T:=c ⟨0,.data⟩ a8 rfl;simp only[go_sem,h0 d0,k3,V,Z];exact r9
  |7,u=>
    simp only[y7,w8,u7,w7]at u;subst u;have d6:L 6=T:=c ⟨6,.data⟩ a8 rfl;simp only[go_sem,h6 d6,k3,V,Z];exact r9
  |8,u=>
    simp only[y7,w8,u7,w7]at u;subst u;have d7:L 7=T:=c ⟨7,.data⟩ a8 rfl;simp only[go_sem,h7 d7,k3,V,Z];exact r9
  |9,u=>
    simp only[y7,w8,u7,w7]at u;subst u;have d8:L 8=T:=c ⟨8,.data⟩ a8 rfl;have d3:L 3=T:=c ⟨3,.data⟩ a8 rfl;simp only[go_sem,h8 d8,h3 d3,k3,V,Z];exact r9
  |10,u=>
    simp only[y7,w8,u7,w7]at u;subst u;have d1:L 1=T:=c ⟨1,.data⟩ a8 rfl;simp only[go_sem,U d1,k3,V,Z];exact r9
  |11,u=>
    simp only[y7,w8,u7,w7]at u;subst u;have X:L 10=T:=c ⟨10,.data⟩ a8 rfl;simp only[go_sem,o X,k3,V,Z];exact r9
  |12,u=>
    simp only[y7,w8,u7,w7]at u;subst u;have al:L 11=T:=c ⟨11,.data⟩ a8 rfl;simp only[go_sem,H al,k3,V,Z];exact r9
  |13,u=>
    simp only[y7,w8,u7,w7]at u;subst u;have W:L 12=T:=c ⟨12,.data⟩ a8 rfl;have d4:L 4=T:=c ⟨4,.data⟩ a8 rfl;simp only[go_sem,e W,h4 d4,k3,V,Z];exact r9
  |14,u=>
    simp only[y7,w8,u7,w7]at u;subst u;have d2:L 2=T:=c ⟨2,.data⟩ a8 rfl;simp only[go_sem,h2 d2,k3,V,Z];exact r9
  |15,u=>
    simp only[y7,w8,u7,w7]at u;subst u;have an:L 14=T:=c ⟨14,.data⟩ a8 rfl;simp only[go_sem,b an,k3,V,Z];exact r9
  |16,u=>
    simp only[y7,w8,u7,w7]at u;subst u;have ar:L 15=T:=c ⟨15,.data⟩ a8 rfl;simp only[go_sem,w ar,k3,V,Z];exact r9
  |17,u=>
    simp only[y7,w8,u7,w7]at u;subst u;have a1:L 16=T:=c ⟨16,.data⟩ a8 rfl;have d5:L 5=T:=c ⟨5,.data⟩ a8 rfl;simp only[go_sem,q a1,h5 d5,k3,V,Z];exact r9
  |j+18,u=>exact absurd u a8
 rintro L ⟨f2,g2,bo⟩ ⟨hg,ho,k3,V,h0,U,h2,h3,h4,h5,h6,h7,h8,o,H,e,b,w,q,Z⟩ bs;simp only at hg ho k3 V h0 U h2 h3 h4 h5 h6 h7 h8 o H e b w q Z;subst hg;rw[bs 9 b9,bs 13 b9,bs 17 b9]at Z;simp only[B5]at Z;clear bs h0 U h2 h3 h4 h5 h6 h7 h8 o H e b w q;simp only[go_sem];refine⟨_,ai.refl _,?_⟩;simp only[go_sem,k3];refine⟨_,_,rfl,⟨Z,⟨M,(ho 1010 b9).trans ?_,mM⟩,rfl,rfl⟩,λi hi=>⟨(fr i hi).1,?_⟩⟩
 ·(try simp only[upd]);(repeat rw[j9 (by omega)])
  exact(t 1010 b9).trans oM
 .rw[ho i a7]
  (try simp only[upd]);(repeat rw[j9 (by omega)])
  rw[t i a7];exact(fr i hi).2
end
end
section
open Go Go.Am Go.Asm
open Go.Src (Ex Stm szE bw szS aN bK aX mu aZ eZ dP)
attribute[local congr]ite_cc
def MP{o:cT}(p:Src.Prog)(az:szP p<=1000000000):ck Tryz.prog 1 o 69 [cl p] (·=ae (mu p:Nat)):=by
 refine hdG Tryz.func69 rfl [.tmp 2] λO bn s0 w0 g=>?_;obtain⟨X,b⟩:∃X,mu p=X:=⟨_,rfl⟩
 rw[b];have u:=az;unfold szP at az;unfold mu at b;have G:cl p=.agg [aq (p.v.map λs=>[.str s]),aq (p.a.map arD),aq (p.f.map fnD)]:=rfl;rw[G];simp only[go_sem];refine cH aL rfl (by simp only[go_sem];rw[<-G];exact MO p u) ?_ ?_
 .exact iB
 rintro r Z V ⟨gr,gm,rfl,E,fr⟩;have w:=fr 1 (.inl b9);simp[upd]at w;have ar:∀j,1100<=j->V j=N:=λj A=>by rw[(fr j (.inr a7)).2];simp only[upd];rw[j9 a7]
 clear fr;simp only[go_sem,w.1,w.2,j7]
 refine aG (λm K=>∃k:Nat,m+k=z p.f/\(p.f.take k).all (λf=>bK p.f f.body)=T/\K.f 1=aj 1 (K.gen 1) 0/\K.f 3=aj 1012 gr 0/\K.f 11=.one (aq (p.f.map fnD))/\K.f 12=ae (z p.f)/\K.f 13=ae k/\
   K.obj 1=S (jJ p)/\zb p.f gr gm K.gen K.obj/\∀j,1100<=j->K.obj j=N) (z p.f) ?_ ?_
 .refine⟨0,rfl,a8,?_⟩
  simp only[go_sem,w.1,w.2];exact⟨rfl,E,ar⟩
 clear w ar E;rintro m f Z V ⟨k,hk,bs,H,d,q,I,c,o1,E,ar⟩;simp only at H d q I c o1 E ar;have L:=ah (k:=k) a7;by_cases U:k<z p.f
 .have Q:(k:Int)<(z p.f:Int):=a7
  have W:(0:Int)<=(k:Int):=a7;obtain⟨x,e⟩:=getq U;have P:=kq (p:=p) (l7 e);unfold szP at P;have Y:fnD x=[.str x.name,.sl (x.p.map λs=>[.str s]),.sl (x.l.map λs=>[.str s]),.bool x.word,.sl (x.body.map smD)]:=rfl;have t:=CY (fs:=p.f) (gr:=gr) (gm:=gm) (aN x.body) x.body (l8 _) a7;obtain⟨y,n⟩:∃y,bK p.f x.body=y:=⟨_,rfl⟩
  rw[n]at t;simp only[go_sem,d,q,I,c,Q,W,e,Y];refine cK aL rfl t XK 2000 a7 (λi hi=>nt (ar i a7)) ⟨by simp[upd];exact E.or,by simp[upd];exact E.om,by simp[upd];exact E.gr,by simp[upd];exact E.gm⟩ ?_;cases y
  .rw[l9 (Src.all_false (p:=λf=>bK p.f f.body) e n)]at b
   subst b;exact gW
  .simp only[go_sem,c,L]
   refine ao (m-1) a7 ⟨k+1,a7,Src.WN bs e n,?_⟩;simp only[go_sem,H,d,q,I];exact⟨o1,⟨by simp[upd];exact E.or,by simp[upd];exact E.om,by simp[upd];exact E.gr,by simp[upd];exact E.gm⟩,λj A=>nt (ar j A)⟩
 have Q:¬(k:Int)<(z p.f:Int):=a7;obtain rfl:k=z p.f:=a7;rw[s7 (l8 _)]at bs;rw[j9 (by rw[bs];simp)]at b;have B:=o1;unfold jJ jt at o1;simp only[s6,x7]at o1;simp only[go_sem,H,I,c,Q,o1,j7]
 refine aG (λm K=>∃k:Nat,m+k=z p.f/\(p.f.take k).all (λf=>aX p.f f.word f.body)=T/\K.f 3=aj 1012 gr 0/\K.f 24=.one (aq (p.f.map fnD))/\K.f 25=ae (z p.f)/\K.f 26=ae k/\
   zb p.f gr gm K.gen K.obj/\∀j,1100<=j->K.obj j=N) (z p.f) ?_ ?_
 .refine⟨0,rfl,a8,?_⟩
  simp only[go_sem,d];exact⟨E,ar⟩
 clear H d q I c o1 B E ar U Q hk L;rintro m f Z V ⟨k,hk,bk,d,q,I,c,E,ar⟩;simp only at d q I c E ar;have L:=ah (k:=k) a7;by_cases U:k<z p.f
 .have Q:(k:Int)<(z p.f:Int):=a7
  have W:(0:Int)<=(k:Int):=a7;obtain⟨x,e⟩:=getq U;have P:=kq (p:=p) (l7 e);unfold szP at P;have Y:fnD x=[.str x.name,.sl (x.p.map λs=>[.str s]),.sl (x.l.map λs=>[.str s]),.bool x.word,.sl (x.body.map smD)]:=rfl;have J:fnV x=.agg [bF x.name,aq (x.p.map λs=>[.str s]),aq (x.l.map λs=>[.str s]),bE x.word,aq (x.body.map smD)]:=rfl;have t:=CZ (fs:=p.f) (gr:=gr) (gm:=gm) x (aN x.body) x.body (l8 _) a7;obtain⟨y,n⟩:∃y,aX p.f x.word x.body=y:=⟨_,rfl⟩
  rw[n,J]at t;simp only[go_sem,d,q,I,c,Q,W,e,Y];refine cK aL rfl t XK 2000 a7 (λi hi=>nt (ar i a7)) ⟨by simp[upd];exact E.or,by simp[upd];exact E.om,by simp[upd];exact E.gr,by simp[upd];exact E.gm⟩ ?_;cases y
  .rw[l9 (Src.all_false (p:=λf=>aX p.f f.word f.body) e n)]at b
   subst b;exact gW
  .simp only[go_sem,c,L]
   refine ao (m-1) a7 ⟨k+1,a7,Src.WN bk e n,?_⟩;simp only[go_sem,d,q,I];exact⟨⟨by simp[upd];exact E.or,by simp[upd];exact E.om,by simp[upd];exact E.gr,by simp[upd];exact E.gm⟩,λj A=>nt (ar j A)⟩
 have Q:¬(k:Int)<(z p.f:Int):=a7;obtain rfl:k=z p.f:=a7;rw[s7 (l8 _)]at bk;rw[j9 (by rw[bk];simp)]at b;subst b;simp only[go_sem,I,c,Q]
def MQ{o:cT}(ho:kN o)(p:Src.Prog)(az:szP p<=1000000000):ck Tryz.prog 1 o 43 [cl p] (·=ae (aZ p:Nat)):=by
 refine hdG Tryz.func43 rfl [.tmp 2] λO bn s0 w0 g=>?_;obtain⟨X,b⟩:∃X,aZ p=X:=⟨_,rfl⟩
 rw[b];unfold aZ at b;have G:cl p=.agg [aq (p.v.map λs=>[.str s]),aq (p.a.map arD),aq (p.f.map fnD)]:=rfl;have hR:=EJ ho p az;have hT:=MP (o:=o) p az;rw[G]at hR hT|-;simp only[go_sem];refine cU rfl ZP ?_;rintro _ rfl;cases V:dP p
 .rw[l9 V]at b
  subst b;exact gW
 rw[j9 (by rw[V];simp)]at b
 have e:1<=z p.f:=by
  unfold dP at V;simp at V;exact V.1.1.1
 have hS:=MM (o:=o) p e az;rw[G]at hS;simp only[go_sem];refine cU rfl Ze ?_;rintro _ rfl;by_cases d:eZ p=0
 .rw[j9 (by simp[d])]at b
  simp only[go_sem,d];refine cU rfl Ys ?_;rintro _ rfl;rw[b];exact gW
 .rw[l9 d]at b
  have bz:¬((eZ p:Nat):Int)=0:=a7;rw[b]at bz|-;simp only[go_sem,bz]
end
end Go.Proofs.YtlacbjnmkhndiaaGreatDoor
namespace Go.Lower
section
structure Ins where
 op:Int
 a:Int
 b:Int
 n:Int
inductive Ex where
 |mk (kind op num slot size:Int) (kids:List Ex)
inductive Stm where
 |mk (kind slot size:Int) (e:List Ex) (th el:List Stm)
abbrev Sig:=List (Int×Bool)
def within(w a n:Int):Prop:=0<=a/\0<=n/\a<=w/\n<=w-a
def callee(ps:Sig)(f:Nat)(g:Int)(args:Nat)(word:Bool):Prop:=∃k:Nat,g=(k:Int)/\k<f/\ps[k]?=S ((args:Int),word)
def okE(w:Int)(ps:Sig)(f:Nat)(q:Int)(kind op num slot size:Int)(n:Nat):Prop:=
 q<=24/\(kind=1\/num=0)/\(kind=6\/op=0)/\(kind=3\/size=0)/\(kind=2\/kind=3\/kind=4\/slot=0)/\
 (((kind=1\/kind=5)/\n=0)\/(kind=2/\within w slot 1/\n=0)\/(kind=3/\1<=size/\size<=4096/\within w slot size/\n=1)\/
  (kind=4/\callee ps f slot n T)\/(kind=6/\4<=op/\op<=15/\n=2)\/(kind=7/\n=1)\/((kind=8\/kind=9)/\n=2))
mutual
def rE(w:Int)(ps:Sig)(f:Nat)(q:Int):Ex->Prop
 |.mk kind op num slot size kids=>okE w ps f q kind op num slot size (z kids)/\rEs w ps f (q+1) kids
def rEs(w:Int)(ps:Sig)(f:Nat)(q:Int):List Ex->Prop
 |[]=>True
 |e::l=>rE w ps f q e/\rEs w ps f q l
end
def okS(w:Int)(ps:Sig)(f:Nat)(word:Bool)(q:Int)(kind slot size:Int)(n nt ne:Nat):Prop:=
 q<=24/\(kind=2\/size=0)/\(kind=1\/kind=2\/kind=6\/slot=0)/\(kind=4\/ne=0)/\(kind=4\/kind=5\/nt=0)/\
 ((kind=1/\within w slot 1/\n=1)\/(kind=2/\1<=size/\size<=4096/\within w slot size/\n=2)\/((kind=3\/kind=4\/kind=5)/\n=1)\/
  (kind=6/\callee ps f slot n F)\/(kind=7/\(n=0\/(word=T/\n=1))))
mutual
def rS(w:Int)(ps:Sig)(f:Nat)(word:Bool)(q:Int):Stm->Prop
 |.mk kind slot size e a el=>okS w ps f word q kind slot size (z e) (z a) (z el)/\rEs w ps f (q+1) e/\rSs w ps f word (q+1) a/\rSs w ps f word (q+1) el
def rSs(w:Int)(ps:Sig)(f:Nat)(word:Bool)(q:Int):List Stm->Prop
 |[]=>True
 |e::l=>rS w ps f word q e/\rSs w ps f word q l
end
abbrev Code:=List (Ins×Int)
def one(kind op num slot size:Int)(d:Int):Code:=
 if kind=1 then [(⟨1,0,0,num⟩,d)]else if kind=2 then [(⟨2,slot,0,0⟩,d)]else if kind=3 then [(⟨4,slot,size,0⟩,d)]else if kind=4 then [(⟨10,slot,0,0⟩,d)]
 else if kind=5 then [(⟨12,0,0,0⟩,d)]else if kind=6 then [(⟨6,op,0,0⟩,d)]else if kind=7 then [(⟨7,0,0,0⟩,d)]else []
def iT(kind d:Int):Code:=if kind=8 then [(⟨7,0,0,0⟩,d+1)]else []
def kG(at':Nat)(d kind:Int)(c0:Code)(a:Nat->Code):Code:=
 let r:=at'+z c0+z (iT kind d)
 c0++(iT kind d++((⟨9,(r+3:Nat),0,0⟩,d+1)::(⟨1,0,0,if kind=8 then 0 else 1⟩,d)::(⟨8,(r+3+z (a (r+3))+2:Nat),0,0⟩,d+1)::(a (r+3)++[(⟨7,0,0,0⟩,d+1),(⟨7,0,0,0⟩,d+1)])))
mutual
def cE(at':Nat)(d:Int):Ex->Code
 |.mk kind op num slot size kids=>
   if kind=8\/kind=9 then cAO at' d kind kids
   else cEs at' d kids++one kind op num slot size (d+z kids)
def cEs(at':Nat)(d:Int):List Ex->Code
 |[]=>[]
 |e::l=>cE at' d e++cEs (at'+z (cE at' d e)) (d+1) l
def cAO(at':Nat)(d kind:Int):List Ex->Code
 |[]=>[]
 |e::l=>kG at' d kind (cE at' d e) (λr=>kh r d l)
def kh(at':Nat)(d:Int):List Ex->Code
 |[]=>[]
 |e::_=>cE at' d e
end
def takes(ps:Sig)(word:Bool)(x:Ins):Option (Int×Int):=
 if x.op=1\/x.op=2\/x.op=12 then S (0,1)else if x.op=3\/x.op=9\/x.op=13 then S (1,0)else if x.op=4\/x.op=7 then S (1,1)
 else if x.op=5 then S (2,0)else if x.op=6 then S (2,1)else if x.op=8 then S (0,0)
 else if x.op=10 then(if x.a<0 then N else(ps[x.a.toNat]?).map λp=>(p.1,if p.2 then 1 else 0))
 else if x.op=11 then S (if word then(1,0)else(0,0))else N
def next(x:Ins)(at':Nat):List Int:=if x.op=8 then [x.a]else if x.op=9 then [((at'+1:Nat):Int),x.a]else if x.op=11 then []else [((at'+1:Nat):Int)]
def OkI(ps:Sig)(word:Bool)(E:Nat->Option Int)(at':Nat)(x:Ins)(d:Int):Prop:=
 ∃t p,takes ps word x=S (t,p)/\0<=t/\t<=d/\(x.op=11->d=t)/\∀k∈next x at',∃a:Nat,k=(a:Int)/\E a=S (d-t+p)
def Seg(E:Nat->Option Int):Nat->Code->Prop
 |_,[]=>True
 |at',(_,d)::c=>E at'=S d/\Seg E (at'+1) c
def Good(ps:Sig)(word:Bool)(E:Nat->Option Int):Nat->Code->Prop
 |_,[]=>True
 |at',(x,d)::c=>OkI ps word E at' x d/\Good ps word E (at'+1) c
def iX{E:Nat->Option Int}:∀{a b:Code}{at':Nat},Seg E at' (a++b)↔Seg E at' a/\Seg E (at'+z a) b
 |[],b,at'=>by simp[Seg]
 |(x,d)::a,b,at'=>by simp only[C6,Seg,iX (a:=a),l4,and_assoc];rw[show at'+(z a+1)=at'+1+z a by omega]
def gq{ps:Sig}{word:Bool}{E:Nat->Option Int}:∀{a b:Code}{at':Nat},Good ps word E at' (a++b)↔Good ps word E at' a/\Good ps word E (at'+z a) b
 |[],b,at'=>by simp[Good]
 |(x,d)::a,b,at'=>by simp only[C6,Good,gq (a:=a),l4,and_assoc];rw[show at'+(z a+1)=at'+1+z a by omega]
end
end Go.Lower
namespace Go.Src
section
open Go.Asm (Str)
abbrev Pl:=List (Str×Int×Int)
def ki:Pl->Str->Option (Int×Int)
 |[],_=>N
 |t::l,s=>if t.1=s then S t.2 else ki l s
def ct(o i:Pl)(s:Str):Int×Int:=match ki i s with|some x=>x|none=>(ki o s).getD (0,0)
mutual
def dK(o i:Pl):Ex->Lower.Ex
 |.mk kind op num name kids=>.mk kind op num (ct o i name).1 (ct o i name).2 (bm o i kids)
def bm(o i:Pl):List Ex->List Lower.Ex
 |[]=>[]
 |e::l=>dK o i e::bm o i l
end
def lS(o i:Pl):∀l:List Ex,bm o i l=l.map (dK o i)
 |[]=>by simp[bm]
 |e::l=>by simp[bm,lS o i l]
mutual
def coreS(o i:Pl):Stm->Lower.Stm
 |.mk kind name e a el=>.mk kind (ct o i name).1 (ct o i name).2 (bm o i e) (bP o i a) (bP o i el)
def bP(o i:Pl):List Stm->List Lower.Stm
 |[]=>[]
 |s::l=>coreS o i s::bP o i l
end
def lT(o i:Pl):∀l:List Stm,bP o i l=l.map (coreS o i)
 |[]=>by simp[bP]
 |e::l=>by simp[bP,lT o i l]
structure CFn where
 p:Int
 slots:Int
 first:Int
 word:Bool
 body:List Lower.Stm
def gV:List Str->Pl->Int->Pl×Int
 |[],m,w=>(m,w)
 |n::l,m,w=>gV l ((n,w,0)::m) (w+1)
def gA:List (Str×Int)->Pl->Int->Pl×Int
 |[],m,w=>(m,w)
 |a::l,m,w=>gA l ((a.1,w,a.2)::m) (w+a.2)
def gF:Nat->List Fn->Pl->Pl
 |_,[],m=>m
 |i,f::l,m=>gF (i+1) l ((f.name,(i:Int),0)::m)
def au(p:Prog):Pl×Int:=
 (gF 0 p.f (gA p.a (gV p.v [] 0).1 (gV p.v [] 0).2).1,(gA p.a (gV p.v [] 0).1 (gV p.v [] 0).2).2)
def lP(w:Int):Nat->List Str->Pl->Pl
 |_,[],m=>m
 |i,n::l,m=>lP w (i+1) l ((n,w+i,0)::m)
def mY(o:Pl)(f:Fn)(w:Int):CFn:=
 ⟨z f.p,z f.p+z f.l,w,f.word,bP o (lP (w+z f.p) 0 f.l (lP w 0 f.p [])) f.body⟩
def dy(o:Pl):List Fn->Int->List CFn×Int
 |[],w=>([],w)
 |f::l,w=>(mY o f w::(dy o l (w+(z f.p+z f.l))).1,(dy o l (w+(z f.p+z f.l))).2)
structure Core where
 words:Int
 f:List CFn
def ab(p:Prog):Core:=⟨(dy (au p).1 p.f (au p).2).2,(dy (au p).1 p.f (au p).2).1⟩
def jB(p:Prog):Core×Nat:=
 if aZ p≠0 then(⟨0,[]⟩,aZ p)else if 32768<(ab p).words then(⟨0,[]⟩,2)else(ab p,0)
end
end Go.Src

/- A part of the proof; no conditions. -/
import Derived.Test.YtednjibjomfhfaaGreatDoorPart12
set_option linter.all false
open List renaming length -> z
open Option renaming some -> S, none -> N
open Bool renaming true -> T, false -> F
set_option maxHeartbeats 64000000
set_option maxRecDepth 100000
namespace Go.Proofs.YtednjibjomfhfaaGreatDoor
section
open Go Go.Am Go.Asm
open Go.Src (Ex Stm szE aH szS aE cH iO iy dj ie cJ)
attribute[local congr]ite_cc
section
def AS(M:List C)(fs:List Src.Fn):Prop:=∀s:Str,mget M (.str s)=(cH fs s).map λf=>.d (.iptr (fnD f))
def Gn(gr gm:Nat):List C:=[.mp 1010 gm 208,.d .nilf,.d (.fn 202),.d (.fn 202),.clo (204+1000000) [.ptr 1012 gr 0],.clo (205+1000000) [.ptr 1012 gr 0],.d (.fn 202),.clo (206+1000000) [.ptr 1012 gr 0],.clo (203+1000000) [.ptr 1012 gr 0],.clo (203+1000000) [.ptr 1012 gr 0],.clo (203+1000000) [.ptr 1012 gr 0]]
structure yZ (fs:List Src.Fn) (gr gm:Nat) (g:Nat->Nat) (ob:Obs):Prop where
 or:ob 1012=some (Gn gr gm)
 om:∃M,ob 1010=some M/\AS M fs
 gr:g 1012=gr
 gm:g 1010=gm
variable{kind op num:Int}{name:Str}{kids:List Ex}{fs:List Src.Fn}{K:St->Prop}{args:Array Operand}{tys:Array TypeId}{xs:List AV}{gr gm:Nat}
def yZ.mono{gr gm B:Nat}{g g':Nat->Nat}{ob Z:Obs}(h:yZ fs gr gm g ob)(hB:2000<=B)(a:∀i,i<B->g' i=g i/\Z i=ob i):yZ fs gr gm g' Z where
 or:=by rw[(a 1012 a6).2];exact h.or
 om:=by rw[(a 1010 a6).2];exact h.om
 gr:=by rw[(a 1012 a6).1];exact h.gr
 gm:=by rw[(a 1010 a6).1];exact h.gm
def kG(fs:List Src.Fn)(gr gm:Nat)(f:FuncId)(xs:List AV)(r:AV):Prop:=∀(B:Nat)(g:Nat->Nat)(ob:Obs),2000<=B->(∀i,B<=i->ob i=N)->yZ fs gr gm g ob->
 fv Tryz.prog f (.one (.ptr 1012 gr 0)::xs) g ob (λX a Z=>a=g/\Z=ob/\X=r) (λ_ _ _=>False)
section
variable{O:Bs}{rd:Option Nat}{a:St->Am.Loc->List Deferred->World->Prop}
def cG{e:fW}{g:Nat}(j:br O a){o:Oper}{s:St}{k:Box K}{f:FuncId}(ho:o.op=.call ⟨.value (.func f),args,tys⟩){r:AV}
 (V:kG fs gr gm f xs r)(I:args.toList.map s.ev=.one (.ptr 1012 gr 0)::xs)(c:Nat)(hB:2000<=c)(b:∀i,c<=i->s.obj i=N)(E:yZ fs gr gm s.gen s.obj)(l:K (s.put o.dst r)):bu (spF Tryz.prog rd O a g e) o s k:=by
 refine bX (R:=λX d Z=>d=s.gen/\Z=s.obj/\X=r) (cd:=λ_ _ _=>False) j ho (by rw[I];exact V c s.gen s.obj hB b E) (λ_ _ _ h=>h.elim) ?_;rintro _ d Z ⟨rfl,rfl,rfl⟩;exact l
def kY{e:fW}{g:Nat}(j:br O a){o:Oper}{s:St}{k:Box K}{t:Nat}(ho:o.op=.call ⟨.value (.tmp t),args,tys⟩){f:FuncId}{r:AV}(hf:s.f t=.one (.clo (f+1000000) [.ptr 1012 gr 0]))
 (V:kG fs gr gm f xs r)(I:args.toList.map s.ev=xs)(c:Nat)(hB:2000<=c)(b:∀i,c<=i->s.obj i=N)(E:yZ fs gr gm s.gen s.obj)(l:K (s.put o.dst r)):bu (spF Tryz.prog rd O a g e) o s k:=by
 refine qE (R:=λX d Z=>d=s.gen/\Z=s.obj/\X=r) (cd:=λ_ _ _=>False) j ho hf (by rw[I];exact V c s.gen s.obj hB b E) (λ_ _ _ h=>h.elim) ?_;rintro _ d Z ⟨rfl,rfl,rfl⟩;exact l
end
def Di(e:Ex):aF Tryz.prog 202 [exV e] (·=iv .i64 1):=by
 obtain⟨kind,op,num,name,kids⟩:=e;refine hdP Tryz.func202 rfl [2] λg=>?_;unfold exV;simp only[exD,l9,v8];exact hG
section
variable{fs:List Src.Fn}{gr gm:Nat}
def Dj(h:kG fs gr gm 208 [dE kids,iv .i64 2] (bv (dj fs 2 kids))):kG fs gr gm 203 [exV (.mk kind op num name kids)] (iv .i64 (if dj fs 2 kids then 2 else 0)):=by
 intro B g ob hB hf E;refine hdM B [] Tryz.func203 rfl [.tmp 4] a8 hf λO bo s0 w0=>?_;unfold exV;simp only[exD,aA,l9,v8];simp only[go_sem];refine cG aa rfl h Wt (B+20) a6 (λi hi=>nt (hf i a6)) (E.mono hB λi hi=>⟨nu,nu⟩) ?_;simp only[go_sem];cases dj fs 2 kids
 .simp only[go_sem]
  exact hC
 .simp only[go_sem]
  exact sa
def Mr(h:kG fs gr gm 208 [dE kids,iv .i64 1] (bv (dj fs 1 kids))):kG fs gr gm 204 [exV (.mk kind op num name kids)] (iv .i64 (if dj fs 1 kids then 1 else 0)):=by
 intro B g ob hB hf E;refine hdM B [] Tryz.func204 rfl [.tmp 4] a8 hf λO bo s0 w0=>?_;unfold exV;simp only[exD,aA,l9,v8];simp only[go_sem];exact ns
def XC(h:kG fs gr gm 208 [dE kids,iv .i64 1] (bv (dj fs 1 kids))):kG fs gr gm 206 [exV (.mk kind op num name kids)] (iv .i64 (if dj fs 1 kids then(if op=14\/op=15 then 2 else 1)else 0)):=by
 intro B g ob hB hf E;refine hdM B [] Tryz.func206 rfl [.tmp 4] a8 hf λO bo s0 w0=>?_;unfold exV;simp only[exD,aA,l9,v8];simp only[go_sem];refine cG aa rfl h Wt (B+20) a6 (λi hi=>nt (hf i a6)) (E.mono hB λi hi=>⟨nu,nu⟩) ?_;simp only[go_sem];cases dj fs 1 kids
 .simp only[go_sem]
  exact hC
 by_cases U:op=14
 .rw[l7 rfl,l7 (.inl U)]
  simp only[go_sem,s9 U];exact sa
 by_cases Y:op=15
 .rw[l7 rfl,l7 (.inr Y)]
  simp only[go_sem,U,s9 Y];exact sa
 .rw[l7 rfl,j8 a6]
  simp only[go_sem,U,Y];refine⟨_,ae.refl _,?_⟩;simp only[go_sem];exact bD.nil (λi hi=>⟨nu,nu⟩) (q:=[iv .i64 1]) ⟨_,_,rfl,.one (.d _),rfl⟩ ⟨rfl,rfl,rfl⟩
def Qx(h:kG fs gr gm 208 [dE kids,iv .i64 1] (bv (dj fs 1 kids))):kG fs gr gm 205 [exV (.mk kind op num name kids)] (iv .i64 (if iO fs name && dj fs 1 kids then 1 else 0)):=by
 intro B g ob hB hf E;refine hdM B [] Tryz.func205 rfl [.tmp 4] a8 hf λO bo s0 w0=>?_;have e:=E;obtain⟨or,⟨M,om,I⟩,bc,Z⟩:=e;have Q:∀k,(1012=B+k)=False:=λk=>by simp;omega
 have a:∀k,(1010=B+k)=False:=λk=>by simp;omega
 have b:=I name;unfold exV;unfold Gn at or;unfold iO;simp only[exD,aA,l9,v8];simp only[go_sem];refine bh b9 ?_;cases v:cH fs name with
 |none=>
   rw[v]at b;simp only[Hk]at b;simp only[go_sem,Q,a,or,bc,Z,om,b,D3];simp only[A0,A3,B8];exact hC
 |some x=>
   obtain⟨V,m,n,l,body⟩:=x;rw[v]at b;simp only[z8,fnD]at b;cases l
   .simp only[go_sem,Q,a,or,bc,Z,om,b,C0]
    simp only[A0,A3,B8];exact hC
   .simp only[go_sem,Q,a,or,bc,Z,om,b,C0]
    exact ns
end
end
section
section
variable{fs:List Src.Fn}{gr gm:Nat}
def IL{kind op num:Int}{name:Str}{kids:List Ex}(h:∀t:Int,kG fs gr gm 208 [dE kids,iv .i64 t] (bv (dj fs t kids))):kG fs gr gm 225 [exV (.mk kind op num name kids)] (iv .i64 (iy fs (.mk kind op num name kids))):=by
 intro B g ob hB hf E;refine hdM B [] Tryz.func225 rfl [.tmp 4] a8 hf λO bo s0 w0=>?_;have b:=E;obtain⟨or,⟨M,om,I⟩,bc,Z⟩:=b;have Q:∀k,(1012=B+k)=False:=λk=>by simp;omega
 have b8:exV (.mk kind op num name kids)=.agg [.d (.int .i64 kind),.d (.int .i64 op),.d (.int .u32 num),.d (.str name),.d (.sl (kids.map exD))]:=by unfold exV;simp only[exD,aA,l9,v8]
 rw[b8];unfold Gn at or;obtain⟨X,a⟩:∃X,iy fs (.mk kind op num name kids)=X:=⟨_,rfl⟩
 rw[a];rw[iy]at a;by_cases U:kind<1
 .rw[l7 (.inl U)]at a
  subst a;simp only[go_sem,s9 U];exact hC
 by_cases Y:9<kind
 .rw[l7 (.inr Y)]at a
  subst a;simp only[go_sem,U,s9 Y];exact hC
 rw[j8 a6]at a;simp only[go_sem,U,Y];refine bh b9 ?_;obtain h|h|h|h|h|h|h|h|h:kind=1\/kind=2\/kind=3\/kind=4\/kind=5\/kind=6\/kind=7\/kind=8\/kind=9:=a6
 all_goals subst h
 all_goals simp only[go_sem,Q,or,bc]
 .rw[l7 a6]at a
  subst a;refine sD aa rfl (f:=202) Wh X9 Wt ?_;rintro _ rfl;simp only[go_sem];refine⟨_,ae.refl _,?_⟩;simp only[go_sem];exact bD.nil (λi hi=>⟨nu,nu⟩) (q:=[iv .i64 _]) ⟨_,_,rfl,.one (.d _),rfl⟩ ⟨rfl,rfl,rfl⟩
 .rw[l7 a6]at a
  subst a;refine sD aa rfl (f:=202) Wh X9 Wt ?_;rintro _ rfl;simp only[go_sem];refine⟨_,ae.refl _,?_⟩;simp only[go_sem];exact bD.nil (λi hi=>⟨nu,nu⟩) (q:=[iv .i64 _]) ⟨_,_,rfl,.one (.d _),rfl⟩ ⟨rfl,rfl,rfl⟩
 .rw[j8 a6,l7 a6]at a
  subst a;refine kY aa rfl (f:=204) Wh (Mr (h 1)) Xb (B+30) a6 (λi hi=>nt (hf i a6)) (E.mono hB λi hi=>⟨nu,nu⟩) ?_;simp only[go_sem];refine⟨_,ae.refl _,?_⟩;simp only[go_sem];exact bD.nil (λi hi=>⟨nu,nu⟩) (q:=[iv .i64 _]) ⟨_,_,rfl,.one (.d _),rfl⟩ ⟨rfl,rfl,rfl⟩
 .rw[j8 a6,j8 a6,l7 a6]at a
  subst a;refine kY aa rfl (f:=205) Wh (Qx (h 1)) Xb (B+30) a6 (λi hi=>nt (hf i a6)) (E.mono hB λi hi=>⟨nu,nu⟩) ?_;simp only[go_sem];refine⟨_,ae.refl _,?_⟩;simp only[go_sem];exact bD.nil (λi hi=>⟨nu,nu⟩) (q:=[iv .i64 _]) ⟨_,_,rfl,.one (.d _),rfl⟩ ⟨rfl,rfl,rfl⟩
 .rw[l7 a6]at a
  subst a;refine sD aa rfl (f:=202) Wh X9 Wt ?_;rintro _ rfl;simp only[go_sem];refine⟨_,ae.refl _,?_⟩;simp only[go_sem];exact bD.nil (λi hi=>⟨nu,nu⟩) (q:=[iv .i64 _]) ⟨_,_,rfl,.one (.d _),rfl⟩ ⟨rfl,rfl,rfl⟩
 .rw[j8 a6,j8 a6,j8 a6,l7 a6]at a
  subst a;refine kY aa rfl (f:=206) Wh (XC (h 1)) Xb (B+30) a6 (λi hi=>nt (hf i a6)) (E.mono hB λi hi=>⟨nu,nu⟩) ?_;simp only[go_sem];refine⟨_,ae.refl _,?_⟩;simp only[go_sem];exact bD.nil (λi hi=>⟨nu,nu⟩) (q:=[iv .i64 _]) ⟨_,_,rfl,.one (.d _),rfl⟩ ⟨rfl,rfl,rfl⟩
 .rw[j8 a6,j8 a6,j8 a6,j8 a6]at a
  subst a;refine kY aa rfl (f:=203) Wh (Dj (h 2)) Xb (B+30) a6 (λi hi=>nt (hf i a6)) (E.mono hB λi hi=>⟨nu,nu⟩) ?_;simp only[go_sem];refine⟨_,ae.refl _,?_⟩;simp only[go_sem];exact bD.nil (λi hi=>⟨nu,nu⟩) (q:=[iv .i64 _]) ⟨_,_,rfl,.one (.d _),rfl⟩ ⟨rfl,rfl,rfl⟩
 .rw[j8 a6,j8 a6,j8 a6,j8 a6]at a
  subst a;refine kY aa rfl (f:=203) Wh (Dj (h 2)) Xb (B+30) a6 (λi hi=>nt (hf i a6)) (E.mono hB λi hi=>⟨nu,nu⟩) ?_;simp only[go_sem];refine⟨_,ae.refl _,?_⟩;simp only[go_sem];exact bD.nil (λi hi=>⟨nu,nu⟩) (q:=[iv .i64 _]) ⟨_,_,rfl,.one (.d _),rfl⟩ ⟨rfl,rfl,rfl⟩
 .rw[j8 a6,j8 a6,j8 a6,j8 a6]at a
  subst a;refine kY aa rfl (f:=203) Wh (Dj (h 2)) Xb (B+30) a6 (λi hi=>nt (hf i a6)) (E.mono hB λi hi=>⟨nu,nu⟩) ?_;simp only[go_sem];refine⟨_,ae.refl _,?_⟩;simp only[go_sem];exact bD.nil (λi hi=>⟨nu,nu⟩) (q:=[iv .i64 _]) ⟨_,_,rfl,.one (.d _),rfl⟩ ⟨rfl,rfl,rfl⟩
def US:∀(av:Nat)(l:List Ex)(t:Int),aH l<=av->av<=1000000000->kG fs gr gm 208 [dE l,iv .i64 t] (bv (dj fs t l)):=by
 intro av
 induction av using Nat.strongRecOn with
 |ind av w=>
 intro l t I J B g ob hB hf E;refine hdM B [] Tryz.func208 rfl [.tmp 6] a8 hf λO bo s0 w0=>?_;obtain⟨X,hz⟩:∃X,dj fs t l=X:=⟨_,rfl⟩
 rw[hz];have U:=Src.Kr l;unfold dE;simp only[go_sem,j5];refine aq (λm K=>∃k:Nat,m+k=z l/\dj fs t (l.drop k)=X/\K.f 0=.one (.ptr 1012 gr 0)/\K.f 2=iv .i64 t/\K.f 9=.one (.d (.sl (l.map exD)))/\K.f 10=iv .i64 (z l)/\K.f 11=iv .i64 k/\(∀j,j<B->K.gen j=g j/\K.obj j=ob j)/\(∀j,B+21<=j->K.obj j=N)) (z l) ?_ ?_
 .exact V9
 rintro m f V W ⟨k,Z,a,n,b,o,G,u,fr,L⟩;simp only at n b o G u fr L;have x:=ab (k:=k) a6;by_cases s:k<z l
 case neg=>
  have H:¬(k:Int)<(z l:Int):=a6;obtain rfl:k=z l:=a6;rw[F1,dj]at a;exact h1
 have H:(k:Int)<(z l:Int):=a6;have an:(0:Int)<=(k:Int):=a6;obtain⟨e,r⟩:=getq s;have bd:=Src.se (l5 r);have Y:l.drop k=e::l.drop (k+1):=by rw[A8 s,(l8.1 r).2]
 rw[Y,dj]at a;obtain⟨kind,op,num,name,kids⟩:=e;rw[szE]at bd;have bk:=IL (fs:=fs) (gr:=gr) (gm:=gm) (kind:=kind) (op:=op) (num:=num) (name:=name) (kids:=kids) λt=>w (aH kids) a6 kids t (l0 _) a6;obtain⟨y,A⟩:∃y,iy fs (.mk kind op num name kids)=y:=⟨_,rfl⟩
 rw[A]at a bk;have v:exD (.mk kind op num name kids)=[.int .i64 kind,.int .i64 op,.int .u32 num,.str name,.sl (kids.map exD)]:=by simp only[exD,aA]
 simp only[go_sem,n,b,o,G,u,H,an,r,v];refine cG aa rfl bk (by simp only[go_sem,exV,v,l9,v8]) (B+21) a6 (λi hi=>nt (L i a6)) ((E.mono hB fr).mono hB λi hi=>⟨nu,nu⟩) ?_;by_cases bl:y=t
 .rw[B3 bl,w7]at a
  simp only[go_sem,b,s9 bl,u,x];refine ai (m-1) a6 ⟨k+1,a6,a,?_⟩;simp only[go_sem,n,b,o,G];exact⟨λj hj=>⟨nt ((fr j hj).1),nt ((fr j hj).2)⟩,λj hj=>nt (L j hj)⟩
 .rw[z7 bl,A0]at a
  subst a;simp only[go_sem,b,bl];exact oy
end
end
end
section
open Go Go.Am Go.Asm
open Go.Src (Ex Stm szE aH szS aE cH iO iy dj ie cJ mq cj)
attribute[local congr]ite_cc
section
section
variable{fs:List Src.Fn}{gr gm:Nat}
def EP:∀(av:Nat)(e:Ex),szE e<=av->av<=1000000000->kG fs gr gm 207 [exV e] (bv (ie fs e)):=by
 intro av
 induction av using Nat.strongRecOn with
 |ind av ih=>
 intro e bd hN B g ob hB hf E;refine hdM B [] Tryz.func207 rfl [.tmp 4] a8 hf λO bo s0 w0=>?_;have E1:=E;obtain⟨or,⟨M,om,I⟩,bc,Z⟩:=E1;unfold Gn at or;have Q:∀k,(1012=B+k)=False:=λk=>by simp;omega
 have n2:∀k,(1010=B+k)=False:=λk=>by simp;omega
 obtain⟨kind,op,num,name,kids⟩:=e;obtain⟨X,hz⟩:∃X,ie fs (.mk kind op num name kids)=X:=⟨_,rfl⟩
 rw[hz];rw[ie]at hz;rw[szE]at bd;have cv:=Src.Kr kids;have b:=I name;have b8:exV (.mk kind op num name kids)=.agg [.d (.int .i64 kind),.d (.int .i64 op),.d (.int .u32 num),.d (.str name),.d (.sl (kids.map exD))]:=by unfold exV;simp only[exD,aA,l9,v8]
 rw[b8];by_cases h4:kind=4
 .rw[l7 h4]at hz
  simp only[go_sem,s9 h4];refine pJ (B:=B) aR mixed aa [B+5] [([0],[0],[],F),([13],[0],[],F),([14],[0],[],F),([15],[0],[],F),([3],[0],[],F),([17],[0],[],F),([16,18],[0],[],F),([19],[0],[],F),([12],[0],[],F),([12],[0],[],F),([],[],[0],F),([5,20],[],[0],F),([21],[],[],T)] 1 rfl b9 rfl a8 ?_;simp only[go_sem];cases v:cH fs name with
  |none=>
    rw[v]at b hz;simp only[Hk]at b;simp only[D3,A0]at hz;subst hz
    iterate 10 (apply aM;· (intro A U W l J;simp only[go_sem,Q,n2,or,bc,Z,om,b,D3]at J|-;exact J))
    (apply cX;· (intro A U W l J;simp only[go_sem]at J|-;exact J))
    (apply jO;(focus simp);(focus (intro A U W l J;simp only[go_sem]at J|-;exact J)))
    apply db;intro l b0;simp only[go_sem];refine b0 _ ?_;clear b0 l;simp only[go_sem];refine⟨_,ae.refl _,?_⟩;simp only[go_sem];exact bD.nil (λi hi=>⟨nu,nu⟩) (q:=[bv F]) ⟨_,_,rfl,.one (.d _),rfl⟩ ⟨rfl,rfl,rfl⟩
  |some x=>
    obtain⟨V,ps,ls,wd,body⟩:=x;rw[v]at b hz;simp only[z8,fnD]at b;simp only[C0,w7]at hz
    iterate 10 (apply aM;· (intro A U W l J;simp only[go_sem,Q,n2,or,bc,Z,om,b,C0]at J|-;exact J))
    (apply cX;· (intro A U W l J;simp only[go_sem]at J|-;exact J))
    (apply jO;(focus simp);(focus (intro A U W l J;simp only[go_sem]at J|-;exact J)))
    apply db;intro l b0;simp only[go_sem];refine b0 _ ?_;clear b0 l;simp only[go_sem,j5];refine aq (λm K=>∃k:Nat,m+k=z kids/\cJ fs (kids.drop k)=X/\K.f 0=.one (.ptr 1012 gr 0)/\K.f 25=.one (.d (.sl (kids.map exD)))/\K.f 26=iv .i64 (z kids)/\K.f 27=iv .i64 k/\(∀j,j<B->K.gen j=g j/\K.obj j=ob j)/\(∀j,B+36<=j->K.obj j=N)) (z kids) ?_ ?_
    .exact Ux
    exact V5
 rw[j8 h4,w7]at hz;simp only[go_sem,h4,j5];refine aq (λm K=>∃k:Nat,m+k=z kids/\cJ fs (kids.drop k)=X/\K.f 0=.one (.ptr 1012 gr 0)/\K.f 25=.one (.d (.sl (kids.map exD)))/\K.f 26=iv .i64 (z kids)/\K.f 27=iv .i64 k/\(∀j,j<B->K.gen j=g j/\K.obj j=ob j)/\(∀j,B+36<=j->K.obj j=N)) (z kids) ?_ ?_
 .refine⟨0,rfl,by rw[B1];exact hz,?_⟩
  simp only[go_sem]
  first|exact λj hj=>hf j (by omega)|exact⟨λj hj=>⟨nu,nu⟩,λj hj=>nt (hf j (by omega))⟩
 exact V5
end
end
section
section
variable{fs:List Src.Fn}{gr gm:Nat}
def Dk:∀(av:Nat)(l:List Stm),aE l<=av->av<=1000000000->kG fs gr gm 137 [ed l] (bv (cj fs l)):=by
 intro av
 induction av using Nat.strongRecOn with
 |ind av ih=>
 intro l bs hN B g ob hB hf E;refine hdM B [] Tryz.func137 rfl [.tmp 4] a8 hf λO bo s0 w0=>?_;have Q:∀k,(1012=B+k)=False:=λk=>by simp;omega
 have n2:∀k,(1010=B+k)=False:=λk=>by simp;omega
 obtain⟨X,hz⟩:∃X,cj fs l=X:=⟨_,rfl⟩
 rw[hz];have cv:=Src.Ks l;unfold ed;simp only[go_sem,j5];refine aq (λm K=>∃k:Nat,m+k=z l/\cj fs (l.drop k)=X/\K.f 0=.one (.ptr 1012 gr 0)/\K.f 11=.one (.d (.sl (l.map smD)))/\K.f 12=iv .i64 (z l)/\K.f 13=iv .i64 k/\(∀j,j<B->K.gen j=g j/\K.obj j=ob j)/\(∀j,B+57<=j->K.obj j=N)) (z l) ?_ ?_
 .exact V9
 rintro m f g1 ad ⟨k,hk,a,q0,q9,G,u,fr,L⟩;simp only at q0 q9 G u fr L;have E1:=E.mono hB fr;obtain⟨or,⟨M,om,I⟩,bc,Z⟩:=E1;unfold Gn at or;have hw:=ab (k:=k) a6;by_cases af:k<z l
 case neg=>
  have H:¬(k:Int)<(z l:Int):=a6;obtain rfl:k=z l:=a6;rw[F1,cj]at a;exact h1
 have H:(k:Int)<(z l:Int):=a6;have an:(0:Int)<=(k:Int):=a6;obtain⟨e,he⟩:=getq af;have bd:=Src.kO (l5 he);have Y:l.drop k=e::l.drop (k+1):=by rw[A8 af,(l8.1 he).2]
 rw[Y,cj]at a;obtain⟨kind,name,es,th,el⟩:=e;rw[mq]at a;rw[szS]at bd;have a1:=Src.Kr es;have b:=I name;have hE:smD (.mk kind name es th el)=[.int .i64 kind,.str name,.sl (es.map exD),.sl (th.map smD),.sl (el.map smD)]:=by simp only[smD,aA,cT]
 have p:=ih (aE th) a6 th (l0 _) a6;have a':=ih (aE el) a6 el (l0 _) a6;obtain⟨yt,bl⟩:∃y,cj fs th=y:=⟨_,rfl⟩
 obtain⟨ye,b3⟩:∃y,cj fs el=y:=⟨_,rfl⟩
 rw[bl]at a p;rw[b3]at a a';by_cases h4:kind=6
 .rw[l7 h4]at a
  simp only[go_sem,q0,q9,G,u,H,an,he,hE,s9 h4];refine pJ (B:=B) aR mixed aa [B+7] [([0],[0],[],F),([21],[0],[],F),([22],[0],[],F),([23],[0],[],F),([6],[0],[],F),([25],[0],[],F),([24,26],[0],[],F),([27],[0],[],F),([20],[0],[],F),([20],[0],[],F),([],[],[0],F),([7,28],[],[0],F),([29],[],[],T)] 1 rfl b9 rfl a8 ?_;simp only[go_sem];cases v:cH fs name with
  |none=>
    rw[v]at b a;simp only[Hk]at b;simp only[D3,A0]at a;subst a
    iterate 10 (apply aM;· (intro fa ga oa K' J;simp only[go_sem,q0,Q,n2,or,bc,Z,om,b,D3]at J|-;exact J))
    (apply cX;· (intro fa ga oa K' J;simp only[go_sem]at J|-;exact J))
    (apply jO;(focus simp);(focus (intro fa ga oa K' J;simp only[go_sem]at J|-;exact J)))
    apply db;intro K' b0;simp only[go_sem];refine b0 _ ?_;clear b0 K';exact dM
  |some x=>
    obtain⟨V,ps,ls,wd,body⟩:=x;rw[v]at b a;simp only[z8,fnD]at b;simp only[C0,w7]at a
    iterate 10 (apply aM;· (intro fa ga oa K' J;simp only[go_sem,q0,Q,n2,or,bc,Z,om,b,C0]at J|-;exact J))
    (apply cX;· (intro fa ga oa K' J;simp only[go_sem]at J|-;exact J))
    (apply jO;(focus simp);(focus (intro fa ga oa K' J;simp only[go_sem]at J|-;exact J)))
    apply db;intro K' b0;simp only[go_sem];refine b0 _ ?_;clear b0 K';simp only[go_sem,Q,n2,j5];exact la
 rw[j8 h4,w7]at a;simp only[go_sem,q0,q9,G,u,H,an,he,hE,h4,j5];exact la
end
end
end
section
open Go Go.Am Go.Asm
open Go.Src (Ex Stm szE aH szS aE cH iO iy dj lI bF)
attribute[local congr]ite_cc
section
section
variable{fs:List Src.Fn}{gr gm:Nat}
def Dl(b1:Src.Fn):∀(av:Nat)(l:List Stm),aE l<=av->av<=1000000000->kG fs gr gm 138 [fnV b1,ed l] (bv (bF fs b1.word l)):=by
 obtain⟨J,P,U,w,h⟩:=b1;intro av
 induction av using Nat.strongRecOn with
 |ind av ih=>
 intro l bs hN B g ob hB hf E;refine hdM B [] Tryz.func138 rfl [.tmp 6] a8 hf λO bo s0 w0=>?_;have Q:∀k,(1012=B+k)=False:=λk=>by simp;omega
 have n2:∀k,(1010=B+k)=False:=λk=>by simp;omega
 have A:fnV ⟨J,P,U,w,h⟩=.agg [.d (.str J),.d (.sl (P.map λs=>[.str s])),.d (.sl (U.map λs=>[.str s])),.d (.bool w),.d (.sl (h.map smD))]:=rfl;rw[A]at ih|-;simp only at ih|-;obtain⟨X,hz⟩:∃X,bF fs w l=X:=⟨_,rfl⟩
 rw[hz];have cv:=Src.Ks l;unfold ed;simp only[go_sem,j5]
 refine aq (λm K=>∃k:Nat,m+k=z l/\bF fs w (l.drop k)=X/\K.f 0=.one (.ptr 1012 gr 0)/\K.f 4=.one (.ptr (B+4) (K.gen (B+4)) 0)/\K.f 10=.one (.d (.sl (l.map smD)))/\K.f 11=iv .i64 (z l)/\K.f 12=iv .i64 k/\
   K.obj (B+4)=S [.d (.str J),.d (.sl (P.map λs=>[.str s])),.d (.sl (U.map λs=>[.str s])),.d (.bool w),.d (.sl (h.map smD))]/\(∀j,j<B->K.gen j=g j/\K.obj j=ob j)/\(∀j,B+65<=j->K.obj j=N)) (z l) ?_ ?_
 .exact Ux
 rintro m f g1 ad ⟨k,hk,a,q0,q4,q9,G,u,o4,fr,L⟩;simp only at q0 q4 q9 G u o4 fr L;have E1:=E.mono hB fr;obtain⟨or,⟨M,om,I⟩,bc,Z⟩:=E1;unfold Gn at or;have hw:=ab (k:=k) a6;by_cases af:k<z l
 case neg=>
  have H:¬(k:Int)<(z l:Int):=a6;obtain rfl:k=z l:=a6;rw[F1,bF]at a;exact h1
 have H:(k:Int)<(z l:Int):=a6;have an:(0:Int)<=(k:Int):=a6;obtain⟨e,he⟩:=getq af;have bd:=Src.kO (l5 he);have Y:l.drop k=e::l.drop (k+1):=by rw[A8 af,(l8.1 he).2]
 rw[Y,bF]at a;obtain⟨kind,name,es,th,el⟩:=e;rw[lI]at a;rw[szS]at bd;have a1:=Src.Kr es;have b:=I name;have hE:smD (.mk kind name es th el)=[.int .i64 kind,.str name,.sl (es.map exD),.sl (th.map smD),.sl (el.map smD)]:=by simp only[smD,aA,cT]
 have p:=ih (aE th) a6 th (l0 _) a6;have a':=ih (aE el) a6 el (l0 _) a6;have W:=λt=>US (fs:=fs) (gr:=gr) (gm:=gm) (aH es) es t (l0 _) a6;obtain⟨yt,bl⟩:∃y,bF fs w th=y:=⟨_,rfl⟩
 obtain⟨ye,b3⟩:∃y,bF fs w el=y:=⟨_,rfl⟩
 rw[bl]at a p;rw[b3]at a a';simp only[go_sem,q0,q4,q9,G,u,H,an,he,hE];by_cases k4:kind=4
 .subst k4
  rw[l7 a6]at a;simp only[show ((4:Int)==6)=F from rfl,show ((4:Int)==7)=F from rfl,A0,I9,w7]at a
  try (simp only[go_sem,q0,q4,o4])
  exact ml
 by_cases k5:kind=5
 .subst k5
  rw[l7 a6]at a;simp only[show ((5:Int)==6)=F from rfl,show ((5:Int)==7)=F from rfl,A0,I9,w7]at a
  try (simp only[go_sem,q0,q4,o4])
  exact ml
 rw[j8 a6]at a;by_cases r:kind=6
 .subst r
  simp only[show ((6:Int)==6)=T from rfl,show ((6:Int)==7)=F from rfl,A0,I9,w7,I1]at a;unfold iO at a;simp only[go_sem];refine bh b9 ?_;cases v:cH fs name with
  |none=>
    rw[v]at b a;simp only[Hk]at b;simp only[I9,w7]at a;simp only[go_sem,Q,n2,q0,or,bc,Z,om,b,D3]
    try (simp only[go_sem,q0,q4,o4])
    exact gH
  |some x=>
    obtain⟨V,ps,ls,wd,body⟩:=x;rw[v]at b a;simp only[z8,fnD]at b;cases wd
    .simp only[I9,w7]at a
     simp only[go_sem,Q,n2,q0,or,bc,Z,om,b,C0]
     try (simp only[go_sem,q0,q4,o4])
     exact gH
    .simp only[O8,A0]at a
     subst a;simp only[go_sem,Q,n2,q0,or,bc,Z,om,b,C0];exact oy
 rw[show (kind==6)=F by simp[r]]at a;by_cases k7:kind=7
 .subst k7
  simp only[show ((7:Int)==7)=T from rfl,A0,I9,w7]at a;by_cases o:0<z es
  .have n:(0:Int)<(z es:Int):=a6
   rw[B3 o]at a;simp only[w7,Bool.not_not]at a;cases w
   .simp only[A0]at a
    subst a;simp only[go_sem,j5,n,q4,o4];exact oy
   simp only[w7]at a;simp only[go_sem,j5,n,q4,o4]
   try (simp only[go_sem,q0,q4,o4])
   exact gH
  have n:¬(0:Int)<(z es:Int):=a6;rw[z7 o]at a;simp only[A0,I9,w7]at a;simp only[go_sem,j5,n,q4,o4]
  try (simp only[go_sem,q0,q4,o4])
  exact gH
 rw[show (kind==7)=F by simp[k7]]at a;simp only[A0,I9,w7]at a;simp only[go_sem,k4,k5,r,k7]
 try (simp only[go_sem,q0,q4,o4])
 exact gH
end
end
section
variable{l:List Src.Fn}
def AS.put{M:List C}{f:Src.Fn}(h:AS M l)(b:cH l f.name=N):AS (mset M (.str f.name) (.d (.iptr (fnD f)))) (l++[f]):=λs=>by
 rw[pG,Src.RJ];simp only[kE,cH];by_cases a:f.name=s
 .subst a
  rw[b];simp
 .simp only[a,K7,A3,B8]
  rw[h s];cases cH l s<;>rfl
def AS.old{M:List C}{f x:Src.Fn}(h:AS M l)(b:cH l f.name=S x):AS M (l++[f]):=λs=>by
 rw[h s,Src.RJ];cases a:cH l s with
 |some y=>rfl
 |none=>
   simp only[cH];rw[j8 (by rintro rfl;rw[b]at a;cases a)]
def r9{P:Prop}(h:P:=by repeat' (first|assumption|rfl|(intro i hi;(try simp only[upd]);(try rw[j8 hi]);exact ho i hi)|(intro hh;first|exact h0 hh|exact U hh|exact Y hh|exact h3 hh|exact h4 hh|exact h5 hh|exact h6 hh|exact h7 hh|exact h8 hh|exact o hh|exact W hh|exact q hh|exact e hh|exact l hh|exact G hh)|apply x6)):P:=h
def Ms{g:Nat->Nat}{ob:Obs}(p:Src.Prog)(bc:szP p<=1000000000):
  fv Tryz.prog 136 [cn p] g ob (λr g' Z=>∃gr gm,r=.one (.ptr 1012 gr 0)/\yZ p.funcs gr gm g' Z/\∀i,i<1000\/1100<=i->g' i=g i/\Z i=ob i) (λ_ _ _=>False):=by
 refine hdX 1000 Tryz.func136 rfl [.tmp 2] λO bo s0 w0=>?_;unfold szP at bc;have Q:cn p=.agg [.d (.sl (p.vars.map λs=>[.str s])),.d (.sl (p.arrays.map arD)),.d (.sl (p.funcs.map fnD))]:=rfl;rw[Q];simp only[go_sem,j5]
 refine aq (λm K=>∃k:Nat,m+k=z p.funcs/\K.f 3=.one (.ptr 1012 (K.gen 1012) 0)/\K.f 14=.one (.d (.sl (p.funcs.map fnD)))/\K.f 15=iv .i64 (z p.funcs)/\K.f 16=iv .i64 k/\
   K.obj 1012=S [.mp 1010 (K.gen 1010) 208,.d .nilf,.d .nilf,.d .nilf,.d .nilf,.d .nilf,.d .nilf,.d .nilf,.d .nilf,.d .nilf,.d .nilf]/\(∃M,K.obj 1010=S M/\AS M (p.funcs.take k))/\(∀i,i<1000\/1100<=i->K.gen i=g i/\K.obj i=ob i)) (z p.funcs) ?_ ?_
 .refine⟨0,rfl,?_⟩
  simp only[go_sem];exact⟨⟨[],rfl,λs=>rfl⟩,λi hi=>⟨nu,nu⟩⟩
 rintro m f g1 ad ⟨k,hk,q3,E,n,A,w,⟨M,oM,I⟩,fr⟩;simp only at q3 E n A w oM fr;have hw:=ab (k:=k) a6;by_cases af:k<z p.funcs
 .have H:(k:Int)<(z p.funcs:Int):=a6
  have an:(0:Int)<=(k:Int):=a6;obtain⟨x,he⟩:=getq af;have bd:fnD x=[.str x.name,.sl (x.params.map λs=>[.str s]),.sl (x.locals.map λs=>[.str s]),.bool x.word,.sl (x.body.map smD)]:=rfl;have b:=I x.name;simp only[go_sem,q3,E,n,A,H,an,he,bd];refine pJ (B:=1000) aR mixed aa [1006] [([3],[0],[],F),([21],[0],[],F),([22],[0],[],F),([23],[0],[],F),([5],[0],[],F),([25],[0],[],F),([24,26],[0],[],F),([27],[0],[],F),([20],[0],[],F),([20],[0],[],F),([],[],[0],F),([6,28],[],[0],F),([29],[],[],T)] 1 rfl b9 rfl a8 ?_;simp only[go_sem];cases v:cH (p.funcs.take k) x.name with
  |none=>
    rw[v]at b;simp only[Hk]at b
    iterate 10 (apply aM;· (intro fa ga oa K' J;simp only[go_sem,q3,w,oM,b,D3]at J|-;exact J))
    (apply cX;· (intro fa ga oa K' J;simp only[go_sem]at J|-;exact J))
    (apply jO;(focus simp);(focus (intro fa ga oa K' J;simp only[go_sem]at J|-;exact J)))
    apply db;intro K' b0;simp only[go_sem];refine b0 _ ?_;clear b0 K';simp only[go_sem];refine bh b9 ?_;simp only[go_sem,q3,w,oM,A,hw];refine ai (m-1) a6 ⟨k+1,a6,?_⟩;have hT:p.funcs.take (k+1)=p.funcs.take k++[x]:=by rw[B4,he,I7]
    simp only[go_sem,q3,E,n,w];exact⟨⟨_,rfl,by rw[hT];exact I.put v⟩,λi hi=>⟨nt ((fr i hi).1),nt ((fr i hi).2)⟩⟩
  |some y=>
    obtain⟨V,ps,ls,wd,body⟩:=y;rw[v]at b;simp only[z8,fnD]at b
    iterate 10 (apply aM;· (intro fa ga oa K' J;simp only[go_sem,q3,w,oM,b,C0]at J|-;exact J))
    (apply cX;· (intro fa ga oa K' J;simp only[go_sem]at J|-;exact J))
    (apply jO;(focus simp);(focus (intro fa ga oa K' J;simp only[go_sem]at J|-;exact J)))
    apply db;intro K' b0;simp only[go_sem];refine b0 _ ?_;clear b0 K';simp only[go_sem,A,hw];refine ai (m-1) a6 ⟨k+1,a6,?_⟩;have hT:p.funcs.take (k+1)=p.funcs.take k++[x]:=by rw[B4,he,I7]
    simp only[go_sem,q3,E,n,w];exact⟨⟨M,oM,by rw[hT];exact I.old v⟩,λi hi=>⟨nt ((fr i hi).1),nt ((fr i hi).2)⟩⟩
 have H:¬(k:Int)<(z p.funcs:Int):=a6;obtain rfl:k=z p.funcs:=a6;rw[s6 (l0 _)]at I;simp only[go_sem,q3,n,A,H,w];refine sA (B:=1000) aR mixed aa b9 b9 (λL s=>s.gen=g1/\(∀i,i≠1012->s.obj i=ad i)/\s.f 3=.one (.ptr 1012 (g1 1012) 0)/\s.f 8=.one (.d (.fn 202))/\s.f 9=.one (.clo (203+1000000) [.ptr 1012 (g1 1012) 0])/\(L 0=T->s.f 42=.one (.ptr 1012 (g1 1012) 0))/\(L 1=T->s.f 43=.one (.ptr 1012 (g1 1012) 0))/\(L 2=T->s.f 44=.one (.ptr 1012 (g1 1012) 0))/\(L 3=T->s.f 45=.one (.d (.fn 202)))/\(L 4=T->s.f 46=.one (.d (.fn 202)))/\(L 5=T->s.f 47=.one (.d (.fn 202)))/\(L 6=T->s.f 48=.one (.ptr 1012 (g1 1012) 0))/\(L 7=T->s.f 49=.one (.ptr 1012 (g1 1012) 1))/\(L 8=T->s.f 50=.one (.ptr 1012 (g1 1012) 2))/\(L 10=T->s.f 51=.one (.ptr 1012 (g1 1012) 0))/\(L 11=T->s.f 52=.one (.ptr 1012 (g1 1012) 1))/\(L 12=T->s.f 53=.one (.ptr 1012 (g1 1012) 3))/\(L 14=T->s.f 54=.one (.ptr 1012 (g1 1012) 0))/\(L 15=T->s.f 55=.one (.ptr 1012 (g1 1012) 1))/\(L 16=T->s.f 56=.one (.ptr 1012 (g1 1012) 6))/\s.obj 1012=S [.mp 1010 (g1 1010) 208,.d .nilf,if L 9=T then .d (.fn 202)else .d .nilf,if L 13=T then .d (.fn 202)else .d .nilf,.d .nilf,.d .nilf,if L 17=T then .d (.fn 202)else .d .nilf,.d .nilf,.d .nilf,.d .nilf,.d .nilf]) ?_ ?_ ?_
 .exact⟨rfl,λi hi=>rfl,by simp only[go_sem,q3],by simp only[go_sem,q3],by simp only[go_sem,q3],λh=>by simp at h,λh=>by simp at h,λh=>by simp at h,λh=>by simp at h,λh=>by simp at h,λh=>by simp at h,λh=>by simp at h,λh=>by simp at h,λh=>by simp at h,λh=>by simp at h,λh=>by simp at h,λh=>by simp at h,λh=>by simp at h,λh=>by simp at h,λh=>by simp at h,by simp only[go_sem,w,A3]⟩
 .rintro L ⟨f',g',Z⟩ i op ⟨hg,ho,k3,k8,a,h0,U,Y,h3,h4,h5,h6,h7,h8,o,W,q,e,l,G,hc⟩ u hL c b'
  simp only at hg ho k3 k8 a h0 U Y h3 h4 h5 h6 h7 h8 o W q e l G hc;subst hg
  match i,u with
  |0,u=>
    exact oj
  |1,u=>
    exact oj
  |2,u=>
    exact oj
  |3,u=>
    exact oj
  |4,u=>
    exact oj
  |5,u=>
    exact oj
  |6,u=>
    simp only[z6,y1,v7,w9]at u;subst u;have d0:L 0=T:=c ⟨0,.data⟩ a8 rfl;simp only[go_sem,h0 d0,k3,k8,a,hc];exact r9
  |7,u=>
    simp only[z6,y1,v7,w9]at u;subst u;have d6:L 6=T:=c ⟨6,.data⟩ a8 rfl;simp only[go_sem,h6 d6,k3,k8,a,hc];exact r9
  |8,u=>
    simp only[z6,y1,v7,w9]at u;subst u;have d7:L 7=T:=c ⟨7,.data⟩ a8 rfl;simp only[go_sem,h7 d7,k3,k8,a,hc];exact r9
  |9,u=>
    simp only[z6,y1,v7,w9]at u;subst u;have d8:L 8=T:=c ⟨8,.data⟩ a8 rfl;have d3:L 3=T:=c ⟨3,.data⟩ a8 rfl;simp only[go_sem,h8 d8,h3 d3,k3,k8,a,hc];exact r9
  |10,u=>
    simp only[z6,y1,v7,w9]at u;subst u;have d1:L 1=T:=c ⟨1,.data⟩ a8 rfl;simp only[go_sem,U d1,k3,k8,a,hc];exact r9
  |11,u=>
    simp only[z6,y1,v7,w9]at u;subst u;have X:L 10=T:=c ⟨10,.data⟩ a8 rfl;simp only[go_sem,o X,k3,k8,a,hc];exact r9
  |12,u=>
    simp only[z6,y1,v7,w9]at u;subst u;have av:L 11=T:=c ⟨11,.data⟩ a8 rfl;simp only[go_sem,W av,k3,k8,a,hc];exact r9
  |13,u=>
    simp only[z6,y1,v7,w9]at u;subst u;have P:L 12=T:=c ⟨12,.data⟩ a8 rfl;have d4:L 4=T:=c ⟨4,.data⟩ a8 rfl;simp only[go_sem,q P,h4 d4,k3,k8,a,hc];exact r9
  |14,u=>
    simp only[z6,y1,v7,w9]at u;subst u;have d2:L 2=T:=c ⟨2,.data⟩ a8 rfl;simp only[go_sem,Y d2,k3,k8,a,hc];exact r9
  |15,u=>
    simp only[z6,y1,v7,w9]at u;subst u;have a1:L 14=T:=c ⟨14,.data⟩ a8 rfl;simp only[go_sem,e a1,k3,k8,a,hc];exact r9
  |16,u=>
    simp only[z6,y1,v7,w9]at u;subst u;have a':L 15=T:=c ⟨15,.data⟩ a8 rfl;simp only[go_sem,l a',k3,k8,a,hc];exact r9
  |17,u=>
    simp only[z6,y1,v7,w9]at u;subst u;have bf:L 16=T:=c ⟨16,.data⟩ a8 rfl;have d5:L 5=T:=c ⟨5,.data⟩ a8 rfl;simp only[go_sem,G bf,h5 d5,k3,k8,a,hc];exact r9
  |j+18,u=>exact absurd u a8
 rintro L ⟨f',g',Z⟩ ⟨hg,ho,k3,k8,a,h0,U,Y,h3,h4,h5,h6,h7,h8,o,W,q,e,l,G,hc⟩ bs;simp only at hg ho k3 k8 a h0 U Y h3 h4 h5 h6 h7 h8 o W q e l G hc;subst hg;rw[bs 9 a7,bs 13 a7,bs 17 a7]at hc;simp only[B5]at hc;clear bs h0 U Y h3 h4 h5 h6 h7 h8 o W q e l G;have t:=ho;simp only[go_sem,k3,a,hc];refine sA (B:=1000) aR mixed aa b9 b9 (λL s=>s.gen=g'/\(∀i,i≠1012->s.obj i=Z i)/\s.f 3=.one (.ptr 1012 (g' 1012) 0)/\s.f 9=.one (.clo (203+1000000) [.ptr 1012 (g' 1012) 0])/\(L 0=T->s.f 75=.one (.ptr 1012 (g' 1012) 0))/\(L 1=T->s.f 76=.one (.ptr 1012 (g' 1012) 0))/\(L 2=T->s.f 77=.one (.ptr 1012 (g' 1012) 0))/\(L 3=T->s.f 78=.one (.clo (203+1000000) [.ptr 1012 (g' 1012) 0]))/\(L 4=T->s.f 79=.one (.clo (203+1000000) [.ptr 1012 (g' 1012) 0]))/\(L 5=T->s.f 80=.one (.clo (203+1000000) [.ptr 1012 (g' 1012) 0]))/\(L 6=T->s.f 81=.one (.ptr 1012 (g' 1012) 0))/\(L 7=T->s.f 82=.one (.ptr 1012 (g' 1012) 1))/\(L 8=T->s.f 83=.one (.ptr 1012 (g' 1012) 8))/\(L 10=T->s.f 84=.one (.ptr 1012 (g' 1012) 0))/\(L 11=T->s.f 85=.one (.ptr 1012 (g' 1012) 1))/\(L 12=T->s.f 86=.one (.ptr 1012 (g' 1012) 9))/\(L 14=T->s.f 87=.one (.ptr 1012 (g' 1012) 0))/\(L 15=T->s.f 88=.one (.ptr 1012 (g' 1012) 1))/\(L 16=T->s.f 89=.one (.ptr 1012 (g' 1012) 10))/\s.obj 1012=S [.mp 1010 (g' 1010) 208,.d .nilf,.d (.fn 202),.d (.fn 202),.clo (204+1000000) [.ptr 1012 (g' 1012) 0],.clo (205+1000000) [.ptr 1012 (g' 1012) 0],.d (.fn 202),.clo (206+1000000) [.ptr 1012 (g' 1012) 0],if L 9=T then .clo (203+1000000) [.ptr 1012 (g' 1012) 0]else .d .nilf,if L 13=T then .clo (203+1000000) [.ptr 1012 (g' 1012) 0]else .d .nilf,if L 17=T then .clo (203+1000000) [.ptr 1012 (g' 1012) 0]else .d .nilf]) ?_ ?_ ?_
 .exact⟨rfl,λi hi=>nu,by simp only[go_sem,k3,a],by simp only[go_sem,k3,a],λh=>by simp at h,λh=>by simp at h,λh=>by simp at h,λh=>by simp at h,λh=>by simp at h,λh=>by simp at h,λh=>by simp at h,λh=>by simp at h,λh=>by simp at h,λh=>by simp at h,λh=>by simp at h,λh=>by simp at h,λh=>by simp at h,λh=>by simp at h,λh=>by simp at h,by simp only[go_sem,hc,A3]⟩
 .rintro L ⟨f2,g2,b3⟩ i op ⟨hg,ho,k3,a,h0,U,Y,h3,h4,h5,h6,h7,h8,o,W,q,e,l,G,hc⟩ u hL c b'
  simp only at hg ho k3 a h0 U Y h3 h4 h5 h6 h7 h8 o W q e l G hc;subst hg
  match i,u with
  |0,u=>
    exact ov
  |1,u=>
    exact ov
  |2,u=>
    exact ov
  |3,u=>
    exact ov
  |4,u=>
    exact ov
  |5,u=>
    exact ov
  |6,u=>
    simp only[z6,y1,v7,w9]at u;subst u;have d0:L 0=T:=c ⟨0,.data⟩ a8 rfl;simp only[go_sem,h0 d0,k3,a,hc];exact r9
  |7,u=>
    simp only[z6,y1,v7,w9]at u;subst u;have d6:L 6=T:=c ⟨6,.data⟩ a8 rfl;simp only[go_sem,h6 d6,k3,a,hc];exact r9
  |8,u=>
    simp only[z6,y1,v7,w9]at u;subst u;have d7:L 7=T:=c ⟨7,.data⟩ a8 rfl;simp only[go_sem,h7 d7,k3,a,hc];exact r9
  |9,u=>
    simp only[z6,y1,v7,w9]at u;subst u;have d8:L 8=T:=c ⟨8,.data⟩ a8 rfl;have d3:L 3=T:=c ⟨3,.data⟩ a8 rfl;simp only[go_sem,h8 d8,h3 d3,k3,a,hc];exact r9
  |10,u=>
    simp only[z6,y1,v7,w9]at u;subst u;have d1:L 1=T:=c ⟨1,.data⟩ a8 rfl;simp only[go_sem,U d1,k3,a,hc];exact r9
  |11,u=>
    simp only[z6,y1,v7,w9]at u;subst u;have X:L 10=T:=c ⟨10,.data⟩ a8 rfl;simp only[go_sem,o X,k3,a,hc];exact r9
  |12,u=>
    simp only[z6,y1,v7,w9]at u;subst u;have av:L 11=T:=c ⟨11,.data⟩ a8 rfl;simp only[go_sem,W av,k3,a,hc];exact r9
  |13,u=>
    simp only[z6,y1,v7,w9]at u;subst u;have P:L 12=T:=c ⟨12,.data⟩ a8 rfl;have d4:L 4=T:=c ⟨4,.data⟩ a8 rfl;simp only[go_sem,q P,h4 d4,k3,a,hc];exact r9
  |14,u=>
    simp only[z6,y1,v7,w9]at u;subst u;have d2:L 2=T:=c ⟨2,.data⟩ a8 rfl;simp only[go_sem,Y d2,k3,a,hc];exact r9
  |15,u=>
    simp only[z6,y1,v7,w9]at u;subst u;have a1:L 14=T:=c ⟨14,.data⟩ a8 rfl;simp only[go_sem,e a1,k3,a,hc];exact r9
  |16,u=>
    simp only[z6,y1,v7,w9]at u;subst u;have a':L 15=T:=c ⟨15,.data⟩ a8 rfl;simp only[go_sem,l a',k3,a,hc];exact r9
  |17,u=>
    simp only[z6,y1,v7,w9]at u;subst u;have bf:L 16=T:=c ⟨16,.data⟩ a8 rfl;have d5:L 5=T:=c ⟨5,.data⟩ a8 rfl;simp only[go_sem,G bf,h5 d5,k3,a,hc];exact r9
  |j+18,u=>exact absurd u a8
 rintro L ⟨f2,g2,b3⟩ ⟨hg,ho,k3,a,h0,U,Y,h3,h4,h5,h6,h7,h8,o,W,q,e,l,G,hc⟩ bs;simp only at hg ho k3 a h0 U Y h3 h4 h5 h6 h7 h8 o W q e l G hc;subst hg;rw[bs 9 a7,bs 13 a7,bs 17 a7]at hc;simp only[B5]at hc;clear bs h0 U Y h3 h4 h5 h6 h7 h8 o W q e l G;simp only[go_sem];refine⟨_,ae.refl _,?_⟩;simp only[go_sem,k3];refine⟨_,_,rfl,⟨hc,⟨M,(ho 1010 a7).trans ?_,I⟩,rfl,rfl⟩,λi hi=>⟨(fr i hi).1,?_⟩⟩
 ·(try simp only[upd]);(repeat rw[j8 (by omega)])
  exact(t 1010 a7).trans oM
 .rw[ho i a6]
  (try simp only[upd]);(repeat rw[j8 (by omega)])
  rw[t i a6];exact(fr i hi).2
end
end
section
open Go Go.Am Go.Asm
open Go.Src (Ex Stm szE aH szS aE cj bF qX cW jx cD)
attribute[local congr]ite_cc
def Mt{o:cg}(p:Src.Prog)(bc:szP p<=1000000000):bP Tryz.prog 4 o 86 [cn p] (·=iv .i64 (qX p:Nat)):=by
 refine hdG Tryz.func86 rfl [.tmp 2] λO bo s0 w0 g=>?_;obtain⟨X,b⟩:∃X,qX p=X:=⟨_,rfl⟩
 rw[b];have t:=bc;unfold szP at bc;unfold qX at b;have Q:cn p=.agg [.d (.sl (p.vars.map λs=>[.str s])),.d (.sl (p.arrays.map arD)),.d (.sl (p.funcs.map fnD))]:=rfl;rw[Q];simp only[go_sem];refine bX aG rfl (by simp only[go_sem];rw[<-Q];exact Ms p t) ?_ ?_
 .exact kb
 rintro r g1 W ⟨gr,gm,rfl,E,fr⟩;have w:=fr 1 (.inl a7);simp[upd]at w;have L:∀j,1100<=j->W j=N:=λj I=>by rw[(fr j (.inr a6)).2];simp only[upd];rw[j8 a6]
 clear fr;simp only[go_sem,w.1,w.2,j5]
 refine aq (λm K=>∃k:Nat,m+k=z p.funcs/\(p.funcs.take k).all (λf=>cj p.funcs f.body)=T/\K.f 1=.one (.ptr 1 (K.gen 1) 0)/\K.f 3=.one (.ptr 1012 gr 0)/\K.f 11=.one (.d (.sl (p.funcs.map fnD)))/\K.f 12=iv .i64 (z p.funcs)/\K.f 13=iv .i64 k/\
   K.obj 1=S (iu p)/\yZ p.funcs gr gm K.gen K.obj/\∀j,1100<=j->K.obj j=N) (z p.funcs) ?_ ?_
 .refine⟨0,rfl,a8,?_⟩
  simp only[go_sem,w.1,w.2];exact⟨rfl,E,L⟩
 clear w L E;rintro m f g1 W ⟨k,hk,Y,J,e,u,a,l,o1,E,L⟩;simp only at J e u a l o1 E L;have U:=ab (k:=k) a6;by_cases V:k<z p.funcs
 .have H:(k:Int)<(z p.funcs:Int):=a6
  have an:(0:Int)<=(k:Int):=a6;obtain⟨x,n⟩:=getq V;have B:=kK (p:=p) (l5 n);unfold szP at B;have bd:fnD x=[.str x.name,.sl (x.params.map λs=>[.str s]),.sl (x.locals.map λs=>[.str s]),.bool x.word,.sl (x.body.map smD)]:=rfl;have c:=Dk (fs:=p.funcs) (gr:=gr) (gm:=gm) (aE x.body) x.body (l0 _) a6;obtain⟨y,v⟩:∃y,cj p.funcs x.body=y:=⟨_,rfl⟩
  rw[v]at c;simp only[go_sem,e,u,a,l,H,an,n,bd];refine cG aG rfl c Wt 2000 a6 (λi hi=>nt (L i a6)) ⟨by simp[upd];exact E.or,by simp[upd];exact E.om,by simp[upd];exact E.gr,by simp[upd];exact E.gm⟩ ?_;cases y
  .rw[l7 (Src.all_false (p:=λf=>cj p.funcs f.body) n v)]at b
   subst b;exact hG
  .simp only[go_sem,l,U]
   refine ai (m-1) a6 ⟨k+1,a6,Src.Vx Y n v,?_⟩;simp only[go_sem,J,e,u,a];exact⟨o1,⟨by simp[upd];exact E.or,by simp[upd];exact E.om,by simp[upd];exact E.gr,by simp[upd];exact E.gm⟩,λj I=>nt (L j I)⟩
 have H:¬(k:Int)<(z p.funcs:Int):=a6;obtain rfl:k=z p.funcs:=a6;rw[s6 (l0 _)]at Y;rw[j8 (by rw[Y];simp)]at b;have G:=o1;unfold iu je at o1;simp only[l9,v8]at o1;simp only[go_sem,J,a,l,H,o1,j5]
 refine aq (λm K=>∃k:Nat,m+k=z p.funcs/\(p.funcs.take k).all (λf=>bF p.funcs f.word f.body)=T/\K.f 3=.one (.ptr 1012 gr 0)/\K.f 24=.one (.d (.sl (p.funcs.map fnD)))/\K.f 25=iv .i64 (z p.funcs)/\K.f 26=iv .i64 k/\
   yZ p.funcs gr gm K.gen K.obj/\∀j,1100<=j->K.obj j=N) (z p.funcs) ?_ ?_
 .refine⟨0,rfl,a8,?_⟩
  simp only[go_sem,e];exact⟨E,L⟩
 clear J e u a l o1 G E L V H hk U;rintro m f g1 W ⟨k,hk,Z,e,u,a,l,E,L⟩;simp only at e u a l E L;have U:=ab (k:=k) a6;by_cases V:k<z p.funcs
 .have H:(k:Int)<(z p.funcs:Int):=a6
  have an:(0:Int)<=(k:Int):=a6;obtain⟨x,n⟩:=getq V;have B:=kK (p:=p) (l5 n);unfold szP at B;have bd:fnD x=[.str x.name,.sl (x.params.map λs=>[.str s]),.sl (x.locals.map λs=>[.str s]),.bool x.word,.sl (x.body.map smD)]:=rfl;have A:fnV x=.agg [.d (.str x.name),.d (.sl (x.params.map λs=>[.str s])),.d (.sl (x.locals.map λs=>[.str s])),.d (.bool x.word),.d (.sl (x.body.map smD))]:=rfl;have c:=Dl (fs:=p.funcs) (gr:=gr) (gm:=gm) x (aE x.body) x.body (l0 _) a6;obtain⟨y,v⟩:∃y,bF p.funcs x.word x.body=y:=⟨_,rfl⟩
  rw[v,A]at c;simp only[go_sem,e,u,a,l,H,an,n,bd];refine cG aG rfl c Wt 2000 a6 (λi hi=>nt (L i a6)) ⟨by simp[upd];exact E.or,by simp[upd];exact E.om,by simp[upd];exact E.gr,by simp[upd];exact E.gm⟩ ?_;cases y
  .rw[l7 (Src.all_false (p:=λf=>bF p.funcs f.word f.body) n v)]at b
   subst b;exact hG
  .simp only[go_sem,l,U]
   refine ai (m-1) a6 ⟨k+1,a6,Src.Vx Z n v,?_⟩;simp only[go_sem,e,u,a];exact⟨⟨by simp[upd];exact E.or,by simp[upd];exact E.om,by simp[upd];exact E.gr,by simp[upd];exact E.gm⟩,λj I=>nt (L j I)⟩
 have H:¬(k:Int)<(z p.funcs:Int):=a6;obtain rfl:k=z p.funcs:=a6;rw[s6 (l0 _)]at Z;rw[j8 (by rw[Z];simp)]at b;subst b;simp only[go_sem,a,l,H]
def Mu{o:cg}(ho:kC o)(p:Src.Prog)(bc:szP p<=1000000000):bP Tryz.prog 4 o 50 [cn p] (·=iv .i64 (cW p:Nat)):=by
 refine hdG Tryz.func50 rfl [.tmp 2] λO bo s0 w0 g=>?_;obtain⟨X,a⟩:∃X,cW p=X:=⟨_,rfl⟩
 rw[a];unfold cW at a;have Q:cn p=.agg [.d (.sl (p.vars.map λs=>[.str s])),.d (.sl (p.arrays.map arD)),.d (.sl (p.funcs.map fnD))]:=rfl;have hR:=EN ho p bc;have hT:=Mt (o:=o) p bc;rw[Q]at hR hT|-;simp only[go_sem];refine cK rfl Yx ?_;rintro _ rfl;cases V:cD p
 .rw[l7 V]at a
  subst a;exact hG
 rw[j8 (by rw[V];simp)]at a
 have e:1<=z p.funcs:=by
  unfold cD at V;simp at V;exact V.1.1.1
 have hS:=Mq (o:=o) p e bc;rw[Q]at hS;simp only[go_sem];refine cK rfl XW ?_;rintro _ rfl;by_cases b:jx p=0
 .rw[j8 (by simp[b])]at a
  simp only[go_sem,b];refine cK rfl WO ?_;rintro _ rfl;rw[a];exact hG
 .rw[l7 b]at a
  have A:¬((jx p:Nat):Int)=0:=a6;rw[a]at A|-;simp only[go_sem,A]
end
end Go.Proofs.YtednjibjomfhfaaGreatDoor
namespace Go.Lower
section
structure Ins where
 op:Int
 a:Int
 b:Int
 n:Int
inductive Ex where
 |mk (kind op num slot size:Int) (kids:List Ex)
inductive Stm where
 |mk (kind slot size:Int) (e:List Ex) (th el:List Stm)
abbrev Sig:=List (Int×Bool)
def within(w a n:Int):Prop:=0<=a/\0<=n/\a<=w/\n<=w-a
def callee(ps:Sig)(f:Nat)(g:Int)(args:Nat)(word:Bool):Prop:=∃k:Nat,g=(k:Int)/\k<f/\ps[k]?=S ((args:Int),word)
def okE(w:Int)(ps:Sig)(f:Nat)(q:Int)(kind op num slot size:Int)(n:Nat):Prop:=
 q<=24/\(kind=1\/num=0)/\(kind=6\/op=0)/\(kind=3\/size=0)/\(kind=2\/kind=3\/kind=4\/slot=0)/\
 (((kind=1\/kind=5)/\n=0)\/(kind=2/\within w slot 1/\n=0)\/(kind=3/\1<=size/\size<=4096/\within w slot size/\n=1)\/
  (kind=4/\callee ps f slot n T)\/(kind=6/\4<=op/\op<=15/\n=2)\/(kind=7/\n=1)\/((kind=8\/kind=9)/\n=2))
mutual
def rE(w:Int)(ps:Sig)(f:Nat)(q:Int):Ex->Prop
 |.mk kind op num slot size kids=>okE w ps f q kind op num slot size (z kids)/\rEs w ps f (q+1) kids
def rEs(w:Int)(ps:Sig)(f:Nat)(q:Int):List Ex->Prop
 |[]=>True
 |e::l=>rE w ps f q e/\rEs w ps f q l
end
def okS(w:Int)(ps:Sig)(f:Nat)(word:Bool)(q:Int)(kind slot size:Int)(n nt ne:Nat):Prop:=
 q<=24/\(kind=2\/size=0)/\(kind=1\/kind=2\/kind=6\/slot=0)/\(kind=4\/ne=0)/\(kind=4\/kind=5\/nt=0)/\
 ((kind=1/\within w slot 1/\n=1)\/(kind=2/\1<=size/\size<=4096/\within w slot size/\n=2)\/((kind=3\/kind=4\/kind=5)/\n=1)\/
  (kind=6/\callee ps f slot n F)\/(kind=7/\(n=0\/(word=T/\n=1))))
mutual
def rS(w:Int)(ps:Sig)(f:Nat)(word:Bool)(q:Int):Stm->Prop
 |.mk kind slot size e a el=>okS w ps f word q kind slot size (z e) (z a) (z el)/\rEs w ps f (q+1) e/\rSs w ps f word (q+1) a/\rSs w ps f word (q+1) el
def rSs(w:Int)(ps:Sig)(f:Nat)(word:Bool)(q:Int):List Stm->Prop
 |[]=>True
 |e::l=>rS w ps f word q e/\rSs w ps f word q l
end
abbrev Code:=List (Ins×Int)
def one(kind op num slot size:Int)(d:Int):Code:=
 if kind=1 then [(⟨1,0,0,num⟩,d)]else if kind=2 then [(⟨2,slot,0,0⟩,d)]else if kind=3 then [(⟨4,slot,size,0⟩,d)]else if kind=4 then [(⟨10,slot,0,0⟩,d)]
 else if kind=5 then [(⟨12,0,0,0⟩,d)]else if kind=6 then [(⟨6,op,0,0⟩,d)]else if kind=7 then [(⟨7,0,0,0⟩,d)]else []
def kH(kind d:Int):Code:=if kind=8 then [(⟨7,0,0,0⟩,d+1)]else []
def pA(at':Nat)(d kind:Int)(c0:Code)(c1:Nat->Code):Code:=
 let r:=at'+z c0+z (kH kind d)
 c0++(kH kind d++((⟨9,(r+3:Nat),0,0⟩,d+1)::(⟨1,0,0,if kind=8 then 0 else 1⟩,d)::(⟨8,(r+3+z (c1 (r+3))+2:Nat),0,0⟩,d+1)::(c1 (r+3)++[(⟨7,0,0,0⟩,d+1),(⟨7,0,0,0⟩,d+1)])))
mutual
def cE(at':Nat)(d:Int):Ex->Code
 |.mk kind op num slot size kids=>
   if kind=8\/kind=9 then cAO at' d kind kids
   else cEs at' d kids++one kind op num slot size (d+z kids)
def cEs(at':Nat)(d:Int):List Ex->Code
 |[]=>[]
 |e::l=>cE at' d e++cEs (at'+z (cE at' d e)) (d+1) l
def cAO(at':Nat)(d kind:Int):List Ex->Code
 |[]=>[]
 |e::l=>pA at' d kind (cE at' d e) (λr=>qh r d l)
def qh(at':Nat)(d:Int):List Ex->Code
 |[]=>[]
 |e::_=>cE at' d e
end
def takes(ps:Sig)(word:Bool)(x:Ins):Option (Int×Int):=
 if x.op=1\/x.op=2\/x.op=12 then S (0,1)else if x.op=3\/x.op=9\/x.op=13 then S (1,0)else if x.op=4\/x.op=7 then S (1,1)
 else if x.op=5 then S (2,0)else if x.op=6 then S (2,1)else if x.op=8 then S (0,0)
 else if x.op=10 then(if x.a<0 then N else(ps[x.a.toNat]?).map λp=>(p.1,if p.2 then 1 else 0))
 else if x.op=11 then S (if word then(1,0)else(0,0))else N
def next(x:Ins)(at':Nat):List Int:=if x.op=8 then [x.a]else if x.op=9 then [((at'+1:Nat):Int),x.a]else if x.op=11 then []else [((at'+1:Nat):Int)]
def OkI(ps:Sig)(word:Bool)(G:Nat->Option Int)(at':Nat)(x:Ins)(d:Int):Prop:=
 ∃t p,takes ps word x=S (t,p)/\0<=t/\t<=d/\(x.op=11->d=t)/\∀k∈next x at',∃E:Nat,k=(E:Int)/\G E=S (d-t+p)
def Seg(G:Nat->Option Int):Nat->Code->Prop
 |_,[]=>True
 |at',(_,d)::c=>G at'=S d/\Seg G (at'+1) c
def Good(ps:Sig)(word:Bool)(G:Nat->Option Int):Nat->Code->Prop
 |_,[]=>True
 |at',(x,d)::c=>OkI ps word G at' x d/\Good ps word G (at'+1) c
def iT{G:Nat->Option Int}:∀{a b:Code}{at':Nat},Seg G at' (a++b)↔Seg G at' a/\Seg G (at'+z a) b
 |[],b,at'=>by simp[Seg]
 |(x,d)::a,b,at'=>by simp only[u7,Seg,iT (a:=a),j6,and_assoc];rw[show at'+(z a+1)=at'+1+z a by omega]
def fX{ps:Sig}{word:Bool}{G:Nat->Option Int}:∀{a b:Code}{at':Nat},Good ps word G at' (a++b)↔Good ps word G at' a/\Good ps word G (at'+z a) b
 |[],b,at'=>by simp[Good]
 |(x,d)::a,b,at'=>by simp only[u7,Good,fX (a:=a),j6,and_assoc];rw[show at'+(z a+1)=at'+1+z a by omega]
end
end Go.Lower
namespace Go.Src
section
open Go.Asm (Str)
abbrev Pl:=List (Str×Int×Int)
def jZ:Pl->Str->Option (Int×Int)
 |[],_=>N
 |t::l,s=>if t.1=s then S t.2 else jZ l s
def ei(o i:Pl)(s:Str):Int×Int:=match jZ i s with|some x=>x|none=>(jZ o s).getD (0,0)
mutual
def iP(o i:Pl):Ex->Lower.Ex
 |.mk kind op num name kids=>.mk kind op num (ei o i name).1 (ei o i name).2 (eM o i kids)
def eM(o i:Pl):List Ex->List Lower.Ex
 |[]=>[]
 |e::l=>iP o i e::eM o i l
end
def lJ(o i:Pl):∀l:List Ex,eM o i l=l.map (iP o i)
 |[]=>by simp[eM]
 |e::l=>by simp[eM,lJ o i l]
mutual
def coreS(o i:Pl):Stm->Lower.Stm
 |.mk kind name e a el=>.mk kind (ei o i name).1 (ei o i name).2 (eM o i e) (ej o i a) (ej o i el)
def ej(o i:Pl):List Stm->List Lower.Stm
 |[]=>[]
 |s::l=>coreS o i s::ej o i l
end
def lK(o i:Pl):∀l:List Stm,ej o i l=l.map (coreS o i)
 |[]=>by simp[ej]
 |e::l=>by simp[ej,lK o i l]
structure CFn where
 params:Int
 slots:Int
 first:Int
 word:Bool
 body:List Lower.Stm
def gV:List Str->Pl->Int->Pl×Int
 |[],m,w=>(m,w)
 |n::l,m,w=>gV l ((n,w,0)::m) (w+1)
def gA:List (Str×Int)->Pl->Int->Pl×Int
 |[],m,w=>(m,w)
 |a::l,m,w=>gA l ((a.1,w,a.2)::m) (w+a.2)
def gF:Nat->List Fn->Pl->Pl
 |_,[],m=>m
 |i,f::l,m=>gF (i+1) l ((f.name,(i:Int),0)::m)
def bB(p:Prog):Pl×Int:=
 (gF 0 p.funcs (gA p.arrays (gV p.vars [] 0).1 (gV p.vars [] 0).2).1,(gA p.arrays (gV p.vars [] 0).1 (gV p.vars [] 0).2).2)
def lP(w:Int):Nat->List Str->Pl->Pl
 |_,[],m=>m
 |i,n::l,m=>lP w (i+1) l ((n,w+i,0)::m)
def pE(o:Pl)(f:Fn)(w:Int):CFn:=
 ⟨z f.params,z f.params+z f.locals,w,f.word,ej o (lP (w+z f.params) 0 f.locals (lP w 0 f.params [])) f.body⟩
def eF(o:Pl):List Fn->Int->List CFn×Int
 |[],w=>([],w)
 |f::l,w=>(pE o f w::(eF o l (w+(z f.params+z f.locals))).1,(eF o l (w+(z f.params+z f.locals))).2)
structure Core where
 words:Int
 funcs:List CFn
def au(p:Prog):Core:=⟨(eF (bB p).1 p.funcs (bB p).2).2,(eF (bB p).1 p.funcs (bB p).2).1⟩
def jI(p:Prog):Core×Nat:=
 if cW p≠0 then(⟨0,[]⟩,cW p)else if 32768<(au p).words then(⟨0,[]⟩,2)else(au p,0)
end
end Go.Src

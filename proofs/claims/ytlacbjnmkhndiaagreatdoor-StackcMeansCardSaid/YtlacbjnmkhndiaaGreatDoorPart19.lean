/- A part of the proof; no conditions. -/
import Derived.Test.YtlacbjnmkhndiaaGreatDoorPart18
set_option linter.unusedSimpArgs false
set_option linter.unusedVariables false
set_option linter.defProp false
open List renaming length -> z
open Option renaming some -> S, none -> N
open Bool renaming true -> T, false -> F
set_option maxHeartbeats 64000000
set_option maxRecDepth 100000
namespace Go.Proofs.YtlacbjnmkhndiaaGreatDoor
section
attribute [local congr] Go.Am.ite_cc
open Go Go.Am Go.Asm
open Go.Src (Ex Stm szE bc szS aD bU bh qd aX iZ dX)
def Km{o:cF}(p:Src.Prog)(az:szP p<=1000000000):bP Tryz.prog 1 o 69 [bS p] (·=iv .i64 (qd p:Nat)):=by
 refine hdG Tryz.func69 rfl [.tmp 2] λO bn s0 w0 g=>?_;obtain⟨X,b⟩:∃X,qd p=X:=⟨_,rfl⟩
 rw[b];have u:=az;unfold szP at az;unfold qd at b;have G:bS p=.agg [.d (.sl (p.vars.map λs=>[.str s])),.d (.sl (p.arrays.map arD)),.d (.sl (p.funcs.map fnD))]:=rfl;rw[G];simp only[go_sem];refine cj aE rfl (by simp only[go_sem];rw[<-G];exact Kl p u) ?_ ?_
 .exact kb
 rintro r Y U ⟨gr,gm,rfl,E,fr⟩;have t:=fr 1 (.inl b9);simp[upd]at t;have ar:∀j,1100<=j->U j=N:=λj v=>by rw[(fr j (.inr a7)).2];simp only[upd];rw[j8 a7]
 clear fr;simp only[go_sem,t.1,t.2,j6]
 refine aw (λm K=>∃k:Nat,m+k=z p.funcs/\(p.funcs.take k).all (λf=>bU p.funcs f.body)=T/\K.f 1=.one (.ptr 1 (K.gen 1) 0)/\K.f 3=.one (.ptr 1012 gr 0)/\K.f 11=.one (.d (.sl (p.funcs.map fnD)))/\K.f 12=iv .i64 (z p.funcs)/\K.f 13=iv .i64 k/\
   K.obj 1=S (iW p)/\xr p.funcs gr gm K.gen K.obj/\∀j,1100<=j->K.obj j=N) (z p.funcs) ?_ ?_
 .refine⟨0,rfl,a8,?_⟩
  simp only[go_sem,t.1,t.2];exact⟨rfl,E,ar⟩
 clear t ar E;rintro m f Y U ⟨k,Z,bs,w,e,q,I,c,o1,E,ar⟩;simp only at w e q I c o1 E ar;have A:=ac (k:=k) a7;by_cases L:k<z p.funcs
 .have Q:(k:Int)<(z p.funcs:Int):=a7
  have V:(0:Int)<=(k:Int):=a7;obtain⟨x,l⟩:=getq L;have B:=kf (p:=p) (l6 l);unfold szP at B;have bk:fnD x=[.str x.name,.sl (x.params.map λs=>[.str s]),.sl (x.locals.map λs=>[.str s]),.bool x.word,.sl (x.body.map smD)]:=rfl;have a:=Bd (fs:=p.funcs) (gr:=gr) (gm:=gm) (aD x.body) x.body (l7 _) a7;obtain⟨y,n⟩:∃y,bU p.funcs x.body=y:=⟨_,rfl⟩
  rw[n]at a;simp only[go_sem,e,q,I,c,Q,V,l,bk];refine cl aE rfl a VG 2000 a7 (λi hi=>nt (ar i a7)) ⟨by simp[upd];exact E.or,by simp[upd];exact E.om,by simp[upd];exact E.gr,by simp[upd];exact E.gm⟩ ?_;cases y
  .rw[l8 (Src.all_false (p:=λf=>bU p.funcs f.body) l n)]at b
   subst b;exact hx
  .simp only[go_sem,c,A]
   refine ah (m-1) a7 ⟨k+1,a7,Src.TR bs l n,?_⟩;simp only[go_sem,w,e,q,I];exact⟨o1,⟨by simp[upd];exact E.or,by simp[upd];exact E.om,by simp[upd];exact E.gr,by simp[upd];exact E.gm⟩,λj v=>nt (ar j v)⟩
 have Q:¬(k:Int)<(z p.funcs:Int):=a7;obtain rfl:k=z p.funcs:=a7;rw[s6 (l7 _)]at bs;rw[j8 (by rw[bs];simp)]at b;have H:=o1;unfold iW iH at o1;simp only[l9,w9]at o1;simp only[go_sem,w,I,c,Q,o1,j6]
 refine aw (λm K=>∃k:Nat,m+k=z p.funcs/\(p.funcs.take k).all (λf=>bh p.funcs f.word f.body)=T/\K.f 3=.one (.ptr 1012 gr 0)/\K.f 24=.one (.d (.sl (p.funcs.map fnD)))/\K.f 25=iv .i64 (z p.funcs)/\K.f 26=iv .i64 k/\
   xr p.funcs gr gm K.gen K.obj/\∀j,1100<=j->K.obj j=N) (z p.funcs) ?_ ?_
 .refine⟨0,rfl,a8,?_⟩
  simp only[go_sem,e];exact⟨E,ar⟩
 clear w e q I c o1 H E ar L Q Z A;rintro m f Y U ⟨k,Z,W,e,q,I,c,E,ar⟩;simp only at e q I c E ar;have A:=ac (k:=k) a7;by_cases L:k<z p.funcs
 .have Q:(k:Int)<(z p.funcs:Int):=a7
  have V:(0:Int)<=(k:Int):=a7;obtain⟨x,l⟩:=getq L;have B:=kf (p:=p) (l6 l);unfold szP at B;have bk:fnD x=[.str x.name,.sl (x.params.map λs=>[.str s]),.sl (x.locals.map λs=>[.str s]),.bool x.word,.sl (x.body.map smD)]:=rfl;have J:fnV x=.agg [.d (.str x.name),.d (.sl (x.params.map λs=>[.str s])),.d (.sl (x.locals.map λs=>[.str s])),.d (.bool x.word),.d (.sl (x.body.map smD))]:=rfl;have a:=Be (fs:=p.funcs) (gr:=gr) (gm:=gm) x (aD x.body) x.body (l7 _) a7;obtain⟨y,n⟩:∃y,bh p.funcs x.word x.body=y:=⟨_,rfl⟩
  rw[n,J]at a;simp only[go_sem,e,q,I,c,Q,V,l,bk];refine cl aE rfl a VG 2000 a7 (λi hi=>nt (ar i a7)) ⟨by simp[upd];exact E.or,by simp[upd];exact E.om,by simp[upd];exact E.gr,by simp[upd];exact E.gm⟩ ?_;cases y
  .rw[l8 (Src.all_false (p:=λf=>bh p.funcs f.word f.body) l n)]at b
   subst b;exact hx
  .simp only[go_sem,c,A]
   refine ah (m-1) a7 ⟨k+1,a7,Src.TR W l n,?_⟩;simp only[go_sem,e,q,I];exact⟨⟨by simp[upd];exact E.or,by simp[upd];exact E.om,by simp[upd];exact E.gr,by simp[upd];exact E.gm⟩,λj v=>nt (ar j v)⟩
 have Q:¬(k:Int)<(z p.funcs:Int):=a7;obtain rfl:k=z p.funcs:=a7;rw[s6 (l7 _)]at W;rw[j8 (by rw[W];simp)]at b;subst b;simp only[go_sem,I,c,Q]
def Kn{o:cF}(ho:jS o)(p:Src.Prog)(az:szP p<=1000000000):bP Tryz.prog 1 o 43 [bS p] (·=iv .i64 (aX p:Nat)):=by
 refine hdG Tryz.func43 rfl [.tmp 2] λO bn s0 w0 g=>?_;obtain⟨X,a⟩:∃X,aX p=X:=⟨_,rfl⟩
 rw[a];unfold aX at a;have G:bS p=.agg [.d (.sl (p.vars.map λs=>[.str s])),.d (.sl (p.arrays.map arD)),.d (.sl (p.funcs.map fnD))]:=rfl;have hR:=CD ho p az;have hT:=Km (o:=o) p az;rw[G]at hR hT|-;simp only[go_sem];refine cG rfl Xo ?_;rintro _ rfl;cases V:dX p
 .rw[l8 V]at a
  subst a;exact hx
 rw[j8 (by rw[V];simp)]at a
 have e:1<=z p.funcs:=by
  unfold dX at V;simp at V;exact V.1.1.1
 have hS:=Kj (o:=o) p e az;rw[G]at hS;simp only[go_sem];refine cG rfl W0 ?_;rintro _ rfl;by_cases b:iZ p=0
 .rw[j8 (by simp[b])]at a
  simp only[go_sem,b];refine cG rfl VT ?_;rintro _ rfl;rw[a];exact hx
 .rw[l8 b]at a
  have bl:¬((iZ p:Nat):Int)=0:=a7;rw[a]at bl|-;simp only[go_sem,bl]
end
end Go.Proofs.YtlacbjnmkhndiaaGreatDoor
namespace Go.Lower
section
structure Ins where
 op:Int
 a:Int
 b:Int
 n:Int
inductive Ex where
 |mk (kind op num slot size:Int) (kids:List Ex)
inductive Stm where
 |mk (kind slot size:Int) (e:List Ex) (th el:List Stm)
abbrev Sig:=List (Int×Bool)
def within(w a n:Int):Prop:=0<=a/\0<=n/\a<=w/\n<=w-a
def callee(ps:Sig)(f:Nat)(g:Int)(args:Nat)(word:Bool):Prop:=∃k:Nat,g=(k:Int)/\k<f/\ps[k]?=S ((args:Int),word)
def okE(w:Int)(ps:Sig)(f:Nat)(q:Int)(kind op num slot size:Int)(n:Nat):Prop:=
 q<=24/\(kind=1\/num=0)/\(kind=6\/op=0)/\(kind=3\/size=0)/\(kind=2\/kind=3\/kind=4\/slot=0)/\
 (((kind=1\/kind=5)/\n=0)\/(kind=2/\within w slot 1/\n=0)\/(kind=3/\1<=size/\size<=4096/\within w slot size/\n=1)\/
  (kind=4/\callee ps f slot n T)\/(kind=6/\4<=op/\op<=15/\n=2)\/(kind=7/\n=1)\/((kind=8\/kind=9)/\n=2))
mutual
def rE(w:Int)(ps:Sig)(f:Nat)(q:Int):Ex->Prop
 |.mk kind op num slot size kids=>okE w ps f q kind op num slot size (z kids)/\rEs w ps f (q+1) kids
def rEs(w:Int)(ps:Sig)(f:Nat)(q:Int):List Ex->Prop
 |[]=>True
 |e::l=>rE w ps f q e/\rEs w ps f q l
end
def okS(w:Int)(ps:Sig)(f:Nat)(word:Bool)(q:Int)(kind slot size:Int)(n nt ne:Nat):Prop:=
 q<=24/\(kind=2\/size=0)/\(kind=1\/kind=2\/kind=6\/slot=0)/\(kind=4\/ne=0)/\(kind=4\/kind=5\/nt=0)/\
 ((kind=1/\within w slot 1/\n=1)\/(kind=2/\1<=size/\size<=4096/\within w slot size/\n=2)\/((kind=3\/kind=4\/kind=5)/\n=1)\/
  (kind=6/\callee ps f slot n F)\/(kind=7/\(n=0\/(word=T/\n=1))))
mutual
def rS(w:Int)(ps:Sig)(f:Nat)(word:Bool)(q:Int):Stm->Prop
 |.mk kind slot size e a el=>okS w ps f word q kind slot size (z e) (z a) (z el)/\rEs w ps f (q+1) e/\rSs w ps f word (q+1) a/\rSs w ps f word (q+1) el
def rSs(w:Int)(ps:Sig)(f:Nat)(word:Bool)(q:Int):List Stm->Prop
 |[]=>True
 |e::l=>rS w ps f word q e/\rSs w ps f word q l
end
abbrev Code:=List (Ins×Int)
def one(kind op num slot size:Int)(d:Int):Code:=
 if kind=1 then [(⟨1,0,0,num⟩,d)]else if kind=2 then [(⟨2,slot,0,0⟩,d)]else if kind=3 then [(⟨4,slot,size,0⟩,d)]else if kind=4 then [(⟨10,slot,0,0⟩,d)]
 else if kind=5 then [(⟨12,0,0,0⟩,d)]else if kind=6 then [(⟨6,op,0,0⟩,d)]else if kind=7 then [(⟨7,0,0,0⟩,d)]else []
def gY(kind d:Int):Code:=if kind=8 then [(⟨7,0,0,0⟩,d+1)]else []
def jM(at':Nat)(d kind:Int)(c0:Code)(c1:Nat->Code):Code:=
 let r:=at'+z c0+z (gY kind d)
 c0++(gY kind d++((⟨9,(r+3:Nat),0,0⟩,d+1)::(⟨1,0,0,if kind=8 then 0 else 1⟩,d)::(⟨8,(r+3+z (c1 (r+3))+2:Nat),0,0⟩,d+1)::(c1 (r+3)++[(⟨7,0,0,0⟩,d+1),(⟨7,0,0,0⟩,d+1)])))
mutual
def cE(at':Nat)(d:Int):Ex->Code
 |.mk kind op num slot size kids=>
   if kind=8\/kind=9 then cAO at' d kind kids
   else cEs at' d kids++one kind op num slot size (d+z kids)
def cEs(at':Nat)(d:Int):List Ex->Code
 |[]=>[]
 |e::l=>cE at' d e++cEs (at'+z (cE at' d e)) (d+1) l
def cAO(at':Nat)(d kind:Int):List Ex->Code
 |[]=>[]
 |e::l=>jM at' d kind (cE at' d e) (λr=>jv r d l)
def jv(at':Nat)(d:Int):List Ex->Code
 |[]=>[]
 |e::_=>cE at' d e
end
def takes(ps:Sig)(word:Bool)(x:Ins):Option (Int×Int):=
 if x.op=1\/x.op=2\/x.op=12 then S (0,1)else if x.op=3\/x.op=9\/x.op=13 then S (1,0)else if x.op=4\/x.op=7 then S (1,1)
 else if x.op=5 then S (2,0)else if x.op=6 then S (2,1)else if x.op=8 then S (0,0)
 else if x.op=10 then(if x.a<0 then N else(ps[x.a.toNat]?).map λp=>(p.1,if p.2 then 1 else 0))
 else if x.op=11 then S (if word then(1,0)else(0,0))else N
def next(x:Ins)(at':Nat):List Int:=if x.op=8 then [x.a]else if x.op=9 then [((at'+1:Nat):Int),x.a]else if x.op=11 then []else [((at'+1:Nat):Int)]
def OkI(ps:Sig)(word:Bool)(E:Nat->Option Int)(at':Nat)(x:Ins)(d:Int):Prop:=
 ∃t p,takes ps word x=S (t,p)/\0<=t/\t<=d/\(x.op=11->d=t)/\∀k∈next x at',∃a:Nat,k=(a:Int)/\E a=S (d-t+p)
def Seg(E:Nat->Option Int):Nat->Code->Prop
 |_,[]=>True
 |at',(_,d)::c=>E at'=S d/\Seg E (at'+1) c
def Good(ps:Sig)(word:Bool)(E:Nat->Option Int):Nat->Code->Prop
 |_,[]=>True
 |at',(x,d)::c=>OkI ps word E at' x d/\Good ps word E (at'+1) c
def ig{E:Nat->Option Int}:∀{a b:Code}{at':Nat},Seg E at' (a++b)↔Seg E at' a/\Seg E (at'+z a) b
 |[],b,at'=>by simp[Seg]
 |(x,d)::a,b,at'=>by simp only[C3,Seg,ig (a:=a),j9,and_assoc];rw[show at'+(z a+1)=at'+1+z a by omega]
def fB{ps:Sig}{word:Bool}{E:Nat->Option Int}:∀{a b:Code}{at':Nat},Good ps word E at' (a++b)↔Good ps word E at' a/\Good ps word E (at'+z a) b
 |[],b,at'=>by simp[Good]
 |(x,d)::a,b,at'=>by simp only[C3,Good,fB (a:=a),j9,and_assoc];rw[show at'+(z a+1)=at'+1+z a by omega]
end
end Go.Lower
namespace Go.Src
section
open Go.Asm (Str)
abbrev Pl:=List (Str×Int×Int)
def jx:Pl->Str->Option (Int×Int)
 |[],_=>N
 |t::l,s=>if t.1=s then S t.2 else jx l s
def bV(o i:Pl)(s:Str):Int×Int:=match jx i s with|some x=>x|none=>(jx o s).getD (0,0)
mutual
def di(o i:Pl):Ex->Lower.Ex
 |.mk kind op num name kids=>.mk kind op num (bV o i name).1 (bV o i name).2 (aU o i kids)
def aU(o i:Pl):List Ex->List Lower.Ex
 |[]=>[]
 |e::l=>di o i e::aU o i l
end
def kO(o i:Pl):∀l:List Ex,aU o i l=l.map (di o i)
 |[]=>by simp[aU]
 |e::l=>by simp[aU,kO o i l]
mutual
def coreS(o i:Pl):Stm->Lower.Stm
 |.mk kind name e a el=>.mk kind (bV o i name).1 (bV o i name).2 (aU o i e) (bA o i a) (bA o i el)
def bA(o i:Pl):List Stm->List Lower.Stm
 |[]=>[]
 |s::l=>coreS o i s::bA o i l
end
def kP(o i:Pl):∀l:List Stm,bA o i l=l.map (coreS o i)
 |[]=>by simp[bA]
 |e::l=>by simp[bA,kP o i l]
structure CFn where
 params:Int
 slots:Int
 first:Int
 word:Bool
 body:List Lower.Stm
def gV:List Str->Pl->Int->Pl×Int
 |[],m,w=>(m,w)
 |n::l,m,w=>gV l ((n,w,0)::m) (w+1)
def gA:List (Str×Int)->Pl->Int->Pl×Int
 |[],m,w=>(m,w)
 |a::l,m,w=>gA l ((a.1,w,a.2)::m) (w+a.2)
def gF:Nat->List Fn->Pl->Pl
 |_,[],m=>m
 |i,f::l,m=>gF (i+1) l ((f.name,(i:Int),0)::m)
def ai(p:Prog):Pl×Int:=
 (gF 0 p.funcs (gA p.arrays (gV p.vars [] 0).1 (gV p.vars [] 0).2).1,(gA p.arrays (gV p.vars [] 0).1 (gV p.vars [] 0).2).2)
def lP(w:Int):Nat->List Str->Pl->Pl
 |_,[],m=>m
 |i,n::l,m=>lP w (i+1) l ((n,w+i,0)::m)
def lR(o:Pl)(f:Fn)(w:Int):CFn:=
 ⟨z f.params,z f.params+z f.locals,w,f.word,bA o (lP (w+z f.params) 0 f.locals (lP w 0 f.params [])) f.body⟩
def cR(o:Pl):List Fn->Int->List CFn×Int
 |[],w=>([],w)
 |f::l,w=>(lR o f w::(cR o l (w+(z f.params+z f.locals))).1,(cR o l (w+(z f.params+z f.locals))).2)
structure Core where
 words:Int
 funcs:List CFn
def ab(p:Prog):Core:=⟨(cR (ai p).1 p.funcs (ai p).2).2,(cR (ai p).1 p.funcs (ai p).2).1⟩
def iN(p:Prog):Core×Nat:=
 if aX p≠0 then(⟨0,[]⟩,aX p)else if 32768<(ab p).words then(⟨0,[]⟩,2)else(ab p,0)
end
end Go.Src

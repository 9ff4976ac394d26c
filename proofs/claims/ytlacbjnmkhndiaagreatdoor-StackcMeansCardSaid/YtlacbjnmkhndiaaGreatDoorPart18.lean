/- A part of the proof; no conditions. -/
import Derived.Test.YtlacbjnmkhndiaaGreatDoorPart17
set_option linter.unusedSimpArgs false
set_option linter.unusedVariables false
set_option linter.defProp false
open List renaming length -> z
open Option renaming some -> S, none -> N
open Bool renaming true -> T, false -> F
set_option maxHeartbeats 64000000
set_option maxRecDepth 100000
namespace Go.Proofs.YtlacbjnmkhndiaaGreatDoor
section
open Go Go.Am Go.Asm
open Go.Src (Ex Stm du)
open Go.Mn (Sg Rs evE dr evS da evW evB ap)
attribute[local congr]ite_cc
section
def wM(L:List Nat):List C:=L.map λx=>.d (.int .u32 (x:Nat))
def bM(s:Str):List C:=s.map λb=>.d (.int .u8 (b.toNat:Nat))
def uN(L:List Nat):z (wM L)=z L:=by simp[wM]
def HU(s:Str):z (bM s)=z s:=by simp[bM]
def Lo{B a:Nat}(h:a<B)(k:Nat):(B+k=a)=False:=by simp;omega
def Lp{B a:Nat}(h:a<B)(k:Nat):(a=B+k)=False:=by simp;omega
def mC(k o n:Int)(a:Str)(c:List Ex):exV (.mk k o n a c)=.agg [.d (.int .i64 k),.d (.int .i64 o),.d (.int .u32 n),.d (.str a),.d (.sl (c.map exD))]:=by simp[exV,exD,aK]
def cT(e:Ex):(exD e).take 5=exD e:=s6 (F2 (aZ e))
def nT(k:Int)(a:Str)(e:List Ex)(c el:List Stm):smV (.mk k a e c el)=.agg [.d (.int .i64 k),.d (.str a),.d (.sl (e.map exD)),.d (.sl (c.map smD)),.d (.sl (el.map smD))]:=by simp[smV,smD,aK,dQ]
def Ev(e:Stm):(smD e).take 5=smD e:=s6 (F2 (kX e))
section
variable(p:Src.Prog)(inp:Str)(fu gV gA:Nat)(gk:Nat->Nat)
def alM(k:Nat):Nat:=((p.arrays[k]?).map λa=>a.2.toNat).getD 0
def arM:List C:=(List.range (z p.arrays)).map λk=>.osl (2000+k) (gk k) 1 0 (alM p k)
def rnM(w:Nat)(G:Sg)(e:Nat):List C:=[.d (.sl (p.vars.map λs=>[.str s])),.d (.sl (p.arrays.map arD)),.d (.sl (p.funcs.map fnD)),.d (.str inp),.d (.int .i64 (fu:Nat)),.osl 1022 gV 1 0 (z p.vars),.osl 1021 gA 1 0 (z p.arrays),.osl 1023 w 1 0 (z G.out),.d (.int .i64 (G.rd:Nat)),.d (.int .i64 (G.tk:Nat)),.d (.int .i64 (e:Nat))]
def frM(f W c n:Nat)(r:Option Nat):List C:=[.d (.int .i64 (f:Nat)),.osl W c 1 0 n,.d (.bool r.isSome),.d (.int .u32 (r.getD 0:Nat))]
def pS(w:Nat)(G:Sg)(e i:Nat)(o:Option (List C)):Option (List C):=
 if i=1024 then S (rnM p inp fu gV gA w G e)else if i=1023 then S (bM G.out)else if i=1022 then S (wM G.vars)else if 2000<=i/\i<2000+z p.arrays then S (wM ((G.arrs[i-2000]?).getD []))else o
def pT(X W f c w:Nat)(G:Sg)(e:Nat)(L:List Nat)(r:Option Nat)(i:Nat)(o:Option (List C)):Option (List C):=
 if i=W then S (wM L)else if i=X then S (frM f W c (z L) r)else pS p inp fu gV gA w G e i o
structure SvM (g:Nat->Nat) (ob:Obs) (G:Sg) (e:Nat):Prop where
 fix:∀i,ob i=pS p inp fu gV gA (g 1023) G e i (ob i)
 gv:g 1022=gV
 ga:g 1021=gA
 ar:ob 1021=some (arM p gk)
 gk:∀k,k<p.arrays.length->g (2000+k)=gk k
 vl:G.vars.length=p.vars.length
 al:G.arrs.length=p.arrays.length/\∀(k:Nat)(l:List Nat),G.arrs[k]?=some l->l.length=alM p k
structure SmM:Prop where
 v:p.vars.length<=1000000
 a:p.arrays.length<=900
 f:p.funcs.length<=1000000
 fn:∀fn∈p.funcs,fn.params.length<=1000000/\fn.locals.length<=1000000/\Src.aD fn.body<=1000000
 fu:fu<=1000000000000
 inp:inp.length<=1000000000
 az:∀k,alM p k<=1000000
structure FrM (B:Nat) (g:Nat->Nat) (ob:Obs) (X W f:Nat) (L:List Nat) (G:Sg) (e:Nat):Prop where
 hB:3000<=B
 sm:SmM p inp fu
 fn:∃fn,p.funcs[f]?=some fn
 hX:3000<=X/\X<B
 hW:3000<=W/\W<B
 ne:X≠W
 free:∀i,B<=i->ob i=none
 sv:SvM p inp fu gV gA gk g ob G e
 frm:ob X=some (frM f W (g W) L.length none)
 wds:ob W=some (wM L)
 rd:G.rd<=inp.length
def dW(r:Rs Nat)(a:Nat)(b:Sg)(v:Nat)(ad:Sg)(e':Nat):Prop:=
 if a=0 then(match r with|.ok v0 H=>v=v0/\ad=H/\e'=0|.en e H=>e≠0/\ad=H/\e'=e|.no=>False)else ad=b/\e'=a
def OkM(G:Sg):Prop:=z G.vars=z p.vars/\(z G.arrs=z p.arrays/\∀(k:Nat)(l:List Nat),G.arrs[k]?=S l->z l=alM p k)/\G.rd<=z inp
def Pf(X W f:Nat)(L:List Nat)(r:Rs Nat)(h:Nat)(G:Sg)(g:Nat->Nat)(ob:Obs)(x:AV)(g':Nat->Nat)(Y:Obs):Prop:=
 ∃v a c w,dW r h G v a c/\OkM p inp a/\x=iv .u32 (v:Nat)/\g'=upd g 1023 w/\Y=λi=>pT p inp fu gV gA X W f (g W) w a c L N i (ob i)
def HE(n:Nat):Prop:=∀(f:Nat)(L:List Nat)(G:Sg)(a:Nat)(x:Ex),Src.szE x<=1000000->(a=0->evE p (ap p) inp fu n f L G x≠.no)->∀(B:Nat)(g:Nat->Nat)(ob:Obs)(X W:Nat),FrM p inp fu gV gA gk B g ob X W f L G a->
 fX Tryz.prog 178 [.one (.ptr 1024 (g 1024) 0),.one (.ptr X (g X) 0),exV x] g ob (Pf p inp fu gV gA X W f L (evE p (ap p) inp fu n f L G x) a G g ob)
def er(r:Rs (List Nat×Option Nat))(a:Nat)(b:Sg)(d bd:List Nat)(q:Option Nat)(ad:Sg)(e':Nat):Prop:=
 if a=0 then(match r with|.ok x H=>bd=x.1/\q=x.2/\ad=H/\e'=0|.en e H=>e≠0/\ad=H/\e'=e|.no=>False)else ad=b/\e'=a/\bd=d/\q=N
def RunT(X W f:Nat)(L:List Nat)(r:Rs (List Nat×Option Nat))(j:Nat)(G:Sg)(g:Nat->Nat)(ob:Obs)(x:AV)(g':Nat->Nat)(Y:Obs):Prop:=
 ∃c q a h w,er r j G L c q a h/\OkM p inp a/\x=uv/\g'=upd g 1023 w/\Y=λi=>pT p inp fu gV gA X W f (g W) w a h c q i (ob i)
end
variable{g:Nat->Nat}{ob:Obs}{B:Nat}{G:Sg}{L:List Nat}{X W f e:Nat}{s:St}{o:Option (List C)}{d:List Nat}{b:Sg}{r:Option Nat}{K:St->Prop}{args:Array Operand}{tys:Array TypeId}
section
variable{p:Src.Prog}{inp:Str}{fu gV gA:Nat}{gk:Nat->Nat}
def HV{w y e e' i:Nat}{G ad:Sg}:pS p inp fu gV gA w G e i (pS p inp fu gV gA y ad e' i o)=pS p inp fu gV gA w G e i o:=by
 unfold pS;split
 .rfl
 split
 .rfl
 split
 .rfl
 split<;>rfl
def zG{X W f c w y e e' i:Nat}{G ad:Sg}{L bd:List Nat}{r q:Option Nat}:pT p inp fu gV gA X W f c w G e L r i (pT p inp fu gV gA X W f c y ad e' bd q i o)=pT p inp fu gV gA X W f c w G e L r i o:=by
 unfold pT;split
 .rfl
 split
 .rfl
 exact HV
def qS{w e i:Nat}(a:z p.arrays<=900)(h:3000<=i\/i=1021):pS p inp fu gV gA w G e i o=o:=by
 unfold pS;rw[j8 a7,j8 a7,j8 a7,j8 a7]
def FrM.rds{X W f i:Nat}(h:FrM p inp fu gV gA gk B g ob X W f d b i):
  (∀w G e L r o,pT p inp fu gV gA X W f (g W) w G e L r 1024 o=S (rnM p inp fu gV gA w G e))/\(∀w G e L r o,pT p inp fu gV gA X W f (g W) w G e L r 1023 o=S (bM G.out))/\(∀w G e L r o,pT p inp fu gV gA X W f (g W) w G e L r 1022 o=S (wM G.vars))/\
  (∀w G e L r o,pT p inp fu gV gA X W f (g W) w G e L r 1021 o=o)/\(∀w G e L r k o,pT p inp fu gV gA X W f (g W) w G e L r (B+k) o=o)/\(∀w G e L r o,pT p inp fu gV gA X W f (g W) w G e L r X o=S (frM f W (g W) (z L) r))/\(∀w G e L r o,pT p inp fu gV gA X W f (g W) w G e L r W o=S (wM L)):=by
 have U:=h.hB;have l:=h.hX;have m:=h.hW;have j:=h.ne;have c:=h.sm.a;refine⟨λ_ _ _ _ _ _=>?_,λ_ _ _ _ _ _=>?_,λ_ _ _ _ _ _=>?_,λ_ _ _ _ _ _=>?_,λ_ _ _ _ _ k _=>?_,λ_ _ _ _ _ _=>?_,λ_ _ _ _ _ _=>l8 rfl⟩<;>unfold pT
 .rw[j8 a7,j8 a7];rfl
 .rw[j8 a7,j8 a7];rfl
 .rw[j8 a7,j8 a7];rfl
 .rw[j8 a7,j8 a7];exact qS c (.inr rfl)
 .rw[j8 a7,j8 a7];exact qS c (.inl a7)
 .rw[j8 j,l8 rfl]
def FrM.hi{X W f j:Nat}(h:FrM p inp fu gV gA gk B g ob X W f d b j){c w e i:Nat}(l:B<=i):pT p inp fu gV gA X W f c w G e L r i o=o:=by
 have U:=h.hB;have m:=h.hX;have n:=h.hW;have k:=h.sm.a;unfold pT;rw[j8 a7,j8 a7];exact qS k (.inl a7)
def FrM.nes{X W f a:Nat}(h:FrM p inp fu gV gA gk B g ob X W f d b a):
  ((∀k,(B+k=1024)=False)/\(∀k,(1024=B+k)=False)/\(∀k,(B+k=1023)=False)/\(∀k,(1023=B+k)=False)/\(∀k,(B+k=1022)=False)/\(∀k,(1022=B+k)=False)/\(∀k,(B+k=1021)=False)/\(∀k,(1021=B+k)=False)/\(∀k,(B+k=X)=False)/\(∀k,(X=B+k)=False)/\(∀k,(B+k=W)=False)/\(∀k,(W=B+k)=False))/\
  ((X=1024)=False/\(X=1023)=False/\(X=1022)=False/\(W=1024)=False/\(W=1023)=False/\(W=1022)=False/\(1024=X)=False/\(1023=X)=False/\(1022=X)=False/\(1024=W)=False/\(1023=W)=False/\(1022=W)=False/\(X=W)=False/\(W=X)=False):=by
 have U:=h.hB;have c:=h.hX;have i:=h.hW;have j:=h.ne;refine⟨⟨?_,?_,?_,?_,?_,?_,?_,?_,?_,?_,?_,?_⟩,⟨?_,?_,?_,?_,?_,?_,?_,?_,?_,?_,?_,?_,?_,?_⟩⟩<;>first|(intro k;simp;omega)|(simp;omega)
def SvM.okm{e:Nat}(h:SvM p inp fu gV gA gk g ob G e)(V:G.rd<=z inp):OkM p inp G:=⟨h.vl,h.al,V⟩
def FrM.re{B b:Nat}{g g2:Nat->Nat}{ob q:Obs}{X W f e e1 w:Nat}{L b0:List Nat}{G H:Sg}(h:FrM p inp fu gV gA gk B g ob X W f L G e)(t:OkM p inp H)
 (m:∀i,i<B->g2 i=upd g 1023 w i/\q i=pT p inp fu gV gA X W f (g W) w H e1 b0 N i (ob i))(c:B<=b)(hf:∀i,b<=i->q i=N):FrM p inp fu gV gA gk b g2 q X W f b0 H e1:=by
 have U:=h.hB;have J:=h.hX;have Q:=h.hW;have y:=h.ne;have u:=h.sm.a;have n:∀i,i<B->i≠1023->g2 i=g i:=λi v A=>by rw[(m i v).1];exact j8 A
 have bk:g2 1023=w:=by rw[(m 1023 a7).1];exact l8 rfl
 obtain⟨_,_,_,d,_,j,l⟩:=h.rds;refine⟨a7,h.sm,h.fn,a7,a7,y,hf,⟨λi=>?_,?_,?_,?_,λk E=>?_,t.1,t.2.1⟩,?_,?_,t.2.2⟩
 .rw[bk]
  by_cases v:i<B
  .rw[(m i v).2]
   unfold pT;by_cases x:i=W
   .rw[l8 x,qS u (.inl a7)]
   rw[j8 x];by_cases I:i=X
   .rw[l8 I,qS u (.inl a7)]
   rw[j8 I,HV]
  .exact(qS u (.inl a7)).symm
 .rw[n _ a7 a7];exact h.sv.gv
 .rw[n _ a7 a7];exact h.sv.ga
 .rw[(m 1021 a7).2,d];exact h.sv.ar
 .rw[n _ a7 a7];exact h.sv.gk k E
 .rw[(m X a7).2,j,n _ a7 a7]
 .rw[(m W a7).2,l]
def SSM(p:Src.Prog)(X W:Nat):List Nat:=[1024,1023,1022,X,W]++(List.range (z p.arrays)).map (2000 + ·)
def eU(h:FrM p inp fu gV gA gk B g ob X W f L G e):∀i∈SSM p X W,i<B:=λi hi=>by
 have U:=h.hB;have c:=h.hX;have j:=h.hW;have l:=h.sm.a;exact u1
def Wt(h:FrM p inp fu gV gA gk B g ob X W f L G e){i w e':Nat}{ad:Sg}{bd:List Nat}{cells:List C}(hi:i∈SSM p X W)(Z:pT p inp fu gV gA X W f (g W) w ad e' bd r i (ob i)=S cells):∀c∈cells,kQ B c:=by
 have U:=h.hB;have m:=h.hX;have n:=h.hW;have q:=h.sm.a;have j:∀l:List Nat,∀c∈wM l,kQ B c:=λl c Z=>by obtain⟨b,_,rfl⟩:=E3.1 Z;trivial
 intro c E;unfold pT pS at Z;split at Z
 .cases Z;exact j _ c E
 split at Z
 .cases Z
  simp only[frM,A3,A9,E6]at E;rcases E with rfl|rfl|rfl|rfl<;>first|trivial|(show _<B;omega)
 split at Z
 .exact SQ
 split at Z
 .cases Z
  obtain⟨b,_,rfl⟩:=E3.1 E;trivial
 split at Z
 .cases Z;exact j _ c E
 split at Z
 .cases Z;exact j _ c E
 .exfalso
  exact u1
def dv{X W f e w e':Nat}{L bd:List Nat}{G ad:Sg}{R:AV->(Nat->Nat)->Obs->Prop}{j rs:List AV}(h:FrM p inp fu gV gA gk B g ob X W f L G e)
 (c:∀i,i<B->s.gen i=upd g 1023 w i/\s.obj i=pT p inp fu gV gA X W f (g W) w ad e' bd r i (ob i))(hf:dY B s j rs)(q:R (pack rs) (upd g 1023 w) (λi=>pT p inp fu gV gA X W f (g W) w ad e' bd r i (ob i))):bi B (SSM p X W) g ob R s j:=by
 have k:=eU h
 have J:∀i,i∉SSM p X W->pT p inp fu gV gA X W f (g W) w ad e' bd r i (ob i)=ob i/\i≠1023:=λi a=>by
  simp only[SSM,C4,A3,A9,E6,E3,D5,R7]at a;obtain⟨⟨t,m,E,u,v⟩,x⟩:=a;refine⟨?_,m⟩;unfold pT pS;rw[j8 v,j8 u,j8 t,j8 m,j8 E,j8 λH=>x ⟨i-2000,a7,a7⟩]
 have y:je (SSM p X W) g s.gen=upd g 1023 w:=by
  funext i;unfold je;split
  .rename_i a;exact(c i (k i a)).1
  .rename_i a;exact(j8 (J i a).2).symm
 have A:eY (SSM p X W) ob s.obj=λi=>pT p inp fu gV gA X W f (g W) w ad e' bd r i (ob i):=by
  funext i;unfold eY;split
  .rename_i a;exact(c i (k i a)).2
  .rename_i a;exact(J i a).1.symm
 refine⟨⟨λi a n=>?_,λi a l Z=>?_⟩,rs,hf,by rw[y,A];exact q⟩
 .rw[(c i a).1,(c i a).2]
  exact⟨j8 (J i n).2,(J i n).1⟩
 .rw[(c i (k i a)).2]at Z
  exact Wt h a Z
def FrM.same(h:FrM p inp fu gV gA gk B g ob X W f L G e)(i:Nat):g i=upd g 1023 (g 1023) i/\ob i=pT p inp fu gV gA X W f (g W) (g 1023) G e L N i (ob i):=by
 refine⟨?_,?_⟩
 .simp only[upd];split
  .rename_i a;rw[a]
  .rfl
 .unfold pT
  split
  .rename_i a;rw[a];exact h.wds
  split
  .rename_i a;rw[a];exact h.frm
  exact h.sv.fix i
def ez{v:Nat}:dY B s [iv .u32 (v:Nat)] [iv .u32 (v:Nat)]:=⟨_,_,rfl,.one (.d _),rfl⟩
def fG:dY B s [] []:=rfl
def Bw{w e:Nat}(ho:ob 1024=S (rnM p inp fu gV gA w G e))(hf:fu<=1000000000000):
  fX Tryz.prog 179 [.one (.ptr 1024 (g 1024) 0)] g ob (λr g' Y=>r=uv/\g'=g/\Y=upd ob 1024 (S (if G.tk<fu then rnM p inp fu gV gA w ⟨G.vars,G.arrs,G.out,G.rd,G.tk+1⟩ e else rnM p inp fu gV gA w G 5))):=by
 refine hdF 9000 Tryz.func179 rfl [] ?_;unfold rnM at ho;by_cases i:G.tk<fu
 .have j:=ac (k:=G.tk) a7
  have a:¬(fu:Int)<=(G.tk:Int):=a7;rw[l8 i];simp only[go_sem];refine bO c8 ?_;simp only[go_sem,ho,a,j];refine⟨_,ae.refl _,rfl,rfl,?_⟩;rfl
 .have a:(fu:Int)<=(G.tk:Int):=a7
  rw[j8 i];simp only[go_sem];refine bO c8 ?_;simp only[go_sem,ho,a];refine⟨_,ae.refl _,rfl,rfl,?_⟩;rfl
end
section
variable{O:Bs}{rd:Option Nat}{m:St->Am.Loc->List Deferred->World->Prop}{p:Src.Prog}{inp:Str}{fu gV gA:Nat}{gk:Nat->Nat}
def loM{g g':Nat->Nat}{ob Y:Obs}(h:∀i,i<B->g' i=g i/\Y i=ob i:=by (intro i hi;have hk:∀k,(i=B+k)=False:=(λk=>by simp;omega);by_cases hq:i=1023;(subst hq;simp only[upd,hk,B1,A8,zG,and_self]);(simp only[upd,hk,hq,A8,zG,and_self]))):∀i,i<B->g' i=g i/\Y i=ob i:=h
def mD(a6:aY O m){o:Oper}{k:Box K}(ho:o.op=.call ⟨.value (.func 178),args,tys⟩){n f B X W e1 j c:Nat}{L b0:List Nat}{G H:Sg}{x:Ex}(l:HE p inp fu gV gA gk n)(h:FrM p inp fu gV gA gk B g ob X W f L G j)(q:OkM p inp H)(t:Src.szE x<=1000000)(u:e1=0->evE p (ap p) inp fu n f b0 H x≠.no)
 (I:args.toList.map s.ev=[.one (.ptr 1024 (g 1024) 0),.one (.ptr X (g X) 0),exV x]){b:Nat}(a:∀i,i<B->s.gen i=upd g 1023 c i/\s.obj i=pT p inp fu gV gA X W f (g W) c H e1 b0 N i (ob i))(hB:B<=b)(ar:∀i,b<=i->s.obj i=N){y:Nat}{A:ff}
 (E:∀v ad e' w,dW (evE p (ap p) inp fu n f b0 H x) e1 H v ad e'->OkM p inp ad->K (St.put ⟨s.f,upd s.gen 1023 w,λi=>pT p inp fu gV gA X W f (g W) w ad e' b0 N i (s.obj i)⟩ o.dst (iv .u32 (v:Nat)))):bm (spF Tryz.prog rd O m y A) o s k:=by
 have U:=h.hB;have Z:=h.hX;have h3:=h.hW;have e:∀i,i<B->i≠1023->s.gen i=g i:=λi J Q=>by rw[(a i J).1];exact j8 Q
 refine dj a6 ho (by rw[I,<-e 1024 a7 b9,<-e X a7 a7];exact l f b0 H e1 x t u b s.gen s.obj X W (h.re q a hB ar)) ?_;rintro _ _ _ ⟨v,ad,e',w,V,Y,rfl,rfl,rfl⟩;rw[e W a7 a7];exact E v ad e' w V Y
def jB(a6:aY O m){o:Oper}{k:Box K}(ho:o.op=.call ⟨.value (.func 178),args,tys⟩){n f B X W a:Nat}{x:Ex}(t:HE p inp fu gV gA gk n)(h:FrM p inp fu gV gA gk B g ob X W f L G a)(y:Src.szE x<=1000000)(u:a=0->evE p (ap p) inp fu n f L G x≠.no)
 (I:args.toList.map s.ev=[.one (.ptr 1024 (g 1024) 0),.one (.ptr X (g X) 0),exV x]){b:Nat}(j:∀i,i<B->s.gen i=g i/\s.obj i=ob i)(hB:B<=b)(ar:∀i,b<=i->s.obj i=N){A:Nat}{E:ff}
 (H:∀v c l w,dW (evE p (ap p) inp fu n f L G x) a G v c l->OkM p inp c->K (St.put ⟨s.f,upd s.gen 1023 w,λi=>pT p inp fu gV gA X W f (g W) w c l L N i (s.obj i)⟩ o.dst (iv .u32 (v:Nat)))):bm (spF Tryz.prog rd O m A E) o s k:=
 mD a6 ho t h (h.sv.okm h.rd) y u I (λi q=>by rw[(j i q).1,(j i q).2];exact h.same i) hB ar H
def FrM.run(h:FrM p inp fu gV gA gk B g ob X W f L G e):ob 1024=S (rnM p inp fu gV gA (g 1023) G e):=h.sv.fix 1024
def FrM.vrs(h:FrM p inp fu gV gA gk B g ob X W f L G e):ob 1022=S (wM G.vars):=h.sv.fix 1022
end
end
end
end Go.Proofs.YtlacbjnmkhndiaaGreatDoor

/- A part of the proof; no conditions. -/
import Derived.Test.YtlacbjnmkhndiaaGreatDoorPart17
set_option linter.unusedSimpArgs false
set_option linter.unusedVariables false
set_option linter.defProp false
open List renaming length -> z
open Option renaming some -> S, none -> N
open Bool renaming true -> T, false -> F
set_option maxHeartbeats 64000000
set_option maxRecDepth 100000
namespace Go.Proofs.YtlacbjnmkhndiaaGreatDoor
section
open Go Go.Am Go.Asm
open Go.Src (Ex Stm dX)
open Go.Mn (Sg Rs evE dq evS de evW evB aA)
attribute[local congr]ite_cc
section
def wM(L:List Nat):List C:=L.map λx=>.d (.int .u32 (x:Nat))
def bM(s:Str):List C:=s.map λb=>.d (.int .u8 (b.toNat:Nat))
def wx(L:List Nat):z (wM L)=z L:=by simp[wM]
def Kf(s:Str):z (bM s)=z s:=by simp[bM]
def NR{B a:Nat}(h:a<B)(k:Nat):(B+k=a)=False:=by simp;omega
def NS{B a:Nat}(h:a<B)(k:Nat):(a=B+k)=False:=by simp;omega
def nG(k o n:Int)(a:Str)(c:List Ex):exV (.mk k o n a c)=.agg [ag k,ag o,.d (.int .u32 n),bF a,aq (c.map exD)]:=by simp[exV,exD,aV]
def dC(e:Ex):(exD e).take 5=exD e:=s7 (F7 (bq e))
def pG(k:Int)(a:Str)(e:List Ex)(c el:List Stm):smV (.mk k a e c el)=.agg [ag k,bF a,aq (e.map exD),aq (c.map smD),aq (el.map smD)]:=by simp[smV,smD,aV,ez]
def GK(e:Stm):(smD e).take 5=smD e:=s7 (F7 (me e))
section
variable(p:Src.Prog)(inp:Str)(fu gV gA:Nat)(gk:Nat->Nat)
def alM(k:Nat):Nat:=((p.a[k]?).map λa=>a.2.toNat).getD 0
def arM:List C:=(List.range (z p.a)).map λk=>.osl (2000+k) (gk k) 1 0 (alM p k)
def rnM(w:Nat)(G:Sg)(e:Nat):List C:=[aq (p.v.map λs=>[.str s]),aq (p.a.map arD),aq (p.f.map fnD),bF inp,ag (fu:Nat),.osl 1022 gV 1 0 (z p.v),.osl 1021 gA 1 0 (z p.a),.osl 1023 w 1 0 (z G.out),ag (G.rd:Nat),ag (G.tk:Nat),ag (e:Nat)]
def frM(f W c n:Nat)(r:Option Nat):List C:=[ag (f:Nat),.osl W c 1 0 n,bE r.isSome,.d (.int .u32 (r.getD 0:Nat))]
def pS(w:Nat)(G:Sg)(e i:Nat)(o:Option (List C)):Option (List C):=
 if i=1024 then S (rnM p inp fu gV gA w G e)else if i=1023 then S (bM G.out)else if i=1022 then S (wM G.v)else if 2000<=i/\i<2000+z p.a then S (wM ((G.arrs[i-2000]?).getD []))else o
def pT(X W f c w:Nat)(G:Sg)(e:Nat)(L:List Nat)(r:Option Nat)(i:Nat)(o:Option (List C)):Option (List C):=
 if i=W then S (wM L)else if i=X then S (frM f W c (z L) r)else pS p inp fu gV gA w G e i o
structure SvM (g:Nat->Nat) (ob:Obs) (G:Sg) (e:Nat):Prop where
 fix:∀i,ob i=pS p inp fu gV gA (g 1023) G e i (ob i)
 gv:g 1022=gV
 ga:g 1021=gA
 ar:ob 1021=some (arM p gk)
 gk:∀k,k<p.a.length->g (2000+k)=gk k
 vl:G.v.length=p.v.length
 al:G.arrs.length=p.a.length/\∀(k:Nat)(l:List Nat),G.arrs[k]?=some l->l.length=alM p k
structure SmM:Prop where
 v:p.v.length<=1000000
 a:p.a.length<=900
 f:p.f.length<=1000000
 fn:∀fn∈p.f,fn.p.length<=1000000/\fn.l.length<=1000000/\Src.aN fn.body<=1000000
 fu:fu<=1000000000000
 inp:inp.length<=1000000000
 az:∀k,alM p k<=1000000
structure FrM (B:Nat) (g:Nat->Nat) (ob:Obs) (X W f:Nat) (L:List Nat) (G:Sg) (e:Nat):Prop where
 hB:3000<=B
 sm:SmM p inp fu
 fn:∃fn,p.f[f]?=some fn
 hX:3000<=X/\X<B
 hW:3000<=W/\W<B
 ne:X≠W
 free:∀i,B<=i->ob i=none
 sv:SvM p inp fu gV gA gk g ob G e
 frm:ob X=some (frM f W (g W) L.length none)
 wds:ob W=some (wM L)
 rd:G.rd<=inp.length
def eE(r:Rs Nat)(a:Nat)(b:Sg)(v:Nat)(ad:Sg)(e':Nat):Prop:=
 if a=0 then(match r with|.ok v0 H=>v=v0/\ad=H/\e'=0|.en e H=>e≠0/\ad=H/\e'=e|.no=>False)else ad=b/\e'=a
def OkM(G:Sg):Prop:=z G.v=z p.v/\(z G.arrs=z p.a/\∀(k:Nat)(l:List Nat),G.arrs[k]?=S l->z l=alM p k)/\G.rd<=z inp
def RW(X W f:Nat)(L:List Nat)(r:Rs Nat)(h:Nat)(G:Sg)(g:Nat->Nat)(ob:Obs)(x:AV)(g':Nat->Nat)(Y:Obs):Prop:=
 ∃v a c w,eE r h G v a c/\OkM p inp a/\x=iv .u32 (v:Nat)/\g'=upd g 1023 w/\Y=λi=>pT p inp fu gV gA X W f (g W) w a c L N i (ob i)
def HE(n:Nat):Prop:=∀(f:Nat)(L:List Nat)(G:Sg)(a:Nat)(x:Ex),Src.szE x<=1000000->(a=0->evE p (aA p) inp fu n f L G x≠.no)->∀(B:Nat)(g:Nat->Nat)(ob:Obs)(X W:Nat),FrM p inp fu gV gA gk B g ob X W f L G a->
 gY Tryz.prog 178 [aj 1024 (g 1024) 0,aj X (g X) 0,exV x] g ob (RW p inp fu gV gA X W f L (evE p (aA p) inp fu n f L G x) a G g ob)
def eT(r:Rs (List Nat×Option Nat))(a:Nat)(b:Sg)(d bd:List Nat)(q:Option Nat)(ad:Sg)(e':Nat):Prop:=
 if a=0 then(match r with|.ok x H=>bd=x.1/\q=x.2/\ad=H/\e'=0|.en e H=>e≠0/\ad=H/\e'=e|.no=>False)else ad=b/\e'=a/\bd=d/\q=N
def RunT(X W f:Nat)(L:List Nat)(r:Rs (List Nat×Option Nat))(j:Nat)(G:Sg)(g:Nat->Nat)(ob:Obs)(x:AV)(g':Nat->Nat)(Y:Obs):Prop:=
 ∃c q a h w,eT r j G L c q a h/\OkM p inp a/\x=uv/\g'=upd g 1023 w/\Y=λi=>pT p inp fu gV gA X W f (g W) w a h c q i (ob i)
end
variable{g:Nat->Nat}{ob:Obs}{B:Nat}{G:Sg}{L:List Nat}{X W f e:Nat}{s:St}{o:Option (List C)}{d:List Nat}{b:Sg}{r:Option Nat}{K:St->Prop}{args:Array Operand}{tys:Array TypeId}
section
variable{p:Src.Prog}{inp:Str}{fu gV gA:Nat}{gk:Nat->Nat}
def Kg{w y e e' i:Nat}{G ad:Sg}:pS p inp fu gV gA w G e i (pS p inp fu gV gA y ad e' i o)=pS p inp fu gV gA w G e i o:=by
 unfold pS;split
 .rfl
 split
 .rfl
 split
 .rfl
 split<;>rfl
def Bu{X W f c w y e e' i:Nat}{G ad:Sg}{L bd:List Nat}{r q:Option Nat}:pT p inp fu gV gA X W f c w G e L r i (pT p inp fu gV gA X W f c y ad e' bd q i o)=pT p inp fu gV gA X W f c w G e L r i o:=by
 unfold pT;split
 .rfl
 split
 .rfl
 exact Kg
def se{w e i:Nat}(c:z p.a<=900)(h:3000<=i\/i=1021):pS p inp fu gV gA w G e i o=o:=by
 unfold pS;rw[j9 a7,j9 a7,j9 a7,j9 a7]
def FrM.rds{X W f i:Nat}(h:FrM p inp fu gV gA gk B g ob X W f d b i):
  (∀w G e L r o,pT p inp fu gV gA X W f (g W) w G e L r 1024 o=S (rnM p inp fu gV gA w G e))/\(∀w G e L r o,pT p inp fu gV gA X W f (g W) w G e L r 1023 o=S (bM G.out))/\(∀w G e L r o,pT p inp fu gV gA X W f (g W) w G e L r 1022 o=S (wM G.v))/\
  (∀w G e L r o,pT p inp fu gV gA X W f (g W) w G e L r 1021 o=o)/\(∀w G e L r k o,pT p inp fu gV gA X W f (g W) w G e L r (B+k) o=o)/\(∀w G e L r o,pT p inp fu gV gA X W f (g W) w G e L r X o=S (frM f W (g W) (z L) r))/\(∀w G e L r o,pT p inp fu gV gA X W f (g W) w G e L r W o=S (wM L)):=by
 have U:=h.hB;have l:=h.hX;have m:=h.hW;have j:=h.ne;have c:=h.sm.a;refine⟨λ_ _ _ _ _ _=>?_,λ_ _ _ _ _ _=>?_,λ_ _ _ _ _ _=>?_,λ_ _ _ _ _ _=>?_,λ_ _ _ _ _ k _=>?_,λ_ _ _ _ _ _=>?_,λ_ _ _ _ _ _=>l9 rfl⟩<;>unfold pT
 .rw[j9 a7,j9 a7];rfl
 .rw[j9 a7,j9 a7];rfl
 .rw[j9 a7,j9 a7];rfl
 .rw[j9 a7,j9 a7];exact se c (.inr rfl)
 .rw[j9 a7,j9 a7];exact se c (.inl a7)
 .rw[j9 j,l9 rfl]
def FrM.hi{X W f j:Nat}(h:FrM p inp fu gV gA gk B g ob X W f d b j){c w e i:Nat}(l:B<=i):pT p inp fu gV gA X W f c w G e L r i o=o:=by
 have U:=h.hB;have m:=h.hX;have n:=h.hW;have k:=h.sm.a;unfold pT;rw[j9 a7,j9 a7];exact se k (.inl a7)
def FrM.nes{X W f a:Nat}(h:FrM p inp fu gV gA gk B g ob X W f d b a):
  ((∀k,(B+k=1024)=False)/\(∀k,(1024=B+k)=False)/\(∀k,(B+k=1023)=False)/\(∀k,(1023=B+k)=False)/\(∀k,(B+k=1022)=False)/\(∀k,(1022=B+k)=False)/\(∀k,(B+k=1021)=False)/\(∀k,(1021=B+k)=False)/\(∀k,(B+k=X)=False)/\(∀k,(X=B+k)=False)/\(∀k,(B+k=W)=False)/\(∀k,(W=B+k)=False))/\
  ((X=1024)=False/\(X=1023)=False/\(X=1022)=False/\(W=1024)=False/\(W=1023)=False/\(W=1022)=False/\(1024=X)=False/\(1023=X)=False/\(1022=X)=False/\(1024=W)=False/\(1023=W)=False/\(1022=W)=False/\(X=W)=False/\(W=X)=False):=by
 have U:=h.hB;have c:=h.hX;have i:=h.hW;have j:=h.ne;refine⟨⟨?_,?_,?_,?_,?_,?_,?_,?_,?_,?_,?_,?_⟩,⟨?_,?_,?_,?_,?_,?_,?_,?_,?_,?_,?_,?_,?_,?_⟩⟩<;>first|(intro k;simp;omega)|(simp;omega)
def SvM.okm{e:Nat}(h:SvM p inp fu gV gA gk g ob G e)(V:G.rd<=z inp):OkM p inp G:=⟨h.vl,h.al,V⟩
def FrM.re{B b:Nat}{g g2:Nat->Nat}{ob q:Obs}{X W f e e1 w:Nat}{L bs:List Nat}{G H:Sg}(h:FrM p inp fu gV gA gk B g ob X W f L G e)(t:OkM p inp H)
 (m:∀i,i<B->g2 i=upd g 1023 w i/\q i=pT p inp fu gV gA X W f (g W) w H e1 bs N i (ob i))(c:B<=b)(hf:∀i,b<=i->q i=N):FrM p inp fu gV gA gk b g2 q X W f bs H e1:=by
 have U:=h.hB;have Q:=h.hX;have V:=h.hW;have y:=h.ne;have u:=h.sm.a;have n:∀i,i<B->i≠1023->g2 i=g i:=λi v A=>by rw[(m i v).1];exact j9 A
 have E:g2 1023=w:=by rw[(m 1023 a7).1];exact l9 rfl
 obtain⟨_,_,_,d,_,j,l⟩:=h.rds;refine⟨a7,h.sm,h.fn,a7,a7,y,hf,⟨λi=>?_,?_,?_,?_,λk J=>?_,t.1,t.2.1⟩,?_,?_,t.2.2⟩
 .rw[E]
  by_cases v:i<B
  .rw[(m i v).2]
   unfold pT;by_cases x:i=W
   .rw[l9 x,se u (.inl a7)]
   rw[j9 x];by_cases I:i=X
   .rw[l9 I,se u (.inl a7)]
   rw[j9 I,Kg]
  .exact(se u (.inl a7)).symm
 .rw[n _ a7 a7];exact h.sv.gv
 .rw[n _ a7 a7];exact h.sv.ga
 .rw[(m 1021 a7).2,d];exact h.sv.ar
 .rw[n _ a7 a7];exact h.sv.gk k J
 .rw[(m X a7).2,j,n _ a7 a7]
 .rw[(m W a7).2,l]
def SSM(p:Src.Prog)(X W:Nat):List Nat:=[1024,1023,1022,X,W]++(List.range (z p.a)).map (2000 + ·)
def fJ(h:FrM p inp fu gV gA gk B g ob X W f L G e):∀i∈SSM p X W,i<B:=λi hi=>by
 have U:=h.hB;have c:=h.hX;have j:=h.hW;have l:=h.sm.a;exact tp
def Zr(h:FrM p inp fu gV gA gk B g ob X W f L G e){i w e':Nat}{ad:Sg}{bd:List Nat}{cells:List C}(hi:i∈SSM p X W)(Z:pT p inp fu gV gA X W f (g W) w ad e' bd r i (ob i)=S cells):∀c∈cells,lV B c:=by
 have U:=h.hB;have m:=h.hX;have n:=h.hW;have q:=h.sm.a;have j:∀l:List Nat,∀c∈wM l,lV B c:=λl c Z=>by obtain⟨b,_,rfl⟩:=D6.1 Z;trivial
 intro c E;unfold pT pS at Z;split at Z
 .cases Z;exact j _ c E
 split at Z
 .cases Z
  simp only[frM,A0,B3,F2]at E;rcases E with rfl|rfl|rfl|rfl<;>first|trivial|(show _<B;omega)
 split at Z
 .exact Vx
 split at Z
 .cases Z
  obtain⟨b,_,rfl⟩:=D6.1 E;trivial
 split at Z
 .cases Z;exact j _ c E
 split at Z
 .cases Z;exact j _ c E
 .exfalso
  exact tp
def dY{X W f e w e':Nat}{L bd:List Nat}{G ad:Sg}{R:AV->(Nat->Nat)->Obs->Prop}{j rs:List AV}(h:FrM p inp fu gV gA gk B g ob X W f L G e)
 (c:∀i,i<B->s.gen i=upd g 1023 w i/\s.obj i=pT p inp fu gV gA X W f (g W) w ad e' bd r i (ob i))(hf:eH B s j rs)(q:R (pack rs) (upd g 1023 w) (λi=>pT p inp fu gV gA X W f (g W) w ad e' bd r i (ob i))):bB B (SSM p X W) g ob R s j:=by
 have k:=fJ h
 have J:∀i,i∉SSM p X W->pT p inp fu gV gA X W f (g W) w ad e' bd r i (ob i)=ob i/\i≠1023:=λi a=>by
  simp only[SSM,C1,A0,B3,F2,D6,D4,Q2]at a;obtain⟨⟨t,m,u,v,x⟩,y⟩:=a;refine⟨?_,m⟩;unfold pT pS;rw[j9 x,j9 v,j9 t,j9 m,j9 u,j9 λH=>y ⟨i-2000,a7,a7⟩]
 have A:jP (SSM p X W) g s.gen=upd g 1023 w:=by
  funext i;unfold jP;split
  .rename_i a;exact(c i (k i a)).1
  .rename_i a;exact(j9 (J i a).2).symm
 have E:fN (SSM p X W) ob s.obj=λi=>pT p inp fu gV gA X W f (g W) w ad e' bd r i (ob i):=by
  funext i;unfold fN;split
  .rename_i a;exact(c i (k i a)).2
  .rename_i a;exact(J i a).1.symm
 refine⟨⟨λi a n=>?_,λi a l Z=>?_⟩,rs,hf,by rw[A,E];exact q⟩
 .rw[(c i a).1,(c i a).2]
  exact⟨j9 (J i n).2,(J i n).1⟩
 .rw[(c i (k i a)).2]at Z
  exact Zr h a Z
def FrM.same(h:FrM p inp fu gV gA gk B g ob X W f L G e)(i:Nat):g i=upd g 1023 (g 1023) i/\ob i=pT p inp fu gV gA X W f (g W) (g 1023) G e L N i (ob i):=by
 refine⟨?_,?_⟩
 .simp only[upd];split
  .rename_i a;rw[a]
  .rfl
 .unfold pT
  split
  .rename_i a;rw[a];exact h.wds
  split
  .rename_i a;rw[a];exact h.frm
  exact h.sv.fix i
def eY{v:Nat}:eH B s [iv .u32 (v:Nat)] [iv .u32 (v:Nat)]:=⟨_,_,rfl,.one (.d _),rfl⟩
def gK:eH B s [] []:=rfl
def Ds{w e:Nat}(ho:ob 1024=S (rnM p inp fu gV gA w G e))(hf:fu<=1000000000000):
  gY Tryz.prog 179 [aj 1024 (g 1024) 0] g ob (λr g' Y=>r=uv/\g'=g/\Y=upd ob 1024 (S (if G.tk<fu then rnM p inp fu gV gA w ⟨G.v,G.arrs,G.out,G.rd,G.tk+1⟩ e else rnM p inp fu gV gA w G 5))):=by
 refine hdF 9000 Tryz.func179 rfl [] ?_;unfold rnM at ho;by_cases i:G.tk<fu
 .have j:=ah (k:=G.tk) a7
  have a:¬(fu:Int)<=(G.tk:Int):=a7;rw[l9 i];simp only[go_sem];refine cp c9 ?_;simp only[go_sem,ho,a,j];refine⟨_,ai.refl _,rfl,rfl,?_⟩;rfl
 .have a:(fu:Int)<=(G.tk:Int):=a7
  rw[j9 i];simp only[go_sem];refine cp c9 ?_;simp only[go_sem,ho,a];refine⟨_,ai.refl _,rfl,rfl,?_⟩;rfl
end
section
variable{O:Bs}{rd:Option Nat}{m:St->Am.Loc->List Deferred->World->Prop}{p:Src.Prog}{inp:Str}{fu gV gA:Nat}{gk:Nat->Nat}
def loM{g g':Nat->Nat}{ob Y:Obs}(h:∀i,i<B->g' i=g i/\Y i=ob i:=by (intro i hi;have hk:∀k,(i=B+k)=False:=(λk=>by simp;omega);by_cases hq:i=1023;(subst hq;simp only[upd,hk,B5,B1,Bu,and_self]);(simp only[upd,hk,hq,B1,Bu,and_self]))):∀i,i<B->g' i=g i/\Y i=ob i:=h
def nH(a6:bp O m){o:Oper}{k:Box K}(ho:o.op=.call ⟨.value (.func 178),args,tys⟩){n f B X W e1 j c:Nat}{L bs:List Nat}{G H:Sg}{x:Ex}(l:HE p inp fu gV gA gk n)(h:FrM p inp fu gV gA gk B g ob X W f L G j)(q:OkM p inp H)(t:Src.szE x<=1000000)(u:e1=0->evE p (aA p) inp fu n f bs H x≠.no)
 (I:args.toList.map s.ev=[aj 1024 (g 1024) 0,aj X (g X) 0,exV x]){b:Nat}(a:∀i,i<B->s.gen i=upd g 1023 c i/\s.obj i=pT p inp fu gV gA X W f (g W) c H e1 bs N i (ob i))(hB:B<=b)(ar:∀i,b<=i->s.obj i=N){y:Nat}{A:fT}
 (E:∀v ad e' w,eE (evE p (aA p) inp fu n f bs H x) e1 H v ad e'->OkM p inp ad->K (St.put ⟨s.f,upd s.gen 1023 w,λi=>pT p inp fu gV gA X W f (g W) w ad e' bs N i (s.obj i)⟩ o.dst (iv .u32 (v:Nat)))):bC (spF Tryz.prog rd O m y A) o s k:=by
 have U:=h.hB;have Z:=h.hX;have h3:=h.hW;have e:∀i,i<B->i≠1023->s.gen i=g i:=λi J Q=>by rw[(a i J).1];exact j9 Q
 refine dA a6 ho (by rw[I,<-e 1024 a7 b9,<-e X a7 a7];exact l f bs H e1 x t u b s.gen s.obj X W (h.re q a hB ar)) ?_;rintro _ _ _ ⟨v,ad,e',w,V,Y,rfl,rfl,rfl⟩;rw[e W a7 a7];exact E v ad e' w V Y
def kr(a6:bp O m){o:Oper}{k:Box K}(ho:o.op=.call ⟨.value (.func 178),args,tys⟩){n f B X W a:Nat}{x:Ex}(t:HE p inp fu gV gA gk n)(h:FrM p inp fu gV gA gk B g ob X W f L G a)(y:Src.szE x<=1000000)(u:a=0->evE p (aA p) inp fu n f L G x≠.no)
 (I:args.toList.map s.ev=[aj 1024 (g 1024) 0,aj X (g X) 0,exV x]){b:Nat}(j:∀i,i<B->s.gen i=g i/\s.obj i=ob i)(hB:B<=b)(ar:∀i,b<=i->s.obj i=N){A:Nat}{E:fT}
 (H:∀v c l w,eE (evE p (aA p) inp fu n f L G x) a G v c l->OkM p inp c->K (St.put ⟨s.f,upd s.gen 1023 w,λi=>pT p inp fu gV gA X W f (g W) w c l L N i (s.obj i)⟩ o.dst (iv .u32 (v:Nat)))):bC (spF Tryz.prog rd O m A E) o s k:=
 nH a6 ho t h (h.sv.okm h.rd) y u I (λi q=>by rw[(j i q).1,(j i q).2];exact h.same i) hB ar H
def FrM.run(h:FrM p inp fu gV gA gk B g ob X W f L G e):ob 1024=S (rnM p inp fu gV gA (g 1023) G e):=h.sv.fix 1024
def FrM.vrs(h:FrM p inp fu gV gA gk B g ob X W f L G e):ob 1022=S (wM G.v):=h.sv.fix 1022
end
end
end
end Go.Proofs.YtlacbjnmkhndiaaGreatDoor

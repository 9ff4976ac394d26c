/- A part; no conditions. -/
import Derived.Test.YtfdbpgoicedpcaaGreatDoorPart15
set_option linter.all false
open List renaming length -> z
open Option renaming some -> S, none -> N
open Bool renaming true -> T, false -> F
set_option maxHeartbeats 64000000
set_option maxRecDepth 100000
namespace Go.Proofs.YtfdbpgoicedpcaaGreatDoor
open Go Go.Am Go.Asm
open Go.Src (Ex Stm fg)
open Go.Mn (Sg Rs evE fc evS eM evW evB aG)
attribute[local congr]ite_cc
def wM(L:List Nat):List C:=L.map λx=>.d (.int .u32 (x:Nat))
def bM(s:Str):List C:=s.map λb=>.d (.int .u8 (b.toNat:Nat))
def zy L:z (wM L)=z L:=by simp[wM]
def OR s:z (bM s)=z s:=by simp[bM]
def TM{B a}(h:a<B)(k:Nat):(B+k=a)=False:=by grind
def TN{B a}(h:a<B)(k:Nat):(a=B+k)=False:=by grind
def qt k o n a c:exV (.mk k o n a c)=.agg [ag k,ag o,.d (.int .u32 n),bW a,aw (c.map exD)]:=by simp[exV,exD,aL]
def eG e:(exD e).take 5=exD e:=s6 (E7 (aY e))
def rP k a e c el:smV (.mk k a e c el)=.agg [ag k,bW a,aw (e.map exD),aw (c.map smD),aw (el.map smD)]:=by simp[smV,smD,aL,dy]
def Lf e:(smD e).take 5=smD e:=s6 (E7 (kW e))
section
variable(p:Src.Prog)(inp:Str)(fu gV gA:Nat)(gk:Nat->Nat)
def alM(k:Nat):Nat:=((p.a[k]?).map λa=>a.2.toNat).getD 0
def arM:List C:=(List.range (z p.a)).map λk=>.osl (2000+k) (gk k) 1 0 (alM p k)
def rnM(w:Nat)(G:Sg)(e:Nat):List C:=[aw (p.v.map λs=>[.str s]),aw (p.a.map arD),aw (p.f.map fnD),bW inp,ag (fu:Nat),.osl 1022 gV 1 0 (z p.v),.osl 1021 gA 1 0 (z p.a),.osl 1023 w 1 0 (z G.out),ag (G.rd:Nat),ag (G.tk:Nat),ag (e:Nat)]
def frM(f W c n:Nat)(r:Option Nat):List C:=[ag (f:Nat),.osl W c 1 0 n,bO r.isSome,.d (.int .u32 (r.getD 0:Nat))]
def pS(w:Nat)(G:Sg)(e i:Nat)(o:Option (List C)):Option (List C):=if i=1024 then S (rnM p inp fu gV gA w G e)else if i=1023 then S (bM G.out)else if i=1022 then S (wM G.v)else if 2000<=i/\i<2000+z p.a then S (wM ((G.arrs[i-2000]?).getD []))else o
def pT(X W f c w:Nat)(G:Sg)(e:Nat)(L:List Nat)(r:Option Nat)(i:Nat)(o:Option (List C)):Option (List C):=if i=W then S (wM L)else if i=X then S (frM f W c (z L) r)else pS p inp fu gV gA w G e i o
structure SvM (g:Nat->Nat) (ob:Obs) (G:Sg) (e:Nat):Prop where
 fix:∀i,ob i=pS p inp fu gV gA (g 1023) G e i (ob i)gv:g 1022=gV
 ga:g 1021=gA
 ar:ob 1021=some (arM p gk)gk:∀k,k<p.a.length->g (2000+k)=gk k
 vl:G.v.length=p.v.length
 al:G.arrs.length=p.a.length/\∀(k:Nat)(l:List Nat),G.arrs[k]?=some l->l.length=alM p k
structure SmM:Prop where
 v:p.v.length<=1000000
 a:p.a.length<=900
 f:p.f.length<=1000000
 fn:∀fn∈p.f,fn.p.length<=1000000/\fn.l.length<=1000000/\Src.aI fn.body<=1000000
 fu:fu<=1000000000000
 inp:inp.length<=1000000000
 az:∀k,alM p k<=1000000
structure FrM (B:Nat) (g:Nat->Nat) (ob:Obs) (X W f:Nat) (L:List Nat) (G:Sg) (e:Nat):Prop where
 hB:3000<=B
 sm:SmM p inp fu
 fn:∃fn,p.f[f]?=some fn
 hX:3000<=X/\X<B
 hW:3000<=W/\W<B
 ne:X≠W
 free:∀i,B<=i->ob i=none
 sv:SvM p inp fu gV gA gk g ob G e
 frm:ob X=some (frM f W (g W) L.length none)wds:ob W=some (wM L)rd:G.rd<=inp.length
def fP(r:Rs Nat)(a:Nat)(b:Sg)(v:Nat)(ad:Sg)(e':Nat):Prop:=if a=0 then(match r with|.ok v0 H=>v=v0/\ad=H/\e'=0|.en e H=>e≠0/\ad=H/\e'=e|.no=>False)else ad=b/\e'=a
def OkM(G:Sg):Prop:=z G.v=z p.v/\(z G.arrs=z p.a/\∀(k:Nat)(l:List Nat),G.arrs[k]?=S l->z l=alM p k)/\G.rd<=z inp
def Ya(X W f:Nat)(L:List Nat)(r:Rs Nat)(h:Nat)(G:Sg)(g:Nat->Nat)(ob:Obs)(x:AV)(g':Nat->Nat)(Y:Obs):Prop:=∃v a c w,fP r h G v a c/\OkM p inp a/\x=iv .u32 (v:Nat)/\g'=upd g 1023 w/\Y=λi=>pT p inp fu gV gA X W f (g W) w a c L N i (ob i)
def HE(n:Nat):Prop:=∀(f:Nat)(L:List Nat)(G:Sg)(a:Nat)(x:Ex),Src.szE x<=1000000->(a=0->evE p (aG p) inp fu n f L G x≠.no)->∀(B:Nat)(g:Nat->Nat)(ob:Obs)(X W:Nat),FrM p inp fu gV gA gk B g ob X W f L G a->iK Tryz.prog 200 [aj 1024 (g 1024) 0,aj X (g X) 0,exV x] g ob (Ya p inp fu gV gA X W f L (evE p (aG p) inp fu n f L G x) a G g ob)
def gy(r:Rs (List Nat×Option Nat))(a:Nat)(b:Sg)(d bd:List Nat)(q:Option Nat)(ad:Sg)(e':Nat):Prop:=if a=0 then(match r with|.ok x H=>bd=x.1/\q=x.2/\ad=H/\e'=0|.en e H=>e≠0/\ad=H/\e'=e|.no=>False)else ad=b/\e'=a/\bd=d/\q=N
def RunT(X W f:Nat)(L:List Nat)(r:Rs (List Nat×Option Nat))(j:Nat)(G:Sg)(g:Nat->Nat)(ob:Obs)(x:AV)(g':Nat->Nat)(Y:Obs):Prop:=∃c q a h w,gy r j G L c q a h/\OkM p inp a/\x=uv/\g'=upd g 1023 w/\Y=λi=>pT p inp fu gV gA X W f (g W) w a h c q i (ob i)
end
variable{g:Nat->Nat}{ob:Obs}{B:Nat}{G:Sg}{L:List Nat}{X W f e:Nat}{s:St}{o:Option (List C)}{d:List Nat}{b:Sg}{r:Option Nat}{K:St->Prop}{args:Array Operand}{tys:Array TypeId}
section
variable{p:Src.Prog}{inp:Str}{fu gV gA:Nat}{gk:Nat->Nat}
def OS{w y e e' i}{G ad}:pS p inp fu gV gA w G e i (pS p inp fu gV gA y ad e' i o)=pS p inp fu gV gA w G e i o:=by unfold pS;grind
def Fb{X W f c w y e e' i}{G ad}{L bd}{r q}:pT p inp fu gV gA X W f c w G e L r i (pT p inp fu gV gA X W f c y ad e' bd q i o)=pT p inp fu gV gA X W f c w G e L r i o:=by simp_all[pT,OS]
def xt{w e i}(c:z p.a<=900)(h:3000<=i\/i=1021):pS p inp fu gV gA w G e i o=o:=by unfold pS;grind
def FrM.rds{X W f c}(h:FrM p inp fu gV gA gk B g ob X W f d b c):(∀w G e L r o,pT p inp fu gV gA X W f (g W) w G e L r 1024 o=S (rnM p inp fu gV gA w G e))/\(∀w G e L r o,pT p inp fu gV gA X W f (g W) w G e L r 1023 o=S (bM G.out))/\(∀w G e L r o,pT p inp fu gV gA X W f (g W) w G e L r 1022 o=S (wM G.v))/\(∀w G e L r o,pT p inp fu gV gA X W f (g W) w G e L r 1021 o=o)/\(∀w G e L r k o,pT p inp fu gV gA X W f (g W) w G e L r (B+k) o=o)/\(∀w G e L r o,pT p inp fu gV gA X W f (g W) w G e L r X o=S (frM f W (g W) (z L) r))/\(∀w G e L r o,pT p inp fu gV gA X W f (g W) w G e L r W o=S (wM L)):=by
 have U:=h.hB;have Z:=h.hX;have j:=h.hW;have l:=h.ne;refine⟨λ_ _ _ _ _ _=>?_,λ_ _ _ _ _ _=>?_,λ_ _ _ _ _ _=>?_,λ_ _ _ _ _ _=>?_,λ_ _ _ _ _ k _=>?_,λ_ _ _ _ _ _=>?_,λ_ _ _ _ _ _=>s5 rfl⟩<;>unfold pT;.rw[l4 a7,l4 a7];rfl
 .rw[l4 a7,l4 a7];rfl
 .rw[l4 a7,l4 a7];rfl
 .rw[l4 a7,l4 a7];rfl
 .rw[l4 a7,l4 a7];exact xt h.sm.a (.inl a7)
 grind
def FrM.hi{X W f j}(h:FrM p inp fu gV gA gk B g ob X W f d b j){c w e i}(l:B<=i):pT p inp fu gV gA X W f c w G e L r i o=o:=by have U:=h.hB;have Z:=h.hX;have m:=h.hW;unfold pT;rw[l4 a7,l4 a7];exact xt h.sm.a (.inl a7)
def FrM.nes{X W f a}(h:FrM p inp fu gV gA gk B g ob X W f d b a):((∀k,(B+k=1024)=False)/\(∀k,(1024=B+k)=False)/\(∀k,(B+k=1023)=False)/\(∀k,(1023=B+k)=False)/\(∀k,(B+k=1022)=False)/\(∀k,(1022=B+k)=False)/\(∀k,(B+k=1021)=False)/\(∀k,(1021=B+k)=False)/\(∀k,(B+k=X)=False)/\(∀k,(X=B+k)=False)/\(∀k,(B+k=W)=False)/\(∀k,(W=B+k)=False))/\((X=1024)=False/\(X=1023)=False/\(X=1022)=False/\(W=1024)=False/\(W=1023)=False/\(W=1022)=False/\(1024=X)=False/\(1023=X)=False/\(1022=X)=False/\(1024=W)=False/\(1023=W)=False/\(1022=W)=False/\(X=W)=False/\(W=X)=False):=by have U:=h.hB;have Z:=h.hX;have c:=h.hW;have i:=h.ne;refine⟨⟨?_,?_,?_,?_,?_,?_,?_,?_,?_,?_,?_,?_⟩,⟨?_,?_,?_,?_,?_,?_,?_,?_,?_,?_,?_,?_,?_,?_⟩⟩<;>first|(intro k;simp;omega)|(simp;omega)
def SvM.okm{e}(h:SvM p inp fu gV gA gk g ob G e)(V:G.rd<=z inp):OkM p inp G:=⟨h.vl,h.al,V⟩
def FrM.re{B b}{g g2}{ob n}{X W f e e1 w}{L E}{G H}(h:FrM p inp fu gV gA gk B g ob X W f L G e)(an:OkM p inp H)(m:∀i,i<B->g2 i=upd g 1023 w i/\n i=pT p inp fu gV gA X W f (g W) w H e1 E N i (ob i))(c:B<=b)(x:∀i,b<=i->n i=N):FrM p inp fu gV gA gk b g2 n X W f E H e1:=by
 have U:=h.hB;have Z:=h.hX;have V:=h.hW;have q:=h.sm.a;have t:∀i,i<B->i≠1023->g2 i=g i:=λi u A=>by rw[(m i u).1];exact l4 A
 have J:g2 1023=w:=by rw[(m 1023 a7).1];exact s5 rfl
 obtain⟨_,_,_,d,_,j,l⟩:=h.rds;refine⟨a7,h.sm,h.fn,a7,a7,h.ne,x,⟨λi=>?_,?_,?_,?_,λk Q=>?_,an.1,an.2.1⟩,?_,?_,an.2.2⟩
 .rw[J];by_cases u:i<B
  .rw[(m i u).2];unfold pT;by_cases v:i=W;.rw[s5 v,xt q (.inl a7)]
   rw[l4 v];by_cases I:i=X;.rw[s5 I,xt q (.inl a7)]
   rw[l4 I,OS]
  .exact(xt q (.inl a7)).symm
 .rw[t _ a7 a7];exact h.sv.gv
 .rw[t _ a7 a7];exact h.sv.ga
 .rw[(m 1021 a7).2,d];exact h.sv.ar
 .rw[t _ a7 a7];exact h.sv.gk k Q
 .grind
 grind
def SSM(p:Src.Prog)(X W:Nat):List Nat:=[1024,1023,1022,X,W]++(List.range (z p.a)).map (2000 + ·)
def iD(h:FrM p inp fu gV gA gk B g ob X W f L G e):∀i∈SSM p X W,i<B:=λi hi=>by have U:=h.hB;have Z:=h.hX;have c:=h.hW;have j:=h.sm.a;exact Zz
def aft(h:FrM p inp fu gV gA gk B g ob X W f L G e){i w e'}{ad}{bd}{cells}(hi:i∈SSM p X W)(hc:pT p inp fu gV gA X W f (g W) w ad e' bd r i (ob i)=S cells):∀c∈cells,og B c:=by
 have U:=h.hB;have Z:=h.hX;have j:=h.hW;have m:=h.sm.a;have n:∀l:List Nat,∀c∈wM l,og B c:=λl c hc=>by obtain⟨b,_,rfl⟩:=E6.1 hc;trivial
 intro c k;unfold pT pS at hc;split at hc;.grind
 split at hc;.cases hc;simp[frM]at k;rcases k with rfl|rfl|rfl|rfl<;>first|trivial|(show _<B;omega)
 split at hc;.exact Bc
 split at hc;.cases hc;obtain⟨b,_,rfl⟩:=E6.1 k;trivial
 split at hc;.grind
 split at hc;.grind
 .exfalso;exact Zz
def fh{X W f e w e'}{L bd}{G ad}{R}{j rs}(h:FrM p inp fu gV gA gk B g ob X W f L G e)(c:∀i,i<B->s.gen i=upd g 1023 w i/\s.obj i=pT p inp fu gV gA X W f (g W) w ad e' bd r i (ob i))(q:fT B s j rs)(E:R (pack rs) (upd g 1023 w) (λi=>pT p inp fu gV gA X W f (g W) w ad e' bd r i (ob i))):bS B (SSM p X W) g ob R s j:=by
 have t:=iD h;have J:∀i,i∉SSM p X W->pT p inp fu gV gA X W f (g W) w ad e' bd r i (ob i)=ob i/\i≠1023:=λi a=>by simp only[SSM,C6,A0,A9,D8,E6,E0,U8]at a;obtain⟨⟨u,l,v,x,y⟩,A⟩:=a;refine⟨?_,l⟩;unfold pT pS;rw[l4 y,l4 x,l4 u,l4 l,l4 v,l4 λH=>A ⟨i-2000,a7,a7⟩]
 have I:kS (SSM p X W) g s.gen=upd g 1023 w:=by
  funext i;unfold kS;split;.grind
  .rename_i a;exact(l4 (J i a).2).symm
 have Q:iA (SSM p X W) ob s.obj=λi=>pT p inp fu gV gA X W f (g W) w ad e' bd r i (ob i):=by
  funext i;unfold iA;split;.grind
  .grind
 refine⟨⟨λi a m=>?_,λi a k n=>?_⟩,rs,q,by grind⟩;.rw[(c i a).1,(c i a).2];exact⟨l4 (J i m).2,(J i m).1⟩
 .rw[(c i (t i a)).2]at n;exact aft h a n
def FrM.same(h:FrM p inp fu gV gA gk B g ob X W f L G e) i:g i=upd g 1023 (g 1023) i/\ob i=pT p inp fu gV gA X W f (g W) (g 1023) G e L N i (ob i):=by
 refine⟨?_,?_⟩;.exact Zg
 .unfold pT;split;.grind[h.wds]
  split;.grind[h.frm]
  exact h.sv.fix i
def gL{v}:fT B s [iv .u32 (v:Nat)] [iv .u32 v]:=⟨_,_,rfl,.one (.d _),rfl⟩
def jg:fT B s [] []:=rfl
def HC{w e}(ho:ob 1024=S (rnM p inp fu gV gA w G e))(hf:fu<=1000000000000):iK Tryz.prog 201 [aj 1024 (g 1024) 0] g ob (λr g' Y=>r=uv/\g'=g/\Y=upd ob 1024 (S (if G.tk<fu then rnM p inp fu gV gA w ⟨G.v,G.arrs,G.out,G.rd,G.tk+1⟩ e else rnM p inp fu gV gA w G 5))):=by
 refine hdF 9000 Tryz.func201 rfl [] ?_;unfold rnM at ho;by_cases i:G.tk<fu;.have a:¬(fu:Int)<=(G.tk:Int):=a7;rw[s5 i];simp[go_sem];refine cJ c9 ?_;simp only[go_sem,ho,a,ah (k:=G.tk) a7];refine⟨_,ai.refl _,rfl,rfl,?_⟩;rfl
 .have a:(fu:Int)<=(G.tk:Int):=a7;rw[l4 i];simp[go_sem];refine cJ c9 ?_;simp only[go_sem,ho,a];refine⟨_,ai.refl _,rfl,rfl,?_⟩;rfl
end
variable{O:Bs}{rd:Option Nat}{m:St->Am.Loc->List Deferred->World->Prop}{p:Src.Prog}{inp:Str}{fu gV gA:Nat}{gk:Nat->Nat}
def loM{g g':Nat->Nat}{ob Y:Obs}(h:∀i,i<B->g' i=g i/\Y i=ob i:=by (intro i hi;have hk:∀k,(i=B+k)=False:=(λk=>by simp;omega);by_cases hq:i=1023;(subst hq;simp only[upd,hk,B3,B1,Fb,and_self]);(simp only[upd,hk,hq,B1,Fb,and_self]))):∀i,i<B->g' i=g i/\Y i=ob i:=h
def qu(a6:bA O m){o}{k:Box K}(ho:o.op=.call ⟨.value (.func 200),args,tys⟩){n f B X W e1 j c}{L E}{G H}{x}(l:HE p inp fu gV gA gk n)(h:FrM p inp fu gV gA gk B g ob X W f L G j)(an:OkM p inp H)(q:Src.szE x<=1000000)(u:e1=0->evE p (aG p) inp fu n f E H x≠.no)(I:args.toList.map s.ev=[aj 1024 (g 1024) 0,aj X (g X) 0,exV x]){b}(a:∀i,i<B->s.gen i=upd g 1023 c i/\s.obj i=pT p inp fu gV gA X W f (g W) c H e1 E N i (ob i))(hB:B<=b)(ar:∀i,b<=i->s.obj i=N){t}{y}(Q:∀v ad e' w,fP (evE p (aG p) inp fu n f E H x) e1 H v ad e'->OkM p inp ad->K (St.put ⟨s.f,upd s.gen 1023 w,λi=>pT p inp fu gV gA X W f (g W) w ad e' E N i (s.obj i)⟩ o.dst (iv .u32 v))):bE (spF Tryz.prog rd O m t y) o s k:=by
 have U:=h.hB;have Z:=h.hX;have V:=h.hW;have e:∀i,i<B->i≠1023->s.gen i=g i:=λi A J=>by rw[(a i A).1];exact l4 J
 refine dO a6 ho (by rw[I,<-e 1024 a7 a8,<-e X a7 a7];exact l f E H e1 x q u b s.gen s.obj X W (h.re an a hB ar)) ?_;rintro _ _ _⟨v,ad,e',w,Y,a2,rfl,rfl,rfl⟩;grind
def ma(a6:bA O m){o}{k:Box K}(ho:o.op=.call ⟨.value (.func 200),args,tys⟩){n f B X W a}{x}(l:HE p inp fu gV gA gk n)(h:FrM p inp fu gV gA gk B g ob X W f L G a)(q:Src.szE x<=1000000)(u:a=0->evE p (aG p) inp fu n f L G x≠.no)(I:args.toList.map s.ev=[aj 1024 (g 1024) 0,aj X (g X) 0,exV x]){b}(hs:∀i,i<B->s.gen i=g i/\s.obj i=ob i)(hB:B<=b)(ar:∀i,b<=i->s.obj i=N){t}{y}(A:∀v c j w,fP (evE p (aG p) inp fu n f L G x) a G v c j->OkM p inp c->K (St.put ⟨s.f,upd s.gen 1023 w,λi=>pT p inp fu gV gA X W f (g W) w c j L N i (s.obj i)⟩ o.dst (iv .u32 v))):bE (spF Tryz.prog rd O m t y) o s k:=qu a6 ho l h (h.sv.okm h.rd) q u I abI hB ar A
def FrM.run(h:FrM p inp fu gV gA gk B g ob X W f L G e):ob 1024=S (rnM p inp fu gV gA (g 1023) G e):=h.sv.fix 1024
def FrM.vrs(h:FrM p inp fu gV gA gk B g ob X W f L G e):ob 1022=S (wM G.v):=h.sv.fix 1022
end Go.Proofs.YtfdbpgoicedpcaaGreatDoor


/- A part of the proof; no conditions. -/
import Derived.Test.YtlacbjnmkhndiaaGreatDoorPart18
set_option linter.unusedSimpArgs false
set_option linter.unusedVariables false
set_option linter.defProp false
open List renaming length -> z
open Option renaming some -> S, none -> N
open Bool renaming true -> T, false -> F
set_option maxHeartbeats 64000000
set_option maxRecDepth 100000
namespace Go.Proofs.YtlacbjnmkhndiaaGreatDoor
section
open Go Go.Am Go.Asm
open Go.Src (Ex Stm dX)
open Go.Mn (Sg Rs evE dq evS de evW evB aA)
open Go.Mach (applyN)
attribute[local congr]ite_cc
section
section
variable(p:Src.Prog)(inp:Str)(fu gV gA:Nat)(gk:Nat->Nat)
def qB(f:Nat)(L:List Nat)(G:Sg)(a:Nat)(x:Ex)(r:Rs Nat):Prop:=∀(B:Nat)(g:Nat->Nat)(ob:Obs)(X W:Nat),FrM p inp fu gV gA gk B g ob X W f L G a->
 gY Tryz.prog 178 [aj 1024 (g 1024) 0,aj X (g X) 0,exV x] g ob (RW p inp fu gV gA X W f L r a G g ob)
end
variable{r:Rs Nat}{L:List Nat}{G:Sg}{g:Nat->Nat}
section
variable{p:Src.Prog}{inp:Str}{fu gV gA:Nat}{gk:Nat->Nat}
def wy{B:Nat}{ob:Obs}{X W f e:Nat}{s:St}{R:AV->(Nat->Nat)->Obs->Prop}{j rs:List AV}(h:FrM p inp fu gV gA gk B g ob X W f L G e)
 (a:∀i,i<B->s.gen i=g i/\s.obj i=ob i)(c:eH B s j rs)(d:R (pack rs) (upd g 1023 (g 1023)) (λi=>pT p inp fu gV gA X W f (g W) (g 1023) G e L N i (ob i))):bB B (SSM p X W) g ob R s j:=
 dY h (λi b=>by rw[(a i b).1,(a i b).2];exact h.same i) c d
def FrM.okm{B:Nat}{g:Nat->Nat}{ob:Obs}{X W f e:Nat}{L:List Nat}{G:Sg}(h:FrM p inp fu gV gA gk B g ob X W f L G e):OkM p inp G:=h.sv.okm h.rd
def runM{B:Nat}{ob:Obs}{X W f a w e e2:Nat}{L bd:List Nat}{b G a6:Sg}{q:Option Nat}{s:St}{l:Obs}(h:FrM p inp fu gV gA gk B g ob X W f L b a)(d:s.obj=upd l 1024 (S (rnM p inp fu gV gA w a6 e2)))(c:a6.v=G.v/\a6.arrs=G.arrs/\a6.out=G.out)
 (j:∀i,i<B->s.gen i=upd g 1023 w i/\l i=pT p inp fu gV gA X W f (g W) w G e bd q i (ob i)):∀i,i<B->s.gen i=upd g 1023 w i/\s.obj i=pT p inp fu gV gA X W f (g W) w a6 e2 bd q i (ob i):=λi k=>by
 obtain⟨m,n⟩:=j i k;refine⟨m,?_⟩;obtain⟨P,_⟩:=h.rds;obtain⟨o,t,u⟩:=c;rw[d];simp only[upd];split
 .rename_i e;subst e;exact(P _ _ _ _ _ _).symm
 .rename_i e
  rw[n];unfold pT pS;rw[j9 e,j9 e,o,t,u]
def eE.ok{r:Rs Nat}{G H:Sg}{v:Nat}(h:eE r 0 G v H 0):r=.ok v H:=by
 unfold eE at h;rw[l9 rfl]at h;cases r with
 |ok=>obtain⟨rfl,rfl,_⟩:=h;rfl
 |en=>exact absurd h.2.2.symm h.1
 |no=>exact h.elim
def eE.en{r:Rs Nat}{G H:Sg}{v e:Nat}(h:eE r 0 G v H e)(a:e≠0):r=.en e H:=by
 unfold eE at h;rw[l9 rfl]at h;cases r with
 |ok=>exact absurd h.2.2 a
 |en=>obtain⟨_,rfl,rfl⟩:=h;rfl
 |no=>exact h.elim
def eE.stay{G H:Sg}{v a e:Nat}(h:eE r a G v H e)(b:a≠0):H=G/\e=a:=by
 unfold eE at h
 rwa [j9 b]at h
def eE.mk{G H:Sg}{v:Nat}(h:r=.ok v H):eE r 0 G v H 0:=by rw[h];exact⟨rfl,rfl,rfl⟩
def eE.mke{G H:Sg}{v e:Nat}(h:r=.en e H)(a:e≠0):eE r 0 G v H e:=by rw[h];exact⟨a,rfl,rfl⟩
def eE.then{q rb:Rs Nat}{G H a6:Sg}{a d e1 e2:Nat}(b:eE q 0 G a H e1)(c:eE rb e1 H d a6 e2):(e2=0/\q=.ok a H/\rb=.ok d a6/\e1=0)\/(e2≠0/\((q=.ok a H/\rb=.en e2 a6/\e1=0)\/(q=.en e2 a6/\e1≠0))):=by
 by_cases U:e1=0
 .subst U
  by_cases e:e2=0
  .subst e;exact .inl ⟨rfl,b.ok,c.ok,rfl⟩
  .exact .inr ⟨e,.inl ⟨b.ok,c.en e,rfl⟩⟩
 .obtain⟨rfl,rfl⟩:=c.stay U
  exact .inr ⟨U,.inr ⟨b.en U,U⟩⟩
def PY{f:Nat}{b:Nat}{x:Ex}(c:b≠0):qB p inp fu gV gA gk f L G b x r:=by
 obtain⟨k,o,a,d,e⟩:=x;intro B g ob X W h;refine dj.toR (bZ B (SSM p X W) aO mixed Tryz.func178 rfl j4 [.tmp 6] rfl j0 j0 YC (fJ h) h.free λO j l m=>?_);have al:=h.nes;have V:=h.run;have hi:¬(b:Int)=0:=a7;unfold rnM at V;rw[nG];simp only[go_sem,V,al,hi];refine⟨_,ai.refl _,?_⟩;simp only[go_sem];exact wy h loM eY ⟨0,G,b,_,by unfold eE;rw[j9 c];exact⟨rfl,rfl⟩,h.okm,rfl,rfl,rfl⟩
def Wv{f:Nat}{o:Int}{n:Nat}{a:Str}{b:List Ex}:qB p inp fu gV gA gk f L G 0 (.mk 1 o n a b) (.ok n G):=by
 intro B g ob X W h;refine dj.toR (bZ B (SSM p X W) aO mixed Tryz.func178 rfl j4 [.tmp 6] rfl j0 j0 YC (fJ h) h.free λO c d e=>?_);have al:=h.nes;have V:=h.run;unfold rnM at V;rw[nG];simp only[go_sem,V,al];refine⟨_,ai.refl _,?_⟩;simp only[go_sem];exact wy h loM eY ⟨n,G,0,_,⟨rfl,rfl,rfl⟩,h.okm,rfl,rfl,rfl⟩
def Zs{n f:Nat}{num:Int}{Z:Str}{a b:Ex}{o:Int}(A:HE p inp fu gV gA gk n)(E:Src.szE a<=1000000/\Src.szE b<=1000000)(V:(evE p (aA p) inp fu n f L G a).bind (λx H=>(evE p (aA p) inp fu n f L H b).bind λy a6=>Mn.opV o x y a6)=r)(u:r≠.no):qB p inp fu gV gA gk f L G 0 (.mk 6 o num Z [a,b]) r:=by
 intro B g ob X W h;refine dj.toR (bZ B (SSM p X W) aO mixed Tryz.func178 rfl j4 [.tmp 6] rfl j0 j0 YC (fJ h) h.free λO bn s0 w0=>?_);have al:=h.nes;have P:=h.rds;have hB:=h.hB;have Y:=h.run;unfold rnM at Y;rw[nG];have bo:evE p (aA p) inp fu n f L G a≠.no:=λe=>by rw[e]at V;exact u V.symm
 simp only[go_sem,Y,al,s6,x7];refine⟨bq a,F7 (bq a).symm,?_⟩;refine kr aa rfl A h E.1 (λ_=>bo) X1 loM (by omega:B<=B+232) (λi hi=>by simp only[upd];(repeat rw[j9 (by omega)]);exact h.free i (by omega)) λl H e1 c A1 K1=>?_
 have m:e1=0->evE p (aA p) inp fu n f L H b≠.no:=λe hq=>by
  subst e;rw[A1.ok]at V;simp only[Rs.bind,hq]at V;exact u V.symm
 simp only[go_sem,al,P,s6,x7];refine⟨bq b,F7 (bq b).symm,?_⟩;refine nH (c:=c) (e1:=e1) (bs:=L) aa rfl A h K1 E.2 m X1 loM (by omega:B<=B+232) (λi hi=>by simp only[upd];(repeat first|rw[j9 (by omega)]|rw[h.hi (by omega)]);exact h.free i (by omega)) λd a6 j I A2 t=>?_;by_cases he:j=0
 case neg=>
  have hi:¬(j:Int)=0:=a7;simp only[go_sem,al,P,rnM,hi];refine⟨_,ai.refl _,?_⟩;simp only[go_sem];refine dY (w:=I) (e':=j) (ad:=a6) (bd:=L) (r:=N) h loM eY ⟨0,a6,j,I,?_,t,rfl,rfl,rfl⟩;refine eE.mke ?_ he;exact Vr
 subst he
 obtain⟨U,h2⟩:evE p (aA p) inp fu n f L G a=.ok l H/\evE p (aA p) inp fu n f L H b=.ok d a6:=by
  exact Xj
 rw[U]at V;simp only[Rs.bind,h2,Mn.opV]at V;split at V
 case isFalse=>exact absurd V.symm u
 rename_i ho;obtain⟨o,rfl⟩:∃q:Nat,o=(q:Nat):=⟨o.toNat,a7⟩
 rw[B6]at V;have J:=BC o l d a7 a7 ho.2.1 ho.2.2;unfold NY at J;simp only[go_sem,al,P,rnM];refine FU rfl (by simp only[go_sem,al];exact J) ?_;rintro _ rfl;cases Q:applyN o l d with
 |some v=>
   rw[Q]at V;simp only[go_sem,al,P];refine⟨_,ai.refl _,?_⟩;simp only[go_sem];exact dY (w:=I) (e':=0) (ad:=a6) (bd:=L) (r:=N) h loM eY ⟨v,a6,0,I,eE.mk V.symm,t,rfl,rfl,rfl⟩
 |none=>
   rw[Q]at V;simp only[go_sem,al,P,rnM];refine⟨_,ai.refl _,?_⟩;simp only[go_sem];exact dY (w:=I) (e':=2) (ad:=a6) (bd:=L) (r:=N) h (runM (G:=a6) (e:=0) h rfl ⟨rfl,rfl,rfl⟩ loM) eY ⟨0,a6,2,I,eE.mke V.symm b9,t,rfl,rfl,rfl⟩
end
end
end
section
open Go Go.Am Go.Asm
open Go.Src (Ex Stm dX)
open Go.Mn (Sg Rs evE dq evS de evW evB aA)
attribute[local congr]ite_cc
section
def NV(b:Bool):aJ Tryz.prog 200 [bv b] (·=iv .u32 ((if b=T then 1 else 0:Nat):Nat)):=by
 refine hdP Tryz.func200 rfl [2] λg=>?_;cases b<;>simp only[go_sem]<;>rfl
variable{L:List Nat}{G:Sg}{num o:Int}{m:Str}{r:Rs Nat}{f:Nat}{q:List Ex}
section
variable{p:Src.Prog}{inp:Str}{fu gV gA:Nat}{gk:Nat->Nat}
def Ww{n f:Nat}{a:Ex}(j:HE p inp fu gV gA gk n)(l:Src.szE a<=1000000)(V:(evE p (aA p) inp fu n f L G a).bind (λx H=>.ok (if x=0 then 1 else 0) H)=r)(u:r≠.no):qB p inp fu gV gA gk f L G 0 (.mk 7 o num m [a]) r:=by
 intro B g ob X W h;refine dj.toR (bZ B (SSM p X W) aO mixed Tryz.func178 rfl j4 [.tmp 6] rfl j0 j0 YC (fJ h) h.free λO bn s0 w0=>?_);have al:=h.nes;have P:=h.rds;have hB:=h.hB;have Y:=h.run;unfold rnM at Y;rw[nG];have q:evE p (aA p) inp fu n f L G a≠.no:=λe=>by rw[e]at V;exact u V.symm
 simp only[go_sem,Y,al,s6,x7];refine⟨bq a,F7 (bq a).symm,?_⟩;refine kr aa rfl j h l (λ_=>q) X1 loM (by omega:B<=B+232) (λi hi=>by simp only[upd];(repeat rw[j9 (by omega)]);exact h.free i (by omega)) λd H b c A1 t=>?_;simp only[go_sem,al,P];refine FU rfl (by simp only[go_sem];exact NV _) ?_;rintro _ rfl;simp only[go_sem];refine⟨_,ai.refl _,?_⟩;simp only[go_sem];refine dY (w:=c) (e':=b) (ad:=H) (bd:=L) (r:=N) h loM eY ⟨_,H,b,c,?_,t,rfl,rfl,rfl⟩;by_cases he:b=0
 .subst he
  refine eE.mk ?_;rw[<-V,A1.ok];show Rs.ok _ _=Rs.ok _ _;congr 1;by_cases U:d=0
  .simp[U]
  .have:¬((d:Nat):Int)=0:=a7
   simp[U,this]
 .exact V9
def Zt{n f:Nat}{a b:Ex}{k:Int}(hk:k=8\/k=9)(hE:HE p inp fu gV gA gk n)(hz:Src.szE a<=1000000/\Src.szE b<=1000000)
 (V:(evE p (aA p) inp fu n f L G a).bind (λx H=>if k=8 then(if x=0 then .ok 0 H else(evE p (aA p) inp fu n f L H b).bind Mn.lD)else if x=0 then(evE p (aA p) inp fu n f L H b).bind Mn.lD else Mn.lD x H)=r)(u:r≠.no):qB p inp fu gV gA gk f L G 0 (.mk k o num m [a,b]) r:=by
 intro B g ob X W h;refine dj.toR (bZ B (SSM p X W) aO mixed Tryz.func178 rfl j4 [.tmp 6] rfl j0 j0 YC (fJ h) h.free λO E K Q=>?_);have al:=h.nes;have P:=h.rds;have hB:=h.hB;have Y:=h.run;unfold rnM at Y;rw[nG];have v:evE p (aA p) inp fu n f L G a≠.no:=λe=>by rw[e]at V;exact u V.symm
 -- y second one,and y end behind it
 have j:∀(l:Nat)(H:Sg)(e1:Nat),eE (evE p (aA p) inp fu n f L G a) 0 G l H e1->(e1=0->(evE p (aA p) inp fu n f L H b).bind Mn.lD=r)->(e1=0->evE p (aA p) inp fu n f L H b≠.no)/\∀d a6 e2,eE (evE p (aA p) inp fu n f L H b) e1 H d a6 e2->eE r 0 G d a6 e2:=λl H e1 A1 hq=>by
  refine⟨λe A=>u (by rw[<-hq e,A];rfl),λd a6 e2 A2=>?_⟩;rcases A1.then A2 with⟨rfl,U,t,s⟩|⟨he,⟨U,t,s⟩|⟨U,s⟩⟩
  .refine eE.mk ?_
   have:=hq s;rw[t]at this;simp only[Rs.bind,Mn.lD]at this;split at this
   .exact this.symm
   .exact absurd this.symm u
  .exact eE.mke (by rw[<-hq s,t];rfl) he
  .exact eE.mke (by rw[<-V,U];rfl) he
 rcases hk with rfl|rfl
 .simp only[go_sem,Y,al,s6,x7]
  refine⟨bq a,F7 (bq a).symm,?_⟩;refine kr aa rfl hE h hz.1 (λ_=>v) X1 loM (by omega:B<=B+232) (λi hi=>by simp only[upd];(repeat rw[j9 (by omega)]);exact h.free i (by omega)) λl H e1 c A1 K1=>?_;by_cases q:l=0
  .subst q
   simp only[go_sem,al,P];refine⟨_,ai.refl _,?_⟩;simp only[go_sem];refine dY (w:=c) (e':=e1) (ad:=H) (bd:=L) (r:=N) h loM eY ⟨0,H,e1,c,?_,K1,rfl,rfl,rfl⟩;by_cases he:e1=0
   .subst he
    refine eE.mk ?_;rw[<-V,A1.ok];rfl
   .exact V9
  .have J:¬((l:Nat):Int)=0:=a7
   obtain⟨t1,t2⟩:=j l H e1 A1 λe=>by subst e;rw[<-V,A1.ok];simp only[Rs.bind,B5,j9 q]
   simp only[go_sem,al,P,s6,x7,J];exact kt
 .simp only[go_sem,Y,al,s6,x7]
  refine⟨bq a,F7 (bq a).symm,?_⟩;refine kr aa rfl hE h hz.1 (λ_=>v) X1 loM (by omega:B<=B+232) (λi hi=>by simp only[upd];(repeat rw[j9 (by omega)]);exact h.free i (by omega)) λl H e1 c A1 K1=>?_;by_cases q:l=0
  .subst q
   obtain⟨t1,t2⟩:=j 0 H e1 A1 λe=>by subst e;rw[<-V,A1.ok];rfl
   simp only[go_sem,al,P,s6,x7];exact kt
  .have J:¬((l:Nat):Int)=0:=a7
   simp only[go_sem,al,P,J];refine⟨_,ai.refl _,?_⟩;simp only[go_sem];refine dY (w:=c) (e':=e1) (ad:=H) (bd:=L) (r:=N) h loM eY ⟨l,H,e1,c,?_,K1,rfl,rfl,rfl⟩;by_cases he:e1=0
   .subst he
    refine eE.mk ?_;rw[A1.ok]at V;simp only[Rs.bind,j9 q,show ¬(9:Int)=8 by decide,B1,Mn.lD]at V;split at V
    .exact V.symm
    .exact absurd V.symm u
   .exact V9
def Kk{fn:Src.Fn}(hf:p.f[f]?=S fn)(s:Str){k i:Nat}(h:aA p f s=S (k,i)):dX p fn s=((k:Int),(i:Int)):=by
 unfold aA at h;rw[hf]at h;rw[Src.Bt,show Src.aR (Src.aI p) (Src.aM fn) s=S (k,i)from h]
def Wx(V:Mn.CE (aA p f m) L G=r)(u:r≠.no):qB p inp fu gV gA gk f L G 0 (.mk 2 o num m q) r:=by
 intro B g ob X W h;refine dj.toR (bZ B (SSM p X W) aO mixed Tryz.func178 rfl j4 [.tmp 6] rfl j0 j0 YC (fJ h) h.free λO K Q Z=>?_);have al:=h.nes;have hB:=h.hB;have Y:=h.run;have ar:=h.frm;have b6:=h.wds;have y:=h.vrs;have l:=h.sv.gv;obtain⟨fn,E⟩:=h.fn;obtain⟨A,H,_⟩:=h.sm.fn fn (l7 E);have hF:=wv p h.sm.v Zk h.sm.f f fn E A H m;unfold Mn.CE at V;cases c:aA p f m with
 |none=>rw[c]at V;exact absurd V.symm u
 |some t=>
   obtain⟨k,i⟩:=t;rw[c]at V;rw[Kk E m c]at hF;rw[bO]at hF;unfold rnM at Y;unfold frM at ar;rw[nG];simp only at V;simp only[go_sem,Y,al];refine cB aO mixed aa [] [([0],[],[],F),([31],[],[],F),([32],[],[],F),([33],[],[],F),([1],[],[],F),([35],[],[],F),([36],[],[],F),([37],[],[],F),([5],[],[],F),([39],[],[],F),([34,38,40],[],[],F),([41],[],[],F),([30],[],[],F),([30],[],[],F),([42],[],[],F),([43],[],[],T)] 0 rfl c9 rfl b9 ?_;simp only[go_sem]
   iterate 10 (apply aw;(case hg=>first|exact y8|exact⟨_,rfl,by decide,rfl⟩);(case U=>intro j ga n b J;simp only[go_sem,Y,ar,al]at J|-;exact J))
   refine aw (v:=.tup [ae (k:Nat),ae (i:Nat)]) y8 (λj ga n b J=>?_) ?_
   .exact z8
   iterate 4 (apply aw;(case hg=>first|exact y8|exact⟨_,rfl,by decide,rfl⟩);(case U=>intro j ga n b J;simp only[go_sem]at J|-;exact J))
   refine cC y8 ?_;intro b s;simp only[go_sem];refine s _ ?_;clear s b;have w:(0:Int)<=(i:Int):=a7;by_cases U:k=1
   .subst U
    rw[l9 rfl]at V;cases hw:L[i]? with
    |none=>rw[hw]at V;exact absurd V.symm u
    |some v=>
      rw[hw]at V;have I:=(l6.1 hw).1;have e:(i:Int)<(z L:Int):=a7;have P:(wM L)[i]?=S (.d (.int .u32 (v:Nat))):=by unfold wM;rw[w9,hw];rfl
      simp only[go_sem,ar,b6,al,w,e,P];exact VC
   .rw[j9 U]at V
    by_cases x:k=2
    .subst x
     rw[l9 rfl]at V;cases hw:G.v[i]? with
     |none=>rw[hw]at V;exact absurd V.symm u
     |some v=>
       rw[hw]at V;have I:=(l6.1 hw).1;have b':=h.sv.vl;have e:(i:Int)<(z p.v:Int):=a7;have P:(wM G.v)[i]?=S (.d (.int .u32 (v:Nat))):=by unfold wM;rw[w9,hw];rfl
       simp only[go_sem,Y,y,l,al,w,e,P];exact VC
    .rw[j9 x]at V;exact absurd V.symm u
def Wy:qB p inp fu gV gA gk f L G 0 (.mk 5 o num m q) (.ok (Mn.Ai inp G.rd) ⟨G.v,G.arrs,G.out,Mn.xG inp G.rd,G.tk⟩):=by
 intro B g ob X W h;refine dj.toR (bZ B (SSM p X W) aO mixed Tryz.func178 rfl j4 [.tmp 6] rfl j0 j0 YC (fJ h) h.free λO x y A=>?_);have al:=h.nes;have hB:=h.hB;have V:=h.run;have E:=h.rd;have bl:=h.sm.inp;unfold rnM at V;have hw:=ah (k:=G.rd) a7;have d:IntKind.i64.wrap (((G.rd+1:Nat):Int)-1)=(G.rd:Int):=by rw[wrap_i64]<;>omega
 have j:(0:Int)<=(G.rd:Int):=a7;rw[nG];simp only[go_sem,V,al];refine aP c9 ?_;by_cases t:G.rd<z inp
 .have l:¬(z inp:Int)<=(G.rd:Int):=a7
  obtain⟨c,Z⟩:=getq t;have u:IntKind.u32.wrap ((c.toNat:Nat):Int)=((c.toNat:Nat):Int):=by have:=c.toNat_lt;rw[IntKind.wrap_u32];omega
  have a:Mn.Ai inp G.rd=c.toNat:=by unfold Mn.Ai;rw[Z]
  have b:Mn.xG inp G.rd=G.rd+1:=by unfold Mn.xG;rw[Z]
  rw[a,b];simp only[go_sem,V,al,l,hw];refine aP c9 ?_;simp only[go_sem,V,al,d,j,Z,u];refine⟨_,ai.refl _,?_⟩;simp only[go_sem];refine dY (w:=g 1023) (e':=0) (ad:=⟨G.v,G.arrs,G.out,G.rd+1,G.tk⟩) (bd:=L) (r:=N) h (runM (G:=G) (e:=0) h rfl ⟨rfl,rfl,rfl⟩ λi hi=>?_) eY ⟨c.toNat,_,0,_,eE.mk rfl,⟨h.okm.1,h.okm.2.1,by show G.rd+1<=_;omega⟩,rfl,rfl,rfl⟩;have:=h.same i;have hk:∀k,(i=B+k)=False:=λk=>by simp;omega
  simp only[upd,hk,B1]at this|-;exact this
 .have l:(z inp:Int)<=(G.rd:Int):=a7
  have Z:inp[G.rd]?=N:=F3 a7;have a:Mn.Ai inp G.rd=256:=by unfold Mn.Ai;rw[Z]
  have b:Mn.xG inp G.rd=G.rd:=by unfold Mn.xG;rw[Z]
  rw[a,b];simp only[go_sem,V,al,l];refine⟨_,ai.refl _,?_⟩;simp only[go_sem];exact wy h loM eY ⟨256,G,0,_,eE.mk rfl,h.okm,rfl,rfl,rfl⟩
end
end
section
variable{L:List Nat}
section
variable{p:Src.Prog}{inp:Str}{fu gV gA:Nat}{gk:Nat->Nat}
def FrM.arr{B:Nat}{g:Nat->Nat}{ob:Obs}{X W f c i:Nat}{G:Sg}(h:FrM p inp fu gV gA gk B g ob X W f L G c)(b:i<z p.a):
  (∀w G e L r o,pT p inp fu gV gA X W f (g W) w G e L r (2000+i) o=S (wM ((G.arrs[i]?).getD [])))/\(2000+i=1023)=False/\(2000+i=1024)=False/\(∀k,(2000+i=B+k)=False)/\(∀k,(B+k=2000+i)=False)/\g (2000+i)=gk i/\g 1021=gA/\ob 1021=S (arM p gk)/\(arM p gk)[i]?=S (.osl (2000+i) (gk i) 1 0 (alM p i)):=by
 have U:=h.hB;have d:=h.hX;have j:=h.hW;have l:=h.sm.a;refine⟨λw G e L r o=>?_,by simp;omega,by simp;omega,λk=>by simp;omega,λk=>by simp;omega,h.sv.gk i b,h.sv.ga,h.sv.ar,?_⟩
 .unfold pT pS
  rw[j9 a7,j9 a7,j9 a7,j9 a7,j9 a7,l9 a7,show 2000+i-2000=i by omega]
 .unfold arM
  rw[w9,R7 b];rfl
def Wz{n f:Nat}{G:Sg}{num o:Int}{m:Str}{a:Ex}(hE:HE p inp fu gV gA gk n)(hz:Src.szE a<=1000000){r:Rs Nat}(V:(evE p (aA p) inp fu n f L G a).bind (λj H=>Mn.CF (aA p f m) H j)=r)(u:r≠.no)(h3:∀k i,aA p f m=S (k,i)->k=3->i<z p.a):qB p inp fu gV gA gk f L G 0 (.mk 3 o num m [a]) r:=by
 intro B g ob X W h;refine dj.toR (bZ B (SSM p X W) aO mixed Tryz.func178 rfl j4 [.tmp 6] rfl j0 j0 YC (fJ h) h.free λO bn s0 w0=>?_);have al:=h.nes;have P:=h.rds;have hB:=h.hB;have Y:=h.run;have ar:=h.frm;obtain⟨fn,E⟩:=h.fn;obtain⟨ch,cd,_⟩:=h.sm.fn fn (l7 E);have hF:=wv p h.sm.v Zk h.sm.f f fn E ch cd m;rw[bO]at hF;unfold rnM at Y;unfold frM at ar;rw[nG];have bo:evE p (aA p) inp fu n f L G a≠.no:=λe=>by rw[e]at V;exact u V.symm
 obtain⟨⟨kd,i⟩,b0⟩:∃q:Int×Int,dX p fn m=q:=⟨_,rfl⟩
 rw[b0]at hF;simp only at hF;simp only[go_sem,Y,al];refine cB aO mixed aa [] [([0],[],[],F),([63],[],[],F),([64],[],[],F),([65],[],[],F),([1],[],[],F),([67],[],[],F),([68],[],[],F),([69],[],[],F),([5],[],[],F),([71],[],[],F),([66,70,72],[],[],F),([73],[],[],F),([62],[],[],F),([62],[],[],F),([74],[],[],F),([75],[],[],T)] 0 rfl c9 rfl b9 ?_;simp only[go_sem]
 iterate 10 (apply aw;(case hg=>first|exact y8|exact⟨_,rfl,by decide,rfl⟩);(case U=>intro fa ga oa A J;simp only[go_sem,Y,ar,al]at J|-;exact J))
 refine aw (v:=.tup [ae kd,ae i]) y8 (λfa ga oa A J=>?_) ?_
 .exact z8
 iterate 4 (apply aw;(case hg=>first|exact y8|exact⟨_,rfl,by decide,rfl⟩);(case U=>intro fa ga oa A J;simp only[go_sem]at J|-;exact J))
 refine cC y8 ?_;intro A a';simp only[go_sem];refine a' _ ?_;clear a' A;simp only[go_sem,Y,al,s6,x7];refine⟨bq a,F7 (bq a).symm,?_⟩;refine kr aa rfl hE h hz (λ_=>bo) X1 loM (by omega:B<=B+232) (λi hi=>by simp only[upd];(repeat rw[j9 (by omega)]);exact h.free i (by omega)) λb H K c A1 K1=>?_;by_cases he:K=0
 case neg=>
  have hi:¬(K:Int)=0:=a7;simp only[go_sem,al,P,rnM,hi];refine⟨_,ai.refl _,?_⟩;simp only[go_sem];exact dY (w:=c) (e':=K) (ad:=H) (bd:=L) (r:=N) h loM eY ⟨0,H,K,c,eE.mke (by rw[<-V,A1.en he];rfl) he,K1,rfl,rfl,rfl⟩
 subst he;rw[A1.ok]at V;simp only[Rs.bind,Mn.CF]at V;cases ht:aA p f m with
 |none=>rw[ht]at V;exact absurd V.symm u
 |some t=>
   obtain⟨k,j⟩:=t;rw[ht]at V;simp only at V;by_cases hk:k=3
   case neg=>rw[j9 hk]at V;exact absurd V.symm u
   subst hk;rw[l9 rfl]at V;by_cases hv:b<4294967296
   case neg=>rw[j9 hv]at V;exact absurd V.symm u
   rw[l9 hv]at V;rw[Kk E m ht]at b0;cases b0;have hj:=h3 _ _ ht rfl;cases hl:H.arrs[j]? with
   |none=>rw[hl]at V;exact absurd V.symm u
   |some l=>
     rw[hl]at V;obtain⟨Q,q1,q2,q3,q4,q5,q6,q7,q8⟩:=h.arr hj;have bz:=K1.2.1.2 j l hl;have bl:=h.sm.az j;have cv:(0:Int)<=(j:Int):=a7;have y:(j:Int)<(z p.a:Int):=a7;have w1:IntKind.u64.wrap ((b:Nat):Int)=(b:Int):=by rw[IntKind.wrap_u64];omega
     have w2:IntKind.u64.wrap ((alM p j:Nat):Int)=(alM p j:Int):=by rw[IntKind.wrap_u64];omega
     simp only[Mn.need]at V;by_cases af:b<z l
     .have Z:¬(alM p j:Int)<=(b:Int):=a7
      have b1:(0:Int)<=(b:Int):=a7;have cx:(b:Int)<(alM p j:Int):=a7;obtain⟨x,I⟩:=getq af;rw[I]at V;have s:(wM l)[b]?=S (.d (.int .u32 (x:Nat))):=by unfold wM;rw[w9,I];rfl
      simp only[go_sem,al,P,rnM,Q,q1,q2,q3,q4,q5,q6,q7,q8,cv,y,w1,w2,Z,b1,cx,hl,A6,s];refine⟨_,ai.refl _,?_⟩;simp only[go_sem];exact dY (w:=c) (e':=0) (ad:=H) (bd:=L) (r:=N) h loM eY ⟨x,H,0,c,eE.mk V.symm,K1,rfl,rfl,rfl⟩
     .have Z:(alM p j:Int)<=(b:Int):=a7
      rw[F3 a7]at V;simp only[go_sem,al,P,rnM,Q,q1,q2,q3,q4,q5,q6,q7,q8,cv,y,w1,w2,Z];refine⟨_,ai.refl _,?_⟩;simp only[go_sem];exact dY (w:=c) (e':=3) (ad:=H) (bd:=L) (r:=N) h (runM (G:=H) (e:=0) h rfl ⟨rfl,rfl,rfl⟩ loM) eY ⟨0,H,3,c,eE.mke V.symm b9,K1,rfl,rfl,rfl⟩
end
end
section
section
variable(p:Src.Prog)(inp:Str)(fu gV gA:Nat)(gk:Nat->Nat)
def WaM(g:Nat->Nat)(ob:Obs)(A:Nat)(vs:List Nat)(h:AV):Prop:=(vs=[]/\h=.one (.d .nsl))\/(h=dL A (g A) 1 0 (z vs)/\ob A=S (wM vs))
def HB(n:Nat):Prop:=∀(f:Nat)(vs:List Nat)(G:Sg),SmM p inp fu->f<z p.f->evB p (aA p) inp fu n f vs G≠.no->G.rd<=z inp->∀(B:Nat)(g:Nat->Nat)(ob:Obs)(A:Nat)(h:AV),3000<=B->3000<=A->A<B->(∀i,B<=i->ob i=N)->SvM p inp fu gV gA gk g ob G 0->WaM g ob A vs h->
 gY Tryz.prog 50 [aj 1024 (g 1024) 0,ae f,h] g ob (λr c Y=>∃v a b w,eE (evB p (aA p) inp fu n f vs G) 0 G v a b/\OkM p inp a/\r=iv .u32 (v:Nat)/\∀i,i≠A->c i=upd g 1023 w i/\Y i=pS p inp fu gV gA w a b i (ob i))
def Fb(f:Nat)(L:List Nat)(G:Sg)(a:Str)(b:List Ex)(r:Rs Nat):Prop:=∀(B:Nat)(g:Nat->Nat)(ob:Obs)(X W:Nat),FrM p inp fu gV gA gk B g ob X W f L G 0->
 gY Tryz.prog 180 [aj 1024 (g 1024) 0,aj X (g X) 0,sv a,eJ b] g ob (RW p inp fu gV gA X W f L r 0 G g ob)
end
variable{L:List Nat}
section
variable{p:Src.Prog}{inp:Str}{fu gV gA:Nat}{gk:Nat->Nat}
def WA{X W f c w y e e' i:Nat}{G ad:Sg}{r:Option Nat}{o:Option (List C)}(d:z p.a<=900)(hX:3000<=X)(hW:3000<=W):pS p inp fu gV gA w G e i (pT p inp fu gV gA X W f c y ad e' L r i o)=pT p inp fu gV gA X W f c w G e L r i o:=by
 unfold pT;by_cases U:i=W
 .rw[l9 U,l9 U,se d (.inl a7)]
 rw[j9 U,j9 U];by_cases b:i=X
 .rw[l9 b,l9 b,se d (.inl a7)]
 rw[j9 b,j9 b,Kg]
def GM{l:List Ex}{e:Ex}(h:e∈l):Src.szE e<=Src.bw l:=Src.Oz h
def Kl{n f gN:Nat}{G:Sg}{nm:Str}{ks:List Ex}(hE:∀m,m<=n->HE p inp fu gV gA gk m)(hB:HB p inp fu gV gA gk n)(hz:Src.bw ks<=1000000)(b0:aA p f nm=S (4,gN))(cy:gN<z p.f){r:Rs Nat}
 (V:(dq p (aA p) inp fu n f L G ks).bind (λvs H=>Mn.tick fu H λa6=>evB p (aA p) inp fu n gN vs a6)=r)(u:r≠.no):Fb p inp fu gV gA gk f L G nm ks r:=by
 intro B g ob X W h;refine dj.toR (bZ B (SSM p X W) aO mixed Tryz.func180 rfl j4 [.tmp 8] rfl j0 j0 (by simp[Tryz.ntmps180]) (fJ h) h.free λO bn s0 w0=>?_);have al:=h.nes;have P:=h.rds;have c0:=h.hB;have Y:=h.run;have ar:=h.frm;obtain⟨fn,E⟩:=h.fn;obtain⟨ch,cd,_⟩:=h.sm.fn fn (l7 E);have hF:=wv p h.sm.v Zk h.sm.f f fn E ch cd nm;rw[Kk E nm b0]at hF;rw[bO]at hF;unfold rnM at Y;unfold frM at ar;have b5:=Src.KQ ks;have az:dq p (aA p) inp fu n f L G ks≠.no:=λe=>by rw[e]at V;exact u V.symm
 simp only[go_sem,Y,al];refine cB aO mixed aa [] [([0],[],[],F),([14],[],[],F),([15],[],[],F),([16],[],[],F),([1],[],[],F),([18],[],[],F),([19],[],[],F),([20],[],[],F),([2],[],[],F),([17,21,22],[],[],F),([23],[],[],F),([13],[],[],F),([13],[],[],F),([24],[],[],F),([25],[],[],T)] 0 rfl c9 rfl b9 ?_;simp only[go_sem]
 iterate 9 (apply aw;(case hg=>first|exact y8|exact⟨_,rfl,by decide,rfl⟩);(case U=>intro fa ga oa K' J;simp only[go_sem,Y,ar,al]at J|-;exact J))
 refine aw (v:=.tup [ae 4,ae gN]) y8 (λfa ga oa K' J=>?_) ?_
 .simp only[go_sem]at J|-
  refine qg aa rfl hF XD (B:=B+58) (λi hi=>by simp only[upd];(repeat rw[j9 (by omega)]);exact h.free i (by omega)) ?_;exact lv
 iterate 4 (apply aw;(case hg=>first|exact y8|exact⟨_,rfl,by decide,rfl⟩);(case U=>intro fa ga oa K' J;simp only[go_sem]at J|-;exact J))
 refine cC y8 ?_;intro K' a';simp only[go_sem];refine a' _ ?_;clear a' K';unfold eJ;simp only[go_sem]
 refine mQ _ (pL (t:=11) (id:=B+41) (sz:=1) XD) (λmm K=>∃(k:Nat)(v1:List Nat)(d:Sg)(Z w:Nat),mm+k=z ks/\z v1=k/\OkM p inp d/\
  ((Z=0/\∃m,m<=n/\dq p (aA p) inp fu n f L G ks=(dq p (aA p) inp fu m f L d (ks.drop k)).bind λvs ad=>.ok (v1++vs) ad)\/(Z≠0/\dq p (aA p) inp fu n f L G ks=.en Z d))/\
  (∀i,i<B->K.gen i=upd g 1023 w i/\K.obj i=pT p inp fu gV gA X W f (g W) w d Z L N i (ob i))/\(∀i,B+58<=i->K.obj i=N)/\
  K.f 0=aj 1024 (g 1024) 0/\K.f 1=aj X (g X) 0/\K.f 3=.one (aq (ks.map exD))/\K.f 10=ae gN/\K.f 12=ae k/\K.f 11=dL (B+41) (K.gen (B+41)) 1 0 k/\K.obj (B+41)=S (wM v1)) (z ks) ?_ ?_
 .refine⟨0,[],G,0,g 1023,rfl,rfl,h.okm,.inl ⟨rfl,n,l8 _,?_⟩,λi hi=>?_,λi hi=>?_,?_⟩
  .cases hq:dq p (aA p) inp fu n f L G ks with
   |ok=>rw[D7,hq];rfl
   |en=>rw[D7,hq];rfl
   |no=>exact absurd hq az
  .have hk:∀k,(i=B+k)=False:=λk=>by simp;omega
   have:=h.same i;simp only[St.grab,upd,hk,B1]at this|-;exact this
  .simp only[St.grab,upd]
   rw[j9 a7];exact h.free i a7
  .simp only[St.grab]
   simp only[go_sem];rfl
 rintro mm fs g1 av ⟨k,v1,d,Z,w,hm,cx,an,hJ,hs,bk,q0,q1,q3,A,I,q,x⟩;simp only at hs bk q0 q1 q3 A I q x;have hw:=ah (k:=k) a7;have o:av 1024=S (rnM p inp fu gV gA w d Z):=by rw[(hs 1024 a7).2];exact P.1 _ _ _ _ _ _
 have j:g1 1024=g 1024:=by rw[(hs 1024 a7).1];rfl
 by_cases af:k<z ks
 .have Q:(k:Int)<(z ks:Int):=a7
  have bf:(0:Int)<=(k:Int):=a7;obtain⟨a,ha⟩:=getq af;have cb:=getD_at (f:=exD) ha;have b:Src.szE a<=1000000:=D0 (GM (l7 ha)) hz
  -- eh cz fuel c8 argument has
  obtain⟨m',cv,bl,l⟩:∃m',m'<=n/\(Z=0->evE p (aA p) inp fu m' f L d a≠.no)/\(Z=0->dq p (aA p) inp fu n f L G ks=(evE p (aA p) inp fu m' f L d a).bind λv H=>(dq p (aA p) inp fu m' f L H (ks.drop (k+1))).bind λvs ad=>.ok ((v1++[v])++vs) ad):=by
   rcases hJ with⟨rfl,m,c1,hq⟩|⟨he,_⟩
   .rw[dk ha]at hq
    cases m with
    |zero=>rw[dq]at hq;exact absurd hq az
    |succ m'=>
      rw[dq]at hq
      have cm:dq p (aA p) inp fu n f L G ks=(evE p (aA p) inp fu m' f L d a).bind λv H=>(dq p (aA p) inp fu m' f L H (ks.drop (k+1))).bind λvs ad=>.ok ((v1++[v])++vs) ad:=by
       rw[hq];cases evE p (aA p) inp fu m' f L d a with
       |no=>rfl
       |en=>rfl
       |ok v H=>
         simp only[Rs.bind];cases dq p (aA p) inp fu m' f L H (ks.drop (k+1))with
         |no=>rfl
         |en=>rfl
         |ok vs ad=>simp only[v7,I9]
      exact⟨m',a7,λ_ hn=>az (by rw[cm,hn];rfl),λ_=>cm⟩
   .exact⟨0,a7,λe=>absurd e he,λe=>absurd e he⟩
  simp only[go_sem,q0,q1,q3,q,I,Q,bf,j7,cb];refine⟨bq a,F7 (bq a).symm,?_⟩;refine nH (c:=w) (e1:=Z) (bs:=L) aa rfl (hE m' cv) h an b bl (by simp only[go_sem,q0,q1,dC];rfl) hs (by omega:B<=B+58) bk λv ad e' y A1 K1=>?_;have b3:=wx v1;simp only[go_sem,q0,q1,q3,q,I,hw,ba,al,P,x,b3,cx];refine⟨l8 _,⟨b9,a7⟩,?_⟩;refine ao (mm-1) a7 ⟨k+1,v1++[v],ad,e',y,a7,by simp;omega,K1,?_,λi hi=>?_,λi hi=>?_,?_⟩
  .by_cases he:Z=0
   .subst he
    by_cases cf:e'=0
    .subst cf
     refine .inl ⟨rfl,m',cv,?_⟩;rw[l rfl,A1.ok];rfl
    .refine .inr ⟨cf,?_⟩
     rw[l rfl,A1.en cf];rfl
   .obtain⟨rfl,rfl⟩:=A1.stay he
    rcases hJ with⟨h0,_⟩|⟨_,hq⟩
    .exact absurd h0 he
    .exact .inr ⟨he,hq⟩
  .have hk:∀k,(i=B+k)=False:=λk=>by simp;omega
   obtain⟨a1,a2⟩:=hs i hi;simp only[upd,hk,B1]at a1|-;rw[a1,a2,Bu];refine⟨?_,rfl⟩;split<;>rfl
  .simp only[upd]
   (repeat first|rw[j9 (by omega)]|rw[h.hi (by omega)])
   exact bk i hi
  .simp only[go_sem,q0,q1,q3,A,I,al,P]
   rw[s7 a7];simp[wM]
 .have Q:¬(k:Int)<(z ks:Int):=a7
  by_cases he:Z=0
  case neg=>
   have ca:dq p (aA p) inp fu n f L G ks=.en Z d:=by
    rcases hJ with⟨h0,_⟩|⟨_,hq⟩
    .exact absurd h0 he
    .exact hq
   have cc:¬(Z:Int)=0:=a7;unfold rnM at o;simp only[go_sem,q0,q1,q3,I,Q,j7,o,j,cc];refine⟨_,ai.refl _,?_⟩;simp only[go_sem];exact dY (w:=w) (e':=Z) (ad:=d) (bd:=L) (r:=N) h hs eY ⟨0,d,Z,w,eE.mke (by rw[<-V,ca];rfl) he,an,rfl,rfl,rfl⟩
  subst he
  have b8:dq p (aA p) inp fu n f L G ks=.ok v1 d:=by
   rcases hJ with⟨_,m,_,hq⟩|⟨h0,_⟩
   .rw[y9 a7]at hq
    cases m with
    |zero=>rw[dq]at hq;exact absurd hq az
    |succ m=>rw[dq]at hq;rw[hq];simp only[Rs.bind,s9]
   .exact absurd rfl h0
  rw[b8]at V;simp only[Rs.bind,Mn.tick]at V;have b6:=o;unfold rnM at o;simp only[go_sem,q0,q1,q3,I,Q,j7,o,j];refine dA aa rfl (by simp only[go_sem,q0];rw[<-j];exact Ds b6 h.sm.fu) ?_;rintro _ g2 bo ⟨rfl,rfl,rfl⟩;by_cases ht:d.tk<fu
  case neg=>
   rw[j9 ht]at V;rw[j9 ht];simp only[go_sem,rnM,q0,j];refine⟨_,ai.refl _,?_⟩;simp only[go_sem];exact dY (w:=w) (e':=5) (ad:=d) (bd:=L) (r:=N) h (runM (G:=d) (e:=0) h rfl ⟨rfl,rfl,rfl⟩ hs) eY ⟨0,d,5,w,eE.mke V.symm b9,an,rfl,rfl,rfl⟩
  rw[l9 ht]at V;rw[l9 ht];have cu:OkM p inp ⟨d.v,d.arrs,d.out,d.rd,d.tk+1⟩:=an;have bz:=runM (s:=⟨fs,g2,upd av 1024 (S (rnM p inp fu gV gA w ⟨d.v,d.arrs,d.out,d.rd,d.tk+1⟩ 0))⟩) (G:=d) (e:=0) (e2:=0) h rfl ⟨rfl,rfl,rfl⟩ hs;have b':=h.re cu bz (by omega:B<=B+58) (λi hi=>by simp only[upd];rw[j9 a7];exact bk i hi);simp only[go_sem,rnM,q0,A,q,j];refine dA aa rfl (by simp only[go_sem,q0,A,q];rw[<-j];exact hB gN v1 _ h.sm cy (by rw[V];exact u) b'.rd (B+58) g2 _ (B+41) _ a7 a7 a7 b'.free b'.sv (.inr ⟨by rw[cx],by simp only[upd];rw[j9 a7];exact x⟩)) ?_;rintro _ g3 b7 ⟨v,ad,e',y,A2,K2,rfl,r4⟩;simp only[go_sem];refine⟨_,ai.refl _,?_⟩;simp only[go_sem];refine dY (w:=y) (e':=e') (ad:=ad) (bd:=L) (r:=N) h (λi hi=>?_) eY ⟨v,ad,e',y,?_,K2,rfl,rfl,rfl⟩
  .obtain⟨a1,a2⟩:=r4 i a7
   obtain⟨b1,b2⟩:=bz i hi;simp only at b1 b2;refine⟨show g3 i=_ from ?_,show b7 i=_ from ?_⟩
   .rw[a1]
    simp only[upd]at b1|-;split
    .rfl
    .rename_i b4;rw[b1,j9 b4]
   .rw[a2]
    exact(congrArg (pS p inp fu gV gA y ad e' i) b2).trans (WA h.sm.a h.hX.1 h.hW.1)
  .rw[V]at A2
   unfold eE at A2|-;rw[l9 rfl]at A2|-;exact A2
end
end
section
section
variable(p:Src.Prog)(inp:Str)(fu gV gA:Nat)(gk:Nat->Nat)
def sf(f:Nat)(L:List Nat)(G:Sg)(s:Stm)(r:Rs (List Nat×Option Nat)):Prop:=∀(B:Nat)(g:Nat->Nat)(ob:Obs)(X W:Nat),FrM p inp fu gV gA gk B g ob X W f L G 0->
 gY Tryz.prog 141 [aj 1024 (g 1024) 0,aj X (g X) 0,smV s] g ob (RunT p inp fu gV gA X W f L r 0 G g ob)
def HS(n:Nat):Prop:=∀(f:Nat)(L:List Nat)(G:Sg)(s:Stm),Src.szS s<=1000000->evS p (aA p) inp fu n f L G s≠.no->sf p inp fu gV gA gk f L G s (evS p (aA p) inp fu n f L G s)
def HSs(n:Nat):Prop:=∀(f:Nat)(L:List Nat)(G:Sg)(a:Nat)(l:List Stm),Src.aN l<=1000000->(a=0->de p (aA p) inp fu n f L G l≠.no)->∀(B:Nat)(g:Nat->Nat)(ob:Obs)(X W:Nat),FrM p inp fu gV gA gk B g ob X W f L G a->
 gY Tryz.prog 79 [aj 1024 (g 1024) 0,aj X (g X) 0,fH l] g ob (RunT p inp fu gV gA X W f L (de p (aA p) inp fu n f L G l) a G g ob)
end
variable{r:Rs (List Nat×Option Nat)}{G H:Sg}{L bs:List Nat}{q:Option Nat}
section
variable{p:Src.Prog}{inp:Str}{fu gV gA:Nat}{gk:Nat->Nat}
def eT.ok{r:Rs (List Nat×Option Nat)}{G H:Sg}{L bs:List Nat}{q:Option Nat}(h:eT r 0 G L bs q H 0):r=.ok (bs,q) H:=by
 unfold eT at h;rw[l9 rfl]at h;cases r with
 |ok x=>obtain⟨rfl,rfl,rfl,_⟩:=h;rfl
 |en=>exact absurd h.2.2.symm h.1
 |no=>exact h.elim
def eT.en{r:Rs (List Nat×Option Nat)}{G H:Sg}{L bs:List Nat}{q:Option Nat}{e:Nat}(h:eT r 0 G L bs q H e)(a:e≠0):r=.en e H:=by
 unfold eT at h;rw[l9 rfl]at h;cases r with
 |ok=>exact absurd h.2.2.2 a
 |en=>obtain⟨_,rfl,rfl⟩:=h;rfl
 |no=>exact h.elim
def eT.mk(h:r=.ok (bs,q) H):eT r 0 G L bs q H 0:=by rw[h];exact⟨rfl,rfl,rfl,rfl⟩
def eT.mke{e:Nat}(h:r=.en e H)(a:e≠0):eT r 0 G L bs q H e:=by rw[h];exact⟨a,rfl,rfl⟩
section
variable{O:Bs}{rd:Option Nat}{Φ:St->Am.Loc->List Deferred->World->Prop}
def uT(a6:bp O Φ){o:Oper}{s:St}{K:St->Prop}{k:Box K}{args:Array Operand}{tys:Array TypeId}{a f B X W e1 j c:Nat}(ho:o.op=.call ⟨.value (.func a),args,tys⟩){xs:AV}{g:Nat->Nat}{ob:Obs}
 (l:∀(B:Nat)(g:Nat->Nat)(ob:Obs)(X W:Nat),FrM p inp fu gV gA gk B g ob X W f bs H e1->gY Tryz.prog a [aj 1024 (g 1024) 0,aj X (g X) 0,xs] g ob (RunT p inp fu gV gA X W f bs r e1 H g ob))(h:FrM p inp fu gV gA gk B g ob X W f L G j)(m:OkM p inp H)
 (I:args.toList.map s.ev=[aj 1024 (g 1024) 0,aj X (g X) 0,xs]){b:Nat}(d:∀i,i<B->s.gen i=upd g 1023 c i/\s.obj i=pT p inp fu gV gA X W f (g W) c H e1 bs N i (ob i))(hB:B<=b)(ar:∀i,b<=i->s.obj i=N){n:Nat}{t:fT}
 (u:∀bd q ad e' w,eT r e1 H bs bd q ad e'->OkM p inp ad->K (St.put ⟨s.f,upd s.gen 1023 w,λi=>pT p inp fu gV gA X W f (g W) w ad e' bd q i (s.obj i)⟩ o.dst uv)):bC (spF Tryz.prog rd O Φ n t) o s k:=by
 have U:=h.hB;have E:=h.hX;have J:=h.hW;have e:∀i,i<B->i≠1023->s.gen i=g i:=λi v x=>by rw[(d i v).1];exact j9 x
 refine dA a6 ho (by rw[I,<-e 1024 a7 b9,<-e X a7 a7];exact l b s.gen s.obj X W (h.re m d hB ar)) ?_;rintro _ _ _ ⟨bd,q,ad,e',w,y,A,rfl,rfl,rfl⟩;rw[e W a7 a7];exact u bd q ad e' w y A
end
def NW{n:Nat}(hS:∀m,m<n->HS p inp fu gV gA gk m):HSs p inp fu gV gA gk n:=by
 intro f L G e0 l hz u B g ob X W h;refine dj.toR (bZ B (SSM p X W) aO mixed Tryz.func79 rfl j4 [] rfl j0 j0 (by simp[Tryz.ntmps79]) (fJ h) h.free λO bn s0 w0=>?_);have al:=h.nes;have P:=h.rds;have hB:=h.hB;have hX:=h.hX;have bz:=Src.KR l;unfold fH;simp only[go_sem]
 refine aG (λmm K=>∃(k:Nat)(t:List Nat)(d:Sg)(Z:Nat)(E:Option Nat)(w:Nat),mm+k=z l/\OkM p inp d/\
  ((Z=0/\E=N/\e0=0/\∃m,m<=n/\de p (aA p) inp fu n f L G l=de p (aA p) inp fu m f t d (l.drop k))\/((Z≠0\/E≠N)/\eT (de p (aA p) inp fu n f L G l) e0 G L t E d Z))/\
  (∀i,i<B->K.gen i=upd g 1023 w i/\K.obj i=pT p inp fu gV gA X W f (g W) w d Z t E i (ob i))/\(∀i,B<=i->K.obj i=N)/\
  K.f 0=aj 1024 (g 1024) 0/\K.f 1=aj X (g X) 0/\K.f 2=.one (aq (l.map smD))/\K.f 6=ae k) (z l) ?_ ?_
 .refine⟨0,L,G,e0,N,g 1023,rfl,h.okm,?_,λi hi=>h.same i,h.free,?_⟩
  .by_cases x:e0=0
   .exact .inl ⟨x,rfl,x,n,l8 _,by rw[D7]⟩
   .exact .inr ⟨.inl x,by unfold eT;rw[j9 x];exact⟨rfl,rfl,rfl,rfl⟩⟩
  .exact gW
 rintro mm fs g1 av ⟨k,t,d,Z,E,w,hm,an,hJ,I,bk,V,Y,q2,q6⟩;simp only at I bk V Y q2 q6;have hw:=ah (k:=k) a7;have o:av 1024=S (rnM p inp fu gV gA w d Z):=by rw[(I 1024 a7).2];exact P.1 _ _ _ _ _ _
 have eX:av X=S (frM f W (g W) (z t) E):=by rw[(I X hX.2).2];exact P.2.2.2.2.2.1 _ _ _ _ _ _
 have j:g1 1024=g 1024:=by rw[(I 1024 a7).1];rfl
 have gX:g1 X=g X:=by rw[(I X hX.2).1];exact j9 a7
 unfold rnM at o;unfold frM at eX;rcases hJ with⟨rfl,rfl,a',m,c1,J⟩|⟨hJ,A⟩
 case inr=>
  have bl:∀ar,bB B (SSM p X W) g ob (RunT p inp fu gV gA X W f L (de p (aA p) inp fu n f L G l) e0 G g ob) ⟨ar,g1,av⟩ []:=λar=>
   dY (w:=w) (e':=Z) (ad:=d) (bd:=t) (r:=E) h I gK ⟨t,E,d,Z,w,A,an,rfl,rfl,rfl⟩
  by_cases af:k<z l
  .have Q:(k:Int)<(z l:Int):=a7
   by_cases x:Z=0
   .obtain⟨v,rfl⟩:∃v,E=S v:=by
     cases E with
     |none=>rcases hJ with U|U<;>exact absurd (by first|exact x|rfl) U
     |some v=>exact⟨v,rfl⟩
    subst x;simp only[go_sem,V,Y,q2,q6,j7,Q,o,eX,j,gX,C9];exact⟨_,ai.refl _,bl _⟩
   .have cc:¬(Z:Int)=0:=a7
    simp only[go_sem,V,Y,q2,q6,j7,Q,o,eX,j,gX,cc];exact⟨_,ai.refl _,bl _⟩
  .have Q:¬(k:Int)<(z l:Int):=a7
   simp only[go_sem,V,Y,q2,q6,j7,Q,o,eX,j,gX];exact⟨_,ai.refl _,bl _⟩
 have s:=u a';rw[J]at s;by_cases af:k<z l
 case neg=>
  have Q:¬(k:Int)<(z l:Int):=a7;simp only[go_sem,V,Y,q2,q6,j7,Q,o,eX,j,gX]
  have hA:eT (de p (aA p) inp fu n f L G l) e0 G L t N d 0:=by
   rw[a'];refine eT.mk ?_;rw[J,y9 a7];rw[y9 a7]at s;cases m with
   |zero=>rw[de]at s;exact absurd rfl s
   |succ m=>rw[de]
  exact⟨_,ai.refl _,dY (w:=w) (e':=0) (ad:=d) (bd:=t) (r:=N) h I gK ⟨t,N,d,0,w,hA,an,rfl,rfl,rfl⟩⟩
 have Q:(k:Int)<(z l:Int):=a7;have bf:(0:Int)<=(k:Int):=a7;obtain⟨a,ha⟩:=getq af;have cb:=getD_at (f:=smD) ha;have b:Src.szS a<=1000000:=D0 (Src.OA (l7 ha)) hz;rw[dk ha]at J s;cases m with
 |zero=>rw[de]at s;exact absurd rfl s
 |succ m=>
   rw[de]at J s;have bo:evS p (aA p) inp fu m f t d a≠.no:=λe=>by rw[e]at s;exact s rfl
   simp only[go_sem,V,Y,q2,q6,j7,Q,bf,o,eX,j,gX,cb,E4];refine⟨me a,F7 (me a).symm,?_⟩;refine uT (c:=w) (e1:=0) (bs:=t) aa rfl (hS m a7 f t d a b bo) h an (by simp only[go_sem,V,Y,GK];rfl) I (l8 B) bk λbd q ad e' y A1 K1=>?_;simp only[go_sem,q6,hw];refine ao (mm-1) a7 ⟨k+1,bd,ad,e',q,y,a7,K1,?_,λi hi=>?_,λi hi=>?_,?_⟩
   .by_cases x:e'=0
    .subst x
     rw[A1.ok]at J;cases q with
     |none=>exact .inl ⟨rfl,rfl,a',m,a7,J⟩
     |some v=>exact .inr ⟨.inr a8,by rw[a'];exact eT.mk J⟩
    .rw[A1.en x]at J
     exact .inr ⟨.inl x,by rw[a'];exact eT.mke J x⟩
   .obtain⟨a1,a2⟩:=I i hi
    simp only[upd]at a1|-;rw[a1,a2,Bu];refine⟨?_,rfl⟩;split<;>rfl
   .simp only
    rw[h.hi hi];exact bk i hi
   .simp only[go_sem,V,Y,q2]
def SvM.congr{g g2:Nat->Nat}{ob c:Obs}{G:Sg}{e:Nat}(d:z p.a<=900)(h:SvM p inp fu gV gA gk g ob G e)(b:∀i,i<3000->g2 i=g i/\c i=ob i):SvM p inp fu gV gA gk g2 c G e:=by
 refine⟨λi=>?_,by rw[(b _ a7).1];exact h.gv,by rw[(b _ a7).1];exact h.ga,by rw[(b _ a7).2];exact h.ar,λk f=>by rw[(b _ a7).1];exact h.gk k f,h.vl,h.al⟩;by_cases j:i<3000
 .rw[(b i j).2,(b 1023 a7).1];exact h.fix i
 .exact(se d (.inl a7)).symm
def RX{B w e i:Nat}{G:Sg}{o:Option (List C)}{cells:List C}(hB:3000<=B)(f:i=1024\/i=1023\/i=1022\/(2000<=i/\i<2000+z p.a))(Z:pS p inp fu gV gA w G e i o=S cells):∀c∈cells,lV B c:=by
 have d:∀l:List Nat,∀c∈wM l,lV B c:=λl c Z=>by obtain⟨b,_,rfl⟩:=D6.1 Z;trivial
 intro c E;unfold pS at Z;split at Z
 .exact Vx
 split at Z
 .cases Z
  obtain⟨b,_,rfl⟩:=D6.1 E;trivial
 split at Z
 .cases Z;exact d _ c E
 split at Z
 .cases Z;exact d _ c E
 .omega
def RY{n:Nat}(hS:HSs p inp fu gV gA gk n):HB p inp fu gV gA gk (n+1):=by
 intro f vs G sm b0 u b7 B g ob A h hB hA cm bk sv cb;obtain⟨fn,E⟩:∃fn,p.f[f]?=S fn:=⟨_,v8 b0⟩
 obtain⟨ch,cd,o⟩:=sm.fn fn (l7 E);obtain⟨r,V⟩:∃r,evB p (aA p) inp fu (n+1) f vs G=r:=⟨_,rfl⟩
 rw[V]at u|-;rw[evB,E]at V;simp only[Mn.need]at V;by_cases b':z vs=z fn.p
 case neg=>rw[j9 b']at V;exact absurd V.symm u
 rw[l9 b']at V;have bo:=sm.a;have bf:=getD_at (f:=fnD) E;rw[show fnD fn=[.str fn.name,.sl (fn.p.map λs=>[.str s]),.sl (fn.l.map λs=>[.str s]),.bool fn.word,.sl (fn.body.map smD)]from rfl]at bf;have y:(f:Int)<(z p.f:Int):=a7;have ca:(0:Int)<=(f:Int):=a7;have Y:ob 1024=S (rnM p inp fu gV gA (g 1023) G 0):=sv.fix 1024
 obtain⟨W,L,X⟩:∃W L,(W=B+25/\L=1024/\vs=[]/\h=.one (.d .nsl))\/(W=A/\L=A/\h=dL A (g A) 1 0 (z vs)/\ob A=S (wM vs)):=by
  rcases cb with⟨U,h2⟩|⟨U,h2⟩
  .exact⟨_,_,.inl ⟨rfl,rfl,U,h2⟩⟩
  .exact⟨_,_,.inr ⟨rfl,rfl,U,h2⟩⟩
 have cu:(W=B+25/\L=1024)\/(W=A/\L=A):=by rcases X with U|U<;>omega
 have cv:3000<=W/\W<B+46/\W≠B+29/\W≠B+24:=by rcases X with U|U<;>omega
 have w1:(W=B+24)=False:=by simp;omega
 have w2:(B+24=W)=False:=by simp;omega
 have w3:(W=B+29)=False:=by simp;omega
 have w4:(B+29=W)=False:=by simp;omega
 have n1:=λk=>NR (B:=B) (a:=1024) a7 k;have n2:=λk=>NS (B:=B) (a:=1024) a7 k;have n3:(W=1024)=False:=by simp;omega
 have n4:(1024=W)=False:=by simp;omega
 obtain⟨ar,H⟩:∃ar:List Nat,ar=SSM p L L:=⟨_,rfl⟩
 have af:∀i∈ar,i<B:=λi hi=>by
  rw[H]at hi;exact tp
 refine dj.toR (bZ B ar aO mixed Tryz.func50 rfl j4 [.tmp 6] rfl j0 j0 (by simp[Tryz.ntmps50]) af bk λO bn s0 w0=>?_)
 -- c8 words,v an object,at c8 b8 head
 have al:∃s1,ai ⟨upd (upd (dE [aj 1024 (g 1024) 0,ae f,h]) 6 (iv .u32 0)) 7 (ae 0),g,ob⟩ s1/\s1.f 0=aj 1024 (g 1024) 0/\s1.f 1=ae f/\s1.f 7=ae 0/\s1.f 2=dL W (s1.gen W) 1 0 (z vs)/\s1.obj W=S (wM vs)/\(∀i,i<B->i≠W->s1.gen i=g i/\s1.obj i=ob i)/\∀i,B+46<=i->s1.obj i=N:=by
  rcases X with⟨rfl,rfl,rfl,rfl⟩|⟨rfl,rfl,rfl,ho⟩
  .refine⟨_,pL (t:=2) (id:=B+25) (sz:=1) rfl,rfl,rfl,rfl,?_,?_,λi hi hn=>?_,λi hi=>?_⟩
   .simp[St.grab,upd]
   .simp[St.grab,upd,wM]
   .simp only[St.grab,upd];rw[j9 hn,j9 hn];exact⟨rfl,rfl⟩
   .simp only[St.grab,upd];rw[j9 a7];exact bk i a7
  .exact⟨_,ai.refl _,rfl,rfl,rfl,rfl,ho,λi _ _=>⟨rfl,rfl⟩,λi hi=>bk i a7⟩
 obtain⟨s1,hv,p0,p1,p7,p2,pW,ps,pf⟩:=al;simp only[go_sem];refine mQ s1 hv (λm K=>∃k,m+k=z fn.l/\K.f 0=aj 1024 (g 1024) 0/\K.f 1=ae f/\K.f 7=ae k/\(∀i,i<B->i≠W->K.gen i=g i/\K.obj i=ob i)/\(∀i,B+46<=i->K.obj i=N)/\K.f 2=dL W (K.gen W) 1 0 (z vs+k)/\K.obj W=S (wM (vs++List.replicate k 0))) (z fn.l) ?_ ?_
 .exact⟨0,rfl,p0,p1,p7,ps,pf,p2,by rw[L6,s9];exact pW⟩
 clear hv p0 p1 p7 p2 pW ps pf s1;rintro m fs g1 av ⟨k,hm,q0,q1,q7,hs,az,q2,oW⟩;simp only at q0 q1 q7 hs az q2 oW;have hw:=ah (k:=k) a7;have b1:av 1024=S (rnM p inp fu gV gA (g 1023) G 0):=by rw[(hs 1024 a7 a7).2];exact Y
 have bz:=(hs 1024 a7 a7).1;unfold rnM at b1;have b5:z (vs++List.replicate k 0)=z vs+k:=a8;by_cases bs:k<z fn.l
 .have Q:(k:Int)<(z fn.l:Int):=a7
  have b3:=wx (vs++List.replicate k 0);simp only[go_sem,q0,q1,q2,q7,b1,bz,j7,y,ca,bf,Q,hw,ba,oW,b3,b5,w1,w2];refine⟨l8 _,⟨b9,a7⟩,?_⟩;refine ao (m-1) a7 ⟨k+1,a7,?_⟩;simp only[go_sem,q0,q1,q7];refine⟨λi hi hA=>?_,λi hi=>?_,rfl,?_⟩
  .rw[j9 hA,j9 a7,j9 hA,j9 a7]
   exact hs i hi hA
  .rw[j9 a7,j9 a7]
   exact az i hi
  .rw[s7 a7,List.replicate_succ',<-v7]
   simp[wM]
 .have Q:¬(k:Int)<(z fn.l:Int):=a7
  obtain rfl:k=z fn.l:=a7;simp only[go_sem,q0,q1,q2,q7,b1,bz,j7,y,ca,bf,Q,n1,n2,w3,w4];have cc:de p (aA p) inp fu n f (vs++List.replicate (z fn.l) 0) G fn.body≠.no:=λe=>by rw[e]at V;exact u V.symm
  obtain⟨x,I⟩:∃x,nxC 169 (g1 (B+29))=x:=⟨_,rfl⟩
  have e1:upd g1 (B+29) x (B+29)=x:=l9 rfl;have e2:upd g1 (B+29) x 1024=g 1024:=(j9 a7).trans bz
  have hF:FrM p inp fu gV gA gk (B+46) (upd g1 (B+29) x) (upd av (B+29) (S (frM f W (g1 W) (z vs+z fn.l) N))) (B+29) W f (vs++List.replicate (z fn.l) 0) G 0:=
   ⟨a7,sm,⟨fn,E⟩,a7,a7,a7,λi hi=>by simp only[upd];rw[j9 a7];exact az i hi,sv.congr bo λi hi=>by simp only[upd];rw[j9 a7,j9 a7];exact hs i a7 a7,by simp only[upd,w3,B5,B1,b5],by simp only[upd,w3,B1];exact oW,b7⟩
  have a':=hS f (vs++List.replicate (z fn.l) 0) G 0 fn.body o (λ_=>cc) (B+46) _ _ (B+29) W hF;rw[e1,e2]at a';rw[I];refine dA aa rfl (by simp only[go_sem,q0];exact a') ?_;rintro _ _ _ ⟨bd,q,ad,e',w,A1,K1,rfl,rfl,rfl⟩;obtain⟨_,_,_,_,_,P,_⟩:=hF.rds;have cf:upd g1 (B+29) x W=g1 W:=j9 a7;rw[cf]at P|-;have z1:(B+29=1023)=False:=by simp;omega
  simp only[go_sem,P,frM,e1,z1];refine⟨_,ai.refl _,?_⟩;simp only[go_sem]
  have j:∀i,i<B->i≠W->upd (upd g1 (B+29) x) 1023 w i=upd g 1023 w i/\pT p inp fu gV gA (B+29) W f (g1 W) w ad e' bd q i (upd av (B+29) (S (frM f W (g1 W) (z vs+z fn.l) N)) i)=pS p inp fu gV gA w ad e' i (ob i):=λi hi hn=>by
   obtain⟨a1,a2⟩:=hs i hi hn;refine⟨?_,?_⟩
   .simp only[upd]
    split
    .rfl
    .rw[j9 a7];exact a1
   .unfold pT
    rw[j9 hn,j9 a7];congr 1;simp only[upd];rw[j9 a7];exact a2
  have bl:∀i,i∈ar->i≠W->i=1024\/i=1023\/i=1022\/(2000<=i/\i<2000+z p.a):=λi hi hn=>by
   rw[H]at hi;exact tp
  have J:∀i,i∉ar->i≠1024/\i≠1023/\i≠1022/\i≠L/\¬(2000<=i/\i<2000+z p.a):=λi hi=>by
   rw[H]at hi;simp only[SSM,C1,A0,B3,F2,D6,D4,Q2]at hi;obtain⟨⟨a1,a2,a3,a4,_⟩,a6⟩:=hi;exact⟨a1,a2,a3,a4,λhq=>a6 ⟨i-2000,a7,a7⟩⟩
  have b6:∀i,i∉ar->pS p inp fu gV gA w ad e' i (ob i)=ob i:=λi hi=>by
   obtain⟨a1,a2,a3,_,a5⟩:=J i hi;unfold pS;rw[j9 a1,j9 a2,j9 a3,j9 a5]
  refine⟨⟨λi hi hn=>?_,λi hi cells Z=>?_⟩,[iv .u32 (q.getD 0:Nat)],eY,q.getD 0,ad,e',w,?_,K1,rfl,λi cx=>⟨?_,?_⟩⟩
  .obtain⟨_,b2,_,b4,_⟩:=J i hn
   obtain⟨a1,a2⟩:=j i hi a7;exact⟨a1.trans (j9 b2),a2.trans (b6 i hn)⟩
  .by_cases hW:i=W
   .have Z:pT p inp fu gV gA (B+29) W f (g1 W) w ad e' bd q i (upd av (B+29) (S (frM f W (g1 W) (z vs+z fn.l) N)) i)=S cells:=Z
    unfold pT at Z;rw[l9 hW]at Z;cases Z;intro c Z;obtain⟨b,_,rfl⟩:=D6.1 Z;trivial
   .exact RX hB (bl i hi hW) ((j i (af i hi) hW).2.symm.trans Z)
  .by_cases he:e'=0
   .subst he
    exact eE.mk (by rw[<-V,A1.ok];rfl)
   .exact V9
  .unfold jP
   split
   .rename_i hi
    exact(j i (af i hi) (by have:=af i hi;omega)).1
   .rename_i hi
    exact(j9 (J i hi).2.1).symm
  .unfold fN
   split
   .rename_i hi
    exact(j i (af i hi) (by have:=af i hi;omega)).2
   .rename_i hi
    exact(b6 i hi).symm
end
end
section
variable{B:Nat}{g:Nat->Nat}{ob:Obs}{L:List Nat}{G:Sg}{m el:List Stm}{r:Rs (List Nat×Option Nat)}
section
variable{p:Src.Prog}{inp:Str}{fu gV gA:Nat}{gk:Nat->Nat}
def RZ{X W f a w e e2 j:Nat}{y:List C}{L bd Q:List Nat}{b G a6:Sg}{q q2:Option Nat}{s:St}{l:Obs}(h:FrM p inp fu gV gA gk B g ob X W f L b a)(c:s.obj=upd l j (S y))(U:∀o,pT p inp fu gV gA X W f (g W) w a6 e2 Q q2 j o=S y)
 (d:∀i o,i≠j->pT p inp fu gV gA X W f (g W) w a6 e2 Q q2 i o=pT p inp fu gV gA X W f (g W) w G e bd q i o)(k:∀i,i<B->s.gen i=upd g 1023 w i/\l i=pT p inp fu gV gA X W f (g W) w G e bd q i (ob i)):∀i,i<B->s.gen i=upd g 1023 w i/\s.obj i=pT p inp fu gV gA X W f (g W) w a6 e2 Q q2 i (ob i):=λi m=>by
 obtain⟨n,t⟩:=k i m;refine⟨n,?_⟩;rw[c];simp only[upd];split
 .rename_i e;subst e;exact(U _).symm
 .rename_i e;rw[t,d i _ e]
def WB{X W f e e':Nat}{L bd:List Nat}{G ad:Sg}{r:Option Nat}{s:St}{R:AV->(Nat->Nat)->Obs->Prop}{j rs:List AV}(h:FrM p inp fu gV gA gk B g ob X W f L G e)
 (b:∀i,i<B->i≠1023->s.gen i=g i)(ho:∀i,i<B->s.obj i=pT p inp fu gV gA X W f (g W) (s.gen 1023) ad e' bd r i (ob i))(c:eH B s j rs)(d:∀w,R (pack rs) (upd g 1023 w) (λi=>pT p inp fu gV gA X W f (g W) w ad e' bd r i (ob i))):bB B (SSM p X W) g ob R s j:=
 dY (w:=s.gen 1023) h (λi a=>⟨by
  simp only[upd];split
  .rename_i e;rw[e]
  .rename_i e;exact b i a e,ho i a⟩) c (d _)
def FrM.frX{X W f e:Nat}(h:FrM p inp fu gV gA gk B g ob X W f L G e):ob X=S [ag (f:Nat),.osl W (g W) 1 0 (z L),bE F,.d (.int .u32 ((0:Nat):Nat))]:=h.frm
def Ic{n f:Nat}{b:Str}{a:Ex}(hE:HE p inp fu gV gA gk n)(hz:Src.szE a<=1000000)(V:(evE p (aA p) inp fu n f L G a).bind (λv H=>Mn.CG (aA p f b) L H v)=r)(u:r≠.no):sf p inp fu gV gA gk f L G (.mk 1 b [a] m el) r:=by
 intro B g ob X W h;refine dj.toR (bZ B (SSM p X W) aO mixed Tryz.func141 rfl j4 [] rfl j0 j0 YI (fJ h) h.free λO bn s0 w0=>?_);have al:=h.nes;have P:=h.rds;have hB:=h.hB;have ar:=h.frX;obtain⟨fn,E⟩:=h.fn;obtain⟨ch,cd,_⟩:=h.sm.fn fn (l7 E);have s:=wv p h.sm.v Zk h.sm.f f fn E ch cd b;rw[bO]at s;rw[pG];have bo:evE p (aA p) inp fu n f L G a≠.no:=λe=>by rw[e]at V;exact u V.symm
 simp only[go_sem,s6,x7];refine⟨bq a,F7 (bq a).symm,?_⟩;refine kr aa rfl hE h hz (λ_=>bo) X1 loM (by omega:B<=B+251) (λi hi=>by simp only[upd];(repeat rw[j9 (by omega)]);exact h.free i (by omega)) λK H e1 c A1 K1=>?_;by_cases he:e1=0
 case neg=>
  exact sT
 subst he;rw[A1.ok]at V;simp only[Rs.bind,Mn.CG]at V;cases A:aA p f b with
 |none=>rw[A]at V;exact absurd V.symm u
 |some t=>
   obtain⟨k,j⟩:=t;rw[A]at V;simp only at V;rw[Kk E b A]at s;simp only at s;have Q:(0:Int)<=(j:Int):=a7;simp only[go_sem,al,P,rnM];refine cB aO mixed aa [] [([0],[],[],F),([33],[],[],F),([34],[],[],F),([35],[],[],F),([1],[],[],F),([37],[],[],F),([38],[],[],F),([39],[],[],F),([5],[],[],F),([41],[],[],F),([36,40,42],[],[],F),([43],[],[],F),([32],[],[],F),([32],[],[],F),([44],[],[],F),([45],[],[],T)] 0 rfl c9 rfl b9 ?_;simp only[go_sem]
   iterate 10 (apply aw;(case hg=>first|exact y8|exact⟨_,rfl,by decide,rfl⟩);(case U=>intro Z ga oa x J;simp only[go_sem,rnM,frM,al,P]at J|-;exact J))
   refine aw (v:=.tup [ae (k:Nat),ae (j:Nat)]) y8 (λZ ga oa x J=>?_) ?_
   .simp only[go_sem]at J|-
    refine qg aa rfl s XD (B:=B+251) (λi hi=>by simp only[upd];(repeat first|rw[j9 (by omega)]|rw[h.hi (by omega)]);exact h.free i (by omega)) ?_;exact lv
   iterate 4 (apply aw;(case hg=>first|exact y8|exact⟨_,rfl,by decide,rfl⟩);(case U=>intro Z ga oa x J;simp only[go_sem]at J|-;exact J))
   refine cC y8 ?_;intro x a';simp only[go_sem];refine a' _ ?_;clear a' x;by_cases U:k=1
   .subst U
    rw[l9 rfl]at V;by_cases hi:j<z L
    case neg=>rw[j9 hi]at V;exact absurd V.symm u
    rw[l9 hi]at V;have y:(j:Int)<(z L:Int):=a7;have I:=wx L;simp only[go_sem,frM,al,P,Q,y,I];refine⟨a7,?_⟩;refine⟨_,ai.refl _,?_⟩;simp only[go_sem];refine dY (w:=c) (e':=0) (ad:=H) (bd:=L.set j K) (r:=N) h (RZ (G:=H) (e:=0) (bd:=L) (q:=N) (j:=W) h rfl (λo=>?_) (λi o d=>?_) loM) gK ⟨_,N,H,0,c,eT.mk V.symm,K1,rfl,rfl,rfl⟩
    .rw[P.2.2.2.2.2.2]
     simp[wM,N4]
    .unfold pT
     rw[j9 d,j9 d,C4]
   .rw[j9 U]at V
    by_cases h2:k=2
    case neg=>rw[j9 h2]at V;exact absurd V.symm u
    subst h2;rw[l9 rfl]at V;by_cases hi:j<z H.v
    case neg=>rw[j9 hi]at V;exact absurd V.symm u
    rw[l9 hi]at V;have b':=K1.1;have l:=h.sv.gv;have y:(j:Int)<(z p.v:Int):=a7;have I:=wx H.v;simp only[go_sem,rnM,al,P,Q,y,I,l];refine⟨a7,?_⟩;refine⟨_,ai.refl _,?_⟩;simp only[go_sem];refine dY (w:=c) (e':=0) (ad:=⟨H.v.set j K,H.arrs,H.out,H.rd,H.tk⟩) (bd:=L) (r:=N) h (RZ (G:=H) (e:=0) (bd:=L) (q:=N) (j:=1022) h rfl (λo=>?_) (λi o d=>?_) loM) gK ⟨L,N,_,0,c,eT.mk V.symm,⟨by simp only[C4];exact b',K1.2.1,K1.2.2⟩,rfl,rfl,rfl⟩
    .rw[P.2.2.1]
     simp[wM,N4]
    .unfold pT pS
     rw[j9 d,j9 d];rfl
def Ie{n f:Nat}{o:Str}{a:Ex}(q:HE p inp fu gV gA gk n)(s:Src.szE a<=1000000)(V:(evE p (aA p) inp fu n f L G a).bind (λv H=>Mn.HQ L H v)=r)(u:r≠.no):sf p inp fu gV gA gk f L G (.mk 3 o [a] m el) r:=by
 intro B g ob X W h;refine dj.toR (bZ B (SSM p X W) aO mixed Tryz.func141 rfl j4 [] rfl j0 j0 YI (fJ h) h.free λO A E I=>?_);have al:=h.nes;have P:=h.rds;have hB:=h.hB;rw[pG];have t:evE p (aA p) inp fu n f L G a≠.no:=λe=>by rw[e]at V;exact u V.symm
 simp only[go_sem,s6,x7];refine⟨bq a,F7 (bq a).symm,?_⟩;refine kr aa rfl q h s (λ_=>t) X1 loM (by omega:B<=B+251) (λi hi=>by simp only[upd];(repeat rw[j9 (by omega)]);exact h.free i (by omega)) λj H e1 c A1 K1=>?_;by_cases he:e1=0
 case neg=>
  exact sT
 subst he;rw[A1.ok]at V;simp only[Rs.bind,Mn.HQ]at V;have x:=Kf H.out;by_cases hl:65536<=z H.out
 .rw[l9 hl]at V
  have l:(65536:Int)<=(z H.out:Int):=a7;simp only[go_sem,al,P,rnM,l];refine⟨_,ai.refl _,?_⟩;simp only[go_sem];exact dY (w:=c) (e':=4) (ad:=H) (bd:=L) (r:=N) h (runM (G:=H) (e:=0) h rfl ⟨rfl,rfl,rfl⟩ loM) gK ⟨L,N,H,4,c,eT.mke V.symm b9,K1,rfl,rfl,rfl⟩
 .rw[j9 hl]at V
  have l:¬(65536:Int)<=(z H.out:Int):=a7;have b:IntKind.u8.wrap ((j:Nat):Int)=(((UInt8.ofNat j).toNat:Nat):Int):=by rw[IntKind.wrap_u8,M3];omega
  simp only[go_sem,al,P,rnM,l,b,x,ba];refine⟨l8 _,⟨b9,a7⟩,?_⟩;refine⟨_,ai.refl _,?_⟩;simp only[go_sem];refine WB (ad:=⟨H.v,H.arrs,H.out++[UInt8.ofNat j],H.rd,H.tk⟩) (e':=0) (bd:=L) (r:=N) h (λi hi y=>?_) (λi hi=>?_) gK λw=>⟨L,N,_,0,w,eT.mk V.symm,K1,rfl,rfl,rfl⟩
  .have hk:∀k,(i=B+k)=False:=λk=>by simp;omega
   simp only[upd,hk,y,B1]
  .have hk:∀k,(i=B+k)=False:=λk=>by simp;omega
   by_cases U:i=1024
   .subst U
    rw[P.1];simp only[upd,B5,B1,rnM,j8];rfl
   by_cases d:i=1023
   .subst d
    rw[P.2.1];simp only[upd,B5,B1,hk,U,bM,A8];rw[s7 a8];rfl
   .simp only[upd,B5,B1,hk,U,d]
    unfold pT pS;rw[j9 U,j9 d,j9 U,j9 d]
end
end
section
variable{L:List Nat}{G:Sg}{nm:Str}{th el:List Stm}{r:Rs (List Nat×Option Nat)}{n f:Nat}{ks:List Ex}
section
variable{p:Src.Prog}{inp:Str}{fu gV gA:Nat}{gk:Nat->Nat}
def yS{a b:Ex}(hE:HE p inp fu gV gA gk n)(hz:Src.szE a<=1000000/\Src.szE b<=1000000)(V:(evE p (aA p) inp fu n f L G a).bind (λj H=>(evE p (aA p) inp fu n f L H b).bind λv a6=>Mn.qK (aA p f nm) L a6 j v)=r)(u:r≠.no)(h3:∀k i,aA p f nm=S (k,i)->k=3->i<z p.a):sf p inp fu gV gA gk f L G (.mk 2 nm [a,b] th el) r:=by
 intro B g ob X W h;refine dj.toR (bZ B (SSM p X W) aO mixed Tryz.func141 rfl j4 [] rfl j0 j0 YI (fJ h) h.free λO bn s0 w0=>?_);have al:=h.nes;have P:=h.rds;have hB:=h.hB;have Y:=h.run;have ar:=h.frX;obtain⟨fn,E⟩:=h.fn;obtain⟨ch,cd,_⟩:=h.sm.fn fn (l7 E);have K:=wv p h.sm.v Zk h.sm.f f fn E ch cd nm;rw[bO]at K;unfold rnM at Y;rw[pG];have bo:evE p (aA p) inp fu n f L G a≠.no:=λe=>by rw[e]at V;exact u V.symm
 obtain⟨⟨kd,i⟩,b0⟩:∃q:Int×Int,dX p fn nm=q:=⟨_,rfl⟩
 rw[b0]at K;simp only at K;simp only[go_sem,Y,al];refine cB aO mixed aa [] [([0],[],[],F),([65],[],[],F),([66],[],[],F),([67],[],[],F),([1],[],[],F),([69],[],[],F),([70],[],[],F),([71],[],[],F),([5],[],[],F),([73],[],[],F),([68,72,74],[],[],F),([75],[],[],F),([64],[],[],F),([64],[],[],F),([76],[],[],F),([77],[],[],T)] 0 rfl c9 rfl b9 ?_;simp only[go_sem]
 iterate 10 (apply aw;(case hg=>first|exact y8|exact⟨_,rfl,by decide,rfl⟩);(case U=>intro fa ga oa K' J;simp only[go_sem,Y,ar,al]at J|-;exact J))
 refine aw (v:=.tup [ae kd,ae i]) y8 (λfa ga oa K' J=>?_) ?_
 .simp only[go_sem]at J|-
  refine qg aa rfl K XD (B:=B+251) (λi hi=>by simp only[upd];(repeat rw[j9 (by omega)]);exact h.free i (by omega)) ?_;exact lv
 iterate 4 (apply aw;(case hg=>first|exact y8|exact⟨_,rfl,by decide,rfl⟩);(case U=>intro fa ga oa K' J;simp only[go_sem]at J|-;exact J))
 refine cC y8 ?_;intro K' a';simp only[go_sem];refine a' _ ?_;clear a' K';simp only[go_sem,s6,x7];refine⟨bq a,F7 (bq a).symm,?_⟩;refine kr aa rfl hE h hz.1 (λ_=>bo) X1 loM (by omega:B<=B+251) (λi hi=>by simp only[upd];(repeat rw[j9 (by omega)]);exact h.free i (by omega)) λs H e1 c A1 K1=>?_
 have m:e1=0->evE p (aA p) inp fu n f L H b≠.no:=λe hq=>by
  subst e;rw[A1.ok]at V;simp only[Rs.bind,hq]at V;exact u V.symm
 simp only[go_sem,al,P,s6,x7];refine⟨bq b,F7 (bq b).symm,?_⟩;refine nH (c:=c) (e1:=e1) (bs:=L) aa rfl hE h K1 hz.2 m X1 loM (by omega:B<=B+251) (λi hi=>by simp only[upd];(repeat first|rw[j9 (by omega)]|rw[h.hi (by omega)]);exact h.free i (by omega)) λd a6 e2 I A2 A=>?_;by_cases he:e2=0
 case neg=>
  have hi:¬(e2:Int)=0:=a7;simp only[go_sem,al,P,rnM,hi];refine⟨_,ai.refl _,?_⟩;simp only[go_sem];refine dY (w:=I) (e':=e2) (ad:=a6) (bd:=L) (r:=N) h loM gK ⟨L,N,a6,e2,I,eT.mke ?_ he,A,rfl,rfl,rfl⟩;exact Vr
 subst he
 obtain⟨U,h2⟩:evE p (aA p) inp fu n f L G a=.ok s H/\evE p (aA p) inp fu n f L H b=.ok d a6:=by
  exact Xj
 rw[U]at V;simp only[Rs.bind,h2,Mn.qK]at V;cases ht:aA p f nm with
 |none=>rw[ht]at V;exact absurd V.symm u
 |some t=>
   obtain⟨k,j⟩:=t;rw[ht]at V;simp only at V;by_cases hk:k=3
   case neg=>rw[j9 hk]at V;exact absurd V.symm u
   subst hk;rw[l9 rfl]at V;by_cases hv:s<4294967296
   case neg=>rw[j9 hv]at V;exact absurd V.symm u
   rw[l9 hv]at V;rw[Kk E nm ht]at b0;cases b0;have hj:=h3 _ _ ht rfl;cases hl:a6.arrs[j]? with
   |none=>rw[hl]at V;exact absurd V.symm u
   |some l=>
     rw[hl]at V;obtain⟨Q,q1,q2,q3,q4,q5,q6,q7,q8⟩:=h.arr hj;have bz:=A.2.1.2 j l hl;have bl:=h.sm.az j;have cv:(0:Int)<=(j:Int):=a7;have y:(j:Int)<(z p.a:Int):=a7;have w1:IntKind.u64.wrap ((s:Nat):Int)=(s:Int):=by rw[IntKind.wrap_u64];omega
     have w2:IntKind.u64.wrap ((alM p j:Nat):Int)=(alM p j:Int):=by rw[IntKind.wrap_u64];omega
     have b3:=wx l;simp only[Mn.need]at V;by_cases af:s<z l
     .rw[l9 af]at V
      have Z:¬(alM p j:Int)<=(s:Int):=a7;have b1:(0:Int)<=(s:Int):=a7;have cx:(s:Int)<(alM p j:Int):=a7;simp only[go_sem,al,P,rnM,Q,q1,q2,q3,q4,q5,q6,q7,q8,cv,y,w1,w2,Z,b1,cx,hl,A6,b3];refine⟨a7,?_⟩;refine⟨_,ai.refl _,?_⟩;simp only[go_sem];refine dY (w:=I) (e':=0) (ad:=⟨a6.v,a6.arrs.set j (l.set s d),a6.out,a6.rd,a6.tk⟩) (bd:=L) (r:=N) h (RZ (G:=a6) (e:=0) (bd:=L) (q:=N) (j:=2000+j) h rfl (λo=>?_) (λi o hn=>?_) loM) gK ⟨L,N,_,0,I,eT.mk V.symm,⟨A.1,⟨by simp only[C4];exact A.2.1.1,λi l' x=>?_⟩,A.2.2⟩,rfl,rfl,rfl⟩
      .rw[Q]
       simp only[C0,B5];rw[l9 (l6.1 hl).1];simp[wM,N4]
      .unfold pT pS
       simp only[C0];by_cases hi:2000<=i/\i<2000+z p.a
       .rw[j9 (show ¬j=i-2000 by omega)];rfl
       .rw[j9 hi,j9 hi];rfl
      .simp only[C0]at x
       by_cases e:j=i
       .subst e
        rw[l9 rfl,l9 (l6.1 hl).1]at x;cases x;rw[C4];exact bz
       .rw[j9 e]at x
        exact A.2.1.2 i l' x
     .rw[j9 af]at V
      have Z:(alM p j:Int)<=(s:Int):=a7;simp only[go_sem,al,P,rnM,Q,q1,q2,q3,q4,q5,q6,q7,q8,cv,y,w1,w2,Z];refine⟨_,ai.refl _,?_⟩;simp only[go_sem];exact dY (w:=I) (e':=3) (ad:=a6) (bd:=L) (r:=N) h (runM (G:=a6) (e:=0) h rfl ⟨rfl,rfl,rfl⟩ loM) gK ⟨L,N,a6,3,I,eT.mke V.symm b9,A,rfl,rfl,rfl⟩
def Zu{a:Ex}(I:HE p inp fu gV gA gk n)(x:HSs p inp fu gV gA gk n)(j:Src.szE a<=1000000/\Src.aN th<=1000000/\Src.aN el<=1000000)(V:(evE p (aA p) inp fu n f L G a).bind (λv H=>if v=0 then de p (aA p) inp fu n f L H el else de p (aA p) inp fu n f L H th)=r)(u:r≠.no):sf p inp fu gV gA gk f L G (.mk 4 nm [a] th el) r:=by
 intro B g ob X W h;refine dj.toR (bZ B (SSM p X W) aO mixed Tryz.func141 rfl j4 [] rfl j0 j0 YI (fJ h) h.free λO Q U Z=>?_);have al:=h.nes;have P:=h.rds;have hB:=h.hB;rw[pG];have K:evE p (aA p) inp fu n f L G a≠.no:=λe=>by rw[e]at V;exact u V.symm
 simp only[go_sem,s6,x7];refine⟨bq a,F7 (bq a).symm,?_⟩;refine kr aa rfl I h j.1 (λ_=>K) X1 loM (by omega:B<=B+251) (λi hi=>by simp only[upd];(repeat rw[j9 (by omega)]);exact h.free i (by omega)) λA H e1 c m E=>?_
 have bl:∀(l:List Stm),(e1=0->de p (aA p) inp fu n f L H l=r)->∀bd q ad e',eT (de p (aA p) inp fu n f L H l) e1 H L bd q ad e'->eT r 0 G L bd q ad e':=λl hq bd q ad e' b=>by
  by_cases d:e1=0
  .subst d
   rw[hq rfl]at b;unfold eT at b|-;rw[l9 rfl]at b|-;exact b
  .unfold eT at b
   rw[j9 d]at b;obtain⟨rfl,rfl,rfl,rfl⟩:=b;exact eT.mke (by rw[<-V,m.en d];rfl) d
 by_cases o:A=0
 .have hq:e1=0->de p (aA p) inp fu n f L H el=r:=λe=>by subst e;rw[<-V,m.ok];simp only[Rs.bind,l9 o]
  subst o;simp only[go_sem,al,P];refine uT (c:=c) (e1:=e1) (bs:=L) aa rfl (x f L H e1 el j.2.2 λe s=>u (by rw[<-hq e];exact s)) h E XK loM (by omega:B<=B+251) (λi hi=>by simp only[upd];(repeat first|rw[j9 (by omega)]|rw[h.hi (by omega)]);exact h.free i (by omega)) λbd q ad e' y b t=>?_;simp only[go_sem];refine⟨_,ai.refl _,?_⟩;simp only[go_sem];exact dY (w:=y) (e':=e') (ad:=ad) (bd:=bd) (r:=q) h loM gK ⟨bd,q,ad,e',y,bl el hq _ _ _ _ b,t,rfl,rfl,rfl⟩
 .have hq:e1=0->de p (aA p) inp fu n f L H th=r:=λe=>by subst e;rw[<-V,m.ok];simp only[Rs.bind,j9 o]
  have J:¬((A:Nat):Int)=0:=a7;simp only[go_sem,al,P,J];refine uT (c:=c) (e1:=e1) (bs:=L) aa rfl (x f L H e1 th j.2.1 λe s=>u (by rw[<-hq e];exact s)) h E XK loM (by omega:B<=B+251) (λi hi=>by simp only[upd];(repeat first|rw[j9 (by omega)]|rw[h.hi (by omega)]);exact h.free i (by omega)) λbd q ad e' y b t=>?_;simp only[go_sem];refine⟨_,ai.refl _,?_⟩;simp only[go_sem];exact dY (w:=y) (e':=e') (ad:=ad) (bd:=bd) (r:=q) h loM gK ⟨bd,q,ad,e',y,bl th hq _ _ _ _ b,t,rfl,rfl,rfl⟩
section
variable{O:Bs}{rd:Option Nat}{Φ:St->Am.Loc->List Deferred->World->Prop}
def Fc(a6:bp O Φ){o:Oper}{s:St}{K:St->Prop}{k:Box K}{args:Array Operand}{tys:Array TypeId}(ho:o.op=.call ⟨.value (.func 180),args,tys⟩){f B X W:Nat}{r:Rs Nat}{g:Nat->Nat}{ob:Obs}(hC:Fb p inp fu gV gA gk f L G nm ks r)(h:FrM p inp fu gV gA gk B g ob X W f L G 0)
 (I:args.toList.map s.ev=[aj 1024 (g 1024) 0,aj X (g X) 0,sv nm,eJ ks]){b:Nat}(a:∀i,i<B->s.gen i=g i/\s.obj i=ob i)(hB:B<=b)(ar:∀i,b<=i->s.obj i=N){d:Nat}{e:fT}
 (j:∀v ad e' w,eE r 0 G v ad e'->OkM p inp ad->K (St.put ⟨s.f,upd s.gen 1023 w,λi=>pT p inp fu gV gA X W f (g W) w ad e' L N i (s.obj i)⟩ o.dst (iv .u32 (v:Nat)))):bC (spF Tryz.prog rd O Φ d e) o s k:=by
 have U:=h.hB;have q:=h.hX;have t:=h.hW;refine dA a6 ho (by rw[I,<-(a 1024 a7).1,<-(a X a7).1];exact hC b s.gen s.obj X W (h.re (w:=g 1023) h.okm (λi c=>by rw[(a i c).1,(a i c).2];exact h.same i) hB ar)) ?_;rintro _ _ _ ⟨v,ad,e',w,l,m,rfl,rfl,rfl⟩;rw[(a W a7).1];exact j v ad e' w l m
end
def Sa{f:Nat}{num o:Int}{r:Rs Nat}(hC:Fb p inp fu gV gA gk f L G nm ks r):qB p inp fu gV gA gk f L G 0 (.mk 4 o num nm ks) r:=by
 intro B g ob X W h;refine dj.toR (bZ B (SSM p X W) aO mixed Tryz.func178 rfl j4 [.tmp 6] rfl j0 j0 YC (fJ h) h.free λO a b c=>?_);have al:=h.nes;have hB:=h.hB;have V:=h.run;unfold rnM at V;rw[nG];simp only[go_sem,V,al];refine Fc aa rfl hC h XK loM (by omega:B<=B+232) (λi hi=>by simp only[upd];(repeat rw[j9 (by omega)]);exact h.free i (by omega)) λv ad e' w A K=>?_;simp only[go_sem];refine⟨_,ai.refl _,?_⟩;simp only[go_sem];exact dY (w:=w) (e':=e') (ad:=ad) (bd:=L) (r:=N) h loM eY ⟨v,ad,e',w,A,K,rfl,rfl,rfl⟩
def Sb{f:Nat}{b:Rs Nat}(hC:Fb p inp fu gV gA gk f L G nm ks b)(V:b.bind (λ_ o=>.ok (L,N) o)=r):sf p inp fu gV gA gk f L G (.mk 6 nm ks th el) r:=by
 intro B g ob X W h;refine dj.toR (bZ B (SSM p X W) aO mixed Tryz.func141 rfl j4 [] rfl j0 j0 YI (fJ h) h.free λO c d e=>?_);have al:=h.nes;have hB:=h.hB;rw[pG];simp only[go_sem,al];refine Fc aa rfl hC h XK loM (by omega:B<=B+251) (λi hi=>by simp only[upd];(repeat rw[j9 (by omega)]);exact h.free i (by omega)) λv ad e' w A K=>?_;simp only[go_sem];refine⟨_,ai.refl _,?_⟩;simp only[go_sem];refine dY (w:=w) (e':=e') (ad:=ad) (bd:=L) (r:=N) h loM gK ⟨L,N,ad,e',w,?_,K,rfl,rfl,rfl⟩;by_cases a:e'=0
 .subst a
  exact eT.mk (by rw[<-V,A.ok];rfl)
 .exact eT.mke (by rw[<-V,A.en a];rfl) a
def Sc{f:Nat}:sf p inp fu gV gA gk f L G (.mk 7 nm [] th el) (.ok (L,S 0) G):=by
 intro B g d X W h;refine dj.toR (bZ B (SSM p X W) aO mixed Tryz.func141 rfl j4 [] rfl j0 j0 YI (fJ h) h.free λO e j l=>?_);have al:=h.nes;have P:=h.rds;have hB:=h.hB;have ar:=h.frX;rw[pG];simp only[go_sem,al,ar,x7];refine⟨_,ai.refl _,?_⟩;simp only[go_sem];refine dY (w:=g 1023) (e':=0) (ad:=G) (bd:=L) (r:=S 0) h (λi m=>?_) gK ⟨L,S 0,G,0,g 1023,eT.mk rfl,h.okm,rfl,rfl,rfl⟩;have b:∀k,(i=B+k)=False:=λk=>by simp;omega
 obtain⟨a,c⟩:=h.same i;by_cases hX:i=X
 .subst hX
  rw[P.2.2.2.2.2.1];simp only[upd,b,B5,B1]at a|-;exact⟨a,rfl⟩
 .simp only[upd,b,hX,B1]at a|-
  refine⟨a,c.trans ?_⟩;unfold pT;rw[j9 hX,j9 hX]
def Sd{a:Ex}(m:HE p inp fu gV gA gk n)(o:Src.szE a<=1000000)(V:(evE p (aA p) inp fu n f L G a).bind (λv H=>.ok (L,S v) H)=r)(u:r≠.no):sf p inp fu gV gA gk f L G (.mk 7 nm [a] th el) r:=by
 intro B g ob X W h;refine dj.toR (bZ B (SSM p X W) aO mixed Tryz.func141 rfl j4 [] rfl j0 j0 YI (fJ h) h.free λO t x y=>?_);have al:=h.nes;have P:=h.rds;have hB:=h.hB;rw[pG];have q:evE p (aA p) inp fu n f L G a≠.no:=λe=>by rw[e]at V;exact u V.symm
 simp only[go_sem,s6,x7];refine⟨bq a,F7 (bq a).symm,?_⟩;refine kr aa rfl m h o (λ_=>q) X1 loM (by omega:B<=B+251) (λi hi=>by simp only[upd];(repeat rw[j9 (by omega)]);exact h.free i (by omega)) λj H b c l s=>?_;simp only[go_sem,al,P,frM];refine⟨_,ai.refl _,?_⟩;simp only[go_sem];refine dY (w:=c) (e':=b) (ad:=H) (bd:=L) (r:=S j) h (λi hi=>?_) gK ⟨L,S j,H,b,c,?_,s,rfl,rfl,rfl⟩
 .have hk:∀k,(i=B+k)=False:=λk=>by simp;omega
  by_cases hX:i=X
  .subst hX
   rw[P.2.2.2.2.2.1];simp only[upd,hk,B5,B1];exact⟨trivial,rfl⟩
  .simp only[upd,hk,hX,B1]
   refine⟨trivial,?_⟩;unfold pT;rw[j9 hX,j9 hX]
 .by_cases d:b=0
  .subst d
   exact eT.mk (by rw[<-V,l.ok];rfl)
  .exact eT.mke (by rw[<-V,l.en d];rfl) d
end
end
section
section
variable{p:Src.Prog}{inp:Str}{fu gV gA:Nat}{gk:Nat->Nat}
def reM{B X W f c w I e e2:Nat}{g a:Nat->Nat}{ob av:Obs}{L Q:List Nat}{G a6:Sg}{q q2:Option Nat}(d:∀i,i<B->a i=upd g 1023 w i/\av i=pT p inp fu gV gA X W f c w G e L q i (ob i)):∀i,i<B->upd a 1023 I i=upd g 1023 I i/\pT p inp fu gV gA X W f c I a6 e2 Q q2 i (av i)=pT p inp fu gV gA X W f c I a6 e2 Q q2 i (ob i):=λi h=>by
 obtain⟨b,j⟩:=d i h;refine⟨?_,by rw[j,Bu]⟩;simp only[upd]at b|-;split
 .rfl
 .rename_i k;rw[b,j9 k]
def NX{n f:Nat}{L:List Nat}{G:Sg}{nm:Str}{a:Ex}{th el:List Stm}(hE:∀m,m<=n->HE p inp fu gV gA gk m)(hS:∀m,m<=n->HSs p inp fu gV gA gk m)(hz:Src.szE a<=1000000/\Src.aN th<=1000000){r:Rs (List Nat×Option Nat)}(V:(Mn.tick fu G λH=>evW p (aA p) inp fu n f L H a th)=r)(u:r≠.no):sf p inp fu gV gA gk f L G (.mk 5 nm [a] th el) r:=by
 intro B g ob X W h;refine dj.toR (bZ B (SSM p X W) aO mixed Tryz.func141 rfl j4 [] rfl j0 j0 YI (fJ h) h.free λO bn s0 w0=>?_);have al:=h.nes;have P:=h.rds;have hB:=h.hB;have hX:=h.hX;have Y:=h.run;rw[pG];simp only[go_sem,s6,x7];refine dA aa rfl (by simp only[go_sem,al];rw[show g 1024=upd g (B+5) (nxC 46 (g (B+5))) 1024 from by simp only[upd];rw[j9 a7]];exact Ds (w:=g 1023) (G:=G) (e:=0) (by simp only[go_sem,al];exact Y) h.sm.fu) ?_;rintro _ g1 av ⟨rfl,rfl,rfl⟩;simp only[go_sem];have b:∀i,B+251<=i->ob i=N:=λi hi=>h.free i a7
 refine aG (λmm K=>∃(t:List Nat)(d:Sg)(Z:Nat)(E:Option Nat)(w:Nat),OkM p inp d/\
  ((Z=0/\E=N/\mm<=n/\evW p (aA p) inp fu mm f t d a th=r)\/((Z≠0\/E≠N)/\eT r 0 G L t E d Z))/\
  (∀i,i<B->K.gen i=upd g 1023 w i/\K.obj i=pT p inp fu gV gA X W f (g W) w d Z t E i (ob i))/\(∀i,B+251<=i->K.obj i=N)/\
  K.f 0=aj 1024 (g 1024) 0/\K.f 1=aj X (g X) 0/\K.f 5=aj (B+5) (K.gen (B+5)) 0/\K.obj (B+5)=S [ag 5,bF nm,aq [exD a],aq (th.map smD),aq (el.map smD)]) n ?_ ?_
 .by_cases ht:G.tk<fu
  .unfold Mn.tick at V
   rw[l9 ht]at V;rw[l9 ht];refine⟨L,⟨G.v,G.arrs,G.out,G.rd,G.tk+1⟩,0,N,g 1023,h.okm,.inl ⟨rfl,rfl,l8 _,V⟩,?_,λi hi=>?_,?_⟩
   .exact tj
   .simp only[upd]
    (repeat rw[j9 (by omega)])
    exact b i hi
   .simp only[go_sem,al]
  .unfold Mn.tick at V
   rw[j9 ht]at V;rw[j9 ht];refine⟨L,G,5,N,g 1023,h.okm,.inr ⟨.inl b9,eT.mke V.symm b9⟩,?_,λi hi=>?_,?_⟩
   .exact tj
   .simp only[upd]
    (repeat rw[j9 (by omega)])
    exact b i hi
   .simp only[go_sem,al]
 rintro mm fs g1 av ⟨t,d,Z,E,w,an,hJ,hs,bk,q0,q1,q5,o5⟩;simp only at hs bk q0 q1 q5 o5;have b6:av 1024=S (rnM p inp fu gV gA w d Z):=by rw[(hs 1024 a7).2];exact P.1 _ _ _ _ _ _
 have eX:av X=S (frM f W (g W) (z t) E):=by rw[(hs X hX.2).2];exact P.2.2.2.2.2.1 _ _ _ _ _ _
 have j:g1 1024=g 1024:=by rw[(hs 1024 a7).1];rfl
 have gX:g1 X=g X:=by rw[(hs X hX.2).1];exact j9 a7
 unfold rnM at b6;unfold frM at eX;rcases hJ with⟨rfl,rfl,c1,hq⟩|⟨hJ,A⟩
 case inr=>
  have bl:∀ar,bB B (SSM p X W) g ob (RunT p inp fu gV gA X W f L r 0 G g ob) ⟨ar,g1,av⟩ []:=λar=>
   dY (w:=w) (e':=Z) (ad:=d) (bd:=t) (r:=E) h hs gK ⟨t,E,d,Z,w,A,an,rfl,rfl,rfl⟩
  by_cases he:Z=0
  .obtain⟨v,rfl⟩:∃v,E=S v:=by
    cases E with
    |none=>rcases hJ with U|U<;>exact absurd (by first|exact he|rfl) U
    |some v=>exact⟨v,rfl⟩
   subst he;simp only[go_sem,q0,q1,b6,eX,j,gX,C9];exact⟨_,ai.refl _,bl _⟩
  .have cc:¬(Z:Int)=0:=a7
   simp only[go_sem,q0,q1,b6,eX,j,gX,cc];exact⟨_,ai.refl _,bl _⟩
 cases mm with
 |zero=>rw[evW]at hq;exact absurd hq.symm u
 |succ m=>
   rw[evW]at hq;have bo:evE p (aA p) inp fu m f t d a≠.no:=λe=>by rw[e]at hq;exact u hq.symm
   simp only[go_sem,q0,q1,q5,j,gX,b6,eX,o5,E4,s6,x7];refine⟨bq a,F7 (bq a).symm,?_⟩;refine nH (c:=w) (e1:=0) (bs:=t) aa rfl (hE m a7) h an hz.1 (λ_=>bo) (by simp only[go_sem,q0,q1,dC];rfl) hs (by omega:B<=B+251) bk λv1 H e1 c A1 K1=>?_;have a1:=reM (I:=c) (a6:=H) (e2:=e1) (Q:=t) (q2:=N) hs;have az:∀i,B+251<=i->pT p inp fu gV gA X W f (g W) c H e1 t N i (av i)=N:=λi hi=>by rw[h.hi a7];exact bk i hi
   by_cases hv:v1=0
   .subst hv
    simp only[go_sem];refine⟨_,ai.refl _,?_⟩;simp only[go_sem];refine dY (w:=c) (e':=e1) (ad:=H) (bd:=t) (r:=N) h a1 gK ⟨t,N,H,e1,c,?_,K1,rfl,rfl,rfl⟩;by_cases he:e1=0
    .subst he
     refine eT.mk ?_;rw[<-hq,A1.ok];rfl
    .exact eT.mke (by rw[<-hq,A1.en he];rfl) he
   have J:¬((v1:Nat):Int)=0:=a7
   -- bf c8 body comes to
   have af:e1=0->(de p (aA p) inp fu m f t H th).bind (λx a6=>match x.2 with|some v=>.ok (x.1,S v) a6|none=>Mn.tick fu a6 λo=>evW p (aA p) inp fu m f x.1 o a th)=r:=λe=>by
    subst e;rw[A1.ok]at hq;simp only[Rs.bind]at hq;rw[j9 hv]at hq;exact hq
   simp only[go_sem,J,q0,q1,q5,al,P,o5];refine uT (c:=c) (e1:=e1) (bs:=t) aa rfl (hS m a7 f t H e1 th hz.2 λe hn=>u (by rw[<-af e,hn];rfl)) h K1 XK a1 (by omega:B<=B+251) az λbd q ad e' y A2 K2=>?_;have bz:=reM (I:=y) (a6:=ad) (e2:=e') (Q:=bd) (q2:=q) a1;have a':∀i,B+251<=i->pT p inp fu gV gA X W f (g W) y ad e' bd q i (pT p inp fu gV gA X W f (g W) c H e1 t N i (av i))=N:=λi hi=>by rw[h.hi a7];exact az i hi
   by_cases he:e'=0
   case neg=>
    have cc:¬(e':Int)=0:=a7;simp only[go_sem,al,P,rnM,frM,q0,q1,cc,j];refine ao m a7 ⟨bd,ad,e',q,y,K2,.inr ⟨.inl he,?_⟩,bz,a',?_⟩
    .by_cases U:e1=0
     .subst U
      exact eT.mke (by rw[<-af rfl,A2.en he];rfl) he
     .unfold eT at A2
      rw[j9 U]at A2;obtain⟨rfl,rfl,rfl,rfl⟩:=A2;exact eT.mke (by rw[<-hq,A1.en U];rfl) U
    .exact XC
   subst he
   have U:e1=0:=by
    by_cases U:e1=0
    .exact U
    .unfold eT at A2
     rw[j9 U]at A2;exact A2.2.1.symm
   subst U;have l:=af rfl;rw[A2.ok]at l;simp only[Rs.bind]at l;cases q with
   |some v=>
     simp only at l;simp only[go_sem,al,P,rnM,frM,q0,q1,j,gX,C9];refine ao m a7 ⟨bd,ad,0,S v,y,K2,.inr ⟨.inr a8,eT.mk l.symm⟩,bz,a',?_⟩;exact XC
   |none=>
     simp only at l;simp only[go_sem,al,P,rnM,frM,q0,q1,j,gX,E4];refine dA aa rfl (by simp only[go_sem,q0];rw[show g 1024=upd (upd g1 1023 c) 1023 y 1024 from by simp only[upd];rw[j9 a7,j9 a7];exact j.symm];exact Ds (p:=p) (inp:=inp) (fu:=fu) (gV:=gV) (gA:=gA) (w:=y) (G:=ad) (e:=0) (P.1 _ _ _ _ _ _) h.sm.fu) ?_;rintro _ g3 b7 ⟨rfl,rfl,rfl⟩;unfold Mn.tick at l;by_cases ht:ad.tk<fu
     .rw[l9 ht]at l
      rw[l9 ht];simp only[go_sem];refine ao m a7 ⟨bd,⟨ad.v,ad.arrs,ad.out,ad.rd,ad.tk+1⟩,0,N,y,K2,.inl ⟨rfl,rfl,a7,l⟩,runM (s:=⟨_,_,_⟩) (G:=ad) (e:=0) (q:=N) (bd:=bd) h rfl ⟨rfl,rfl,rfl⟩ bz,λi hi=>?_,?_⟩
      .simp only[upd]
       rw[j9 a7];exact a' i hi
      .exact XC
     .rw[j9 ht]at l
      rw[j9 ht];simp only[go_sem];refine ao m a7 ⟨bd,ad,5,N,y,K2,.inr ⟨.inl b9,eT.mke l.symm b9⟩,runM (s:=⟨_,_,_⟩) (G:=ad) (e:=0) (q:=N) (bd:=bd) h rfl ⟨rfl,rfl,rfl⟩ bz,λi hi=>?_,?_⟩
      .simp only[upd]
       rw[j9 a7];exact a' i hi
      .exact XC
end
end
end
end Go.Proofs.YtlacbjnmkhndiaaGreatDoor
namespace Go.Emit
section
open Go.Lower (Ins Code Sig codeOf takes)
section
def kW(env:Int×Int->Int)(n:Nat)(c:List MI)(h:Ho):List MI:=
 match c[(h.1-n).toNat]? with
 |some x=>c.set (h.1-n).toNat (x.1,x.2.1,x.2.2.1,env h.2)
 |none=>c
def close(env:Int×Int->Int)(w:Nat->Wr)(n:Nat):List MI:=(w n).holes.foldl (kW env n) (w n).code
variable{n:Nat}{a b c d:Int}{h:Ho}{w:Nat->Wr}{fs:List Src.CFn}
section
variable{env:Int×Int->Int}
def Ay{c:List MI}:z (kW env n c h)=z c:=by
 unfold kW;split
 .rw[C4]
 .rfl
def lp{n:Nat}:∀(l:List Ho)(c:List MI),z (l.foldl (kW env n) c)=z c
 |[],_=>rfl
 |h::l,c=>by rw[G7,lp l,Ay]
def js:z (close env w n)=z (w n).code:=lp _ _
def Ge{a b:List MI}(f:(n:Int)<=h.1)(U:h.1<(n:Int)+z a):kW env n (a++b) h=kW env n a h++b:=by
 have e:(h.1-n).toNat<z a:=a7;unfold kW;rw[E8 e,v8 e];simp only;rw[List.set_append_left _ _ e]
def CP{a b:List MI}(g:((n+z a:Nat):Int)<=h.1):kW env n (a++b) h=a++kW env (n+z a) b h:=by
 have e:z a<=(h.1-n).toNat:=a7;have f:(h.1-((n+z a:Nat):Int)).toNat=(h.1-n).toNat-z a:=a7;unfold kW;rw[D1 e,f];cases I:b[(h.1-(n:Int)).toNat-z a]? with
 |none=>rfl
 |some x=>
   simp only;rw[J0 _ _ e]
def sY{n:Nat}{b:List MI}:∀(l:List Ho)(a:List MI),(∀h∈l,(n:Int)<=h.1/\h.1<(n:Int)+z a)->l.foldl (kW env n) (a++b)=l.foldl (kW env n) a++b
 |[],_,_=>rfl
 |h::l,a,H=>by
   obtain⟨U,e⟩:=H h a8;rw[G7,G7,Ge U e,sY l _ λx I=>by rw[Ay];exact H x YN]
def qO{n:Nat}{a:List MI}:∀(l:List Ho)(b:List MI),(∀h∈l,((n+z a:Nat):Int)<=h.1)->l.foldl (kW env n) (a++b)=a++l.foldl (kW env (n+z a)) b
 |[],_,_=>rfl
 |h::l,b,H=>by rw[G7,G7,CP (H h a8),qO l _ λx I=>H x YN]
def iD(w:Nat->Wr):Prop:=∀n,∀h∈(w n).holes,(n:Int)<=h.1/\h.1<(n:Int)+z (w n).code
def Fits.inner{L M:Nat}{Q:Int×Int->Prop}(h:Fits L M Q w):iD w:=λn x I=>⟨((h n).2.2 x I).1,((h n).2.2 x I).2.1⟩
def cM{v w:Nat->Wr}(e:iD v)(f:iD w):close env (ax v w) n=close env v n++close env w (n+z (v n).code):=by
 unfold close ax;simp only;rw[OY,sY _ _ (e n)];have hl:z ((v n).holes.foldl (kW env n) (v n).code)=z (v n).code:=lp _ _;rw[qO _ _ λh g=>by rw[hl];have:=(f _ h g).1;omega,hl]
def lq{v w:Nat->Wr}(f:iD v)(g:iD w):iD (ax v w):=λn h e=>by
 simp only[ax,C1,j8]at e|-;rcases e with e|e
 .have:=f n h e;omega
 .have:=g _ h e;omega
def dO:iD (aD a b c d):=λ_ _ h=>by cases h
def lr:iD eC:=λ_ _ h=>by cases h
def jg:iD (aE a b c d):=λn h e=>by
 obtain rfl:h=((n:Int),c,d):=by simpa[aE]using e
 exact⟨C7 _,by simp[aE];omega⟩
def gy:close env (aD a b c d) n=[(a,b,c,d)]:=rfl
def Gf:close env eC n=[]:=rfl
def jh:close env (aE a b c d) n=[(a,b,0,env (c,d))]:=by
 unfold close aE;simp only[G7,O8];unfold kW;simp only;rw[show ((n:Int)-(n:Int)).toNat=0 by omega];rfl
end
def fC(d:iA)(q:Int×Int):Int:=if 0<=q.2 then(((d.pls[q.1.toNat]?).getD [])[q.2.toNat]?).getD 0 else(d.ent[q.1.toNat]?).getD 0
def Gg(d:iA)(c:List MI)(h:Ho)(e:0<=h.1):fill d c h=kW (fC d) 0 c h:=by
 unfold fill kW;rw[show (h.1-((0:Nat):Int)).toNat=h.1.toNat by omega];rfl
def qP(d:iA):∀(l:List Ho)(c:List MI),(∀h∈l,0<=h.1)->l.foldl (fill d) c=l.foldl (kW (fC d) 0) c
 |[],_,_=>rfl
 |h::l,c,H=>by rw[G7,G7,Gg d c h (H h a8),qP d l _ λx I=>H x YN]
def vL(env:Int×Int->Int)(fs:List Src.CFn)(P:Plan)(f n:Nat):List MI:=
 match fs[f]?,P.depths[f]? with
 |some x,S ds=>close env (fB fs P f (cw x) ds (z (cw x))) n
 |_,_=>[]
def toC(env:Int×Int->Int)(fs:List Src.CFn)(P:Plan):Nat->List MI
 |0=>[(1,15,0,1)]++vL env fs P (z fs-1) 1
 |k+1=>toC env fs P k++vL env fs P k (z (toC env fs P k))
def xM{env:Int×Int->Int}{P:Plan}{ar:Nat}(H:rL fs P ar){d:iA}{done:Nat->Prop}{al f:Nat}(h:pj fs d done al)(hf:f<z fs):
  (ei fs P d f).holes.foldl (kW env 0) (ei fs P d f).code=d.holes.foldl (kW env 0) d.code++vL env fs P f (z d.code):=by
 obtain⟨x,I⟩:∃x,fs[f]?=S x:=⟨_,v8 hf⟩
 obtain⟨ds,hd⟩:∃ds,P.depths[f]?=S ds:=⟨_,v8 (by rw[H.dl];exact hf)⟩
 rw[ll I hd];unfold vL;rw[I,hd];simp only;rw[OY,sY _ _ λy e=>⟨(h.h y e).1,by have:=(h.h y e).2.1;omega⟩];have hl:z (d.holes.foldl (kW env 0) d.code)=z d.code:=lp _ _;rw[qO _ _ λy e=>?_,hl,C5]
 .rfl
 .rw[hl]
  have:=((H.fits I ds (z (cw x))).inner _ y e).1;omega
def vM{env:Int×Int->Int}{fs:List Src.CFn}{P:Plan}{ar:Nat}(H:rL fs P ar):∀k,k<=z fs-1->(qs fs P k).holes.foldl (kW env 0) (qs fs P k).code=toC env fs P k
 |0,_=>by
   have i:=H.n;have e:pj fs ⟨[(1,15,0,1)],[],List.replicate (z fs) 0,List.replicate (z fs) []⟩ (λ_=>False) 1:=⟨a8,a8,(λ_ h=>by cases h),a8,a8,(λ_ h=>False.elim h)⟩
   exact xM H e (f:=z fs-1) a7
 |k+1,j=>by
   have g:=vM (env:=env) H k a7;rw[toC,<-g];rw[show (z ((qs fs P k).holes.foldl (kW env 0) (qs fs P k).code))=z (qs fs P k).code from lp _ _];exact xM H (uN H k a7) (f:=k) a7
def Gh{P:Plan}{ar:Nat}(H:rL fs P ar):filled (whole fs P)=toC (fC (whole fs P)) fs P (z fs-1):=by
 have e:=uN H (z fs-1) (l8 _);unfold filled;exact(qP (whole fs P) (whole fs P).holes (whole fs P).code λh f=>(e.h h f).1).trans (vM H _ (l8 _))
end
end
end Go.Emit
namespace Go.Lower
section
section
variable{w:Int}{ps:Sig}{f:Nat}{word:Bool}
mutual
def nbE:Ex->Prop
 |.mk _ _ num _ _ kids=>(0<=num/\num<4294967296)/\Gi kids
def Gi:List Ex->Prop
 |[]=>True
 |e::l=>nbE e/\Gi l
end
mutual
def nbS:Stm->Prop
 |.mk _ _ _ e a el=>Gi e/\Iq a/\Iq el
def Iq:List Stm->Prop
 |[]=>True
 |e::l=>nbS e/\Iq l
end
def Az(w:Int)(x:Ins):Prop:=(x.op=1->0<=x.n/\x.n<4294967296)/\(x.op=2\/x.op=3->0<=x.a/\x.a<w)/\(x.op=4\/x.op=5->(1<=x.b/\x.b<=4096)/\0<=x.a/\x.a+x.b<=w)/\(x.op=6->4<=x.a/\x.a<=15)
def jI(w:Int)(c:Lower.Code):Prop:=∀y∈c,Az w y.1
def il{c d:Lower.Code}:jI w (c++d)↔jI w c/\jI w d:=J5
def bR{x:Ins}{n:Int}{c:Lower.Code}:jI w ((x,n)::c)↔Az w x/\jI w c:=List.forall_mem_cons
def cA:jI w []:=λ_ h=>by cases h
def eU{op a b n:Int}(h:op=7\/op=8\/op=9\/10<=op):Az w ⟨op,a,b,n⟩:=⟨λe=>by simp only at e;omega,λe=>by simp only at e;omega,λe=>by simp only at e;omega,λe=>by simp only at e;omega⟩
def CQ{n:Int}(h:0<=n/\n<4294967296):Az w ⟨1,0,0,n⟩:=⟨λ_=>h,λe=>by simp at e,λe=>by simp at e,λe=>by simp at e⟩
def UU{q kind op num slot size d:Int}{n:Nat}(h:okE w ps f q kind op num slot size n)(c:0<=num/\num<4294967296):jI w (one kind op num slot size d):=by
 obtain⟨_,_,_,_,_,h⟩:=h;rcases h with⟨h|h,_⟩|⟨h,a,_⟩|⟨h,U,b,a,_⟩|⟨h,_⟩|⟨h,U,b,_⟩|⟨h,_⟩|⟨h|h,_⟩
 all_goals subst h
 .exact bR.2 ⟨CQ c,cA⟩
 .exact bR.2 ⟨eU b9,cA⟩
 .obtain⟨g,_,_,i⟩:=a
  exact bR.2 ⟨⟨λe=>by simp at e,λ_=>by simp only;omega,λe=>by simp at e,λe=>by simp at e⟩,cA⟩
 .obtain⟨g,_,_,i⟩:=a
  exact bR.2 ⟨⟨λe=>by simp at e,λe=>by simp at e,λ_=>by simp only;omega,λe=>by simp at e⟩,cA⟩
 .exact bR.2 ⟨eU b9,cA⟩
 .exact bR.2 ⟨⟨λe=>by simp at e,λe=>by simp at e,λe=>by simp at e,λ_=>⟨U,b⟩⟩,cA⟩
 .exact bR.2 ⟨eU b9,cA⟩
 .exact cA
 .exact cA
variable{at':Nat}{g:Nat->Lower.Code}
def Mu{d kind:Int}{c0:Lower.Code}(a:jI w c0)(U:∀r,jI w (g r)):jI w (kG at' d kind c0 g):=by
 unfold kG iT;simp only;refine il.2 ⟨a,il.2 ⟨?_,?_⟩⟩
 .split
  .exact bR.2 ⟨eU b9,cA⟩
  .exact cA
 refine bR.2 ⟨eU b9,bR.2 ⟨CQ (by split<;>decide),bR.2 ⟨eU b9,il.2 ⟨U _,bR.2 ⟨eU b9,bR.2 ⟨eU b9,cA⟩⟩⟩⟩⟩⟩
mutual
theorem QR:∀(e:Ex){q d:Int}{at':Nat},rE w ps f q e->nbE e->jI w (cE at' d e)
 |.mk kind op num slot size kids,q,d,at',h,a=>by
   rw[rE]at h;rw[nbE]at a;rw[cE];split
   .exact UW kids h.2 a.2
   .exact il.2 ⟨Ir kids h.2 a.2,UU h.1 a.1⟩
theorem Ir:∀(l:List Ex){q d:Int}{at':Nat},rEs w ps f q l->Gi l->jI w (cEs at' d l)
 |[],_,_,_,_,_=>by rw[cEs];exact cA
 |e::l,q,d,at',h,a=>by
   rw[rEs]at h;rw[cEs];exact il.2 ⟨QR e h.1 a.1,Ir l h.2 a.2⟩
theorem UW:∀(l:List Ex){q d kind:Int}{at':Nat},rEs w ps f q l->Gi l->jI w (cAO at' d kind l)
 |[],_,_,_,_,_,_=>by rw[cAO];exact cA
 |e::l,q,d,kind,at',h,a=>by
   rw[rEs]at h;rw[cAO];exact Mu (QR e h.1 a.1) λr=>Is l h.2 a.2
theorem Is:∀(l:List Ex){q d:Int}{at':Nat},rEs w ps f q l->Gi l->jI w (kh at' d l)
 |[],_,_,_,_,_=>by rw[kh];exact cA
 |e::l,q,d,at',h,a=>by
   rw[rEs]at h;rw[kh];exact QR e h.1 a.1
end
def En:jI w (leave word):=by
 unfold leave;split
 .exact bR.2 ⟨CQ b9,bR.2 ⟨eU b9,cA⟩⟩
 .exact bR.2 ⟨eU b9,cA⟩
def QT{q kind slot size:Int}{n nt ne:Nat}(h:okS w ps f word q kind slot size n nt ne):jI w (ri word kind slot size n):=by
 obtain⟨_,_,_,_,_,h⟩:=h;rcases h with⟨h,a,_⟩|⟨h,U,d,a,_⟩|⟨h|h|h,_⟩|⟨h,_⟩|⟨h,_⟩
 all_goals subst h
 .obtain⟨b,_,_,c⟩:=a
  exact bR.2 ⟨⟨λe=>by simp at e,λ_=>by simp only;omega,λe=>by simp at e,λe=>by simp at e⟩,cA⟩
 .obtain⟨b,_,_,c⟩:=a
  exact bR.2 ⟨⟨λe=>by simp at e,λe=>by simp at e,λ_=>by simp only;omega,λe=>by simp at e⟩,cA⟩
 .exact bR.2 ⟨eU b9,cA⟩
 .exact cA
 .exact cA
 .exact bR.2 ⟨eU b9,cA⟩
 .show jI w (if n=0 then leave word else [(⟨11,0,0,0⟩,(n:Int))])
  split
  .exact En
  .exact bR.2 ⟨eU b9,cA⟩
def It{c0:Lower.Code}(a:jI w c0)(U:∀r,jI w (g r)):jI w (iJ at' c0 g):=
 il.2 ⟨a,bR.2 ⟨eU b9,il.2 ⟨U _,bR.2 ⟨eU b9,cA⟩⟩⟩⟩
def UX{g b:Nat->Lower.Code}{a:Bool}(U:∀r,jI w (g r))(c:∀r,jI w (b r)):jI w (ifC at' g a b):=by
 unfold ifC;split
 .exact bR.2 ⟨eU b9,il.2 ⟨U _,bR.2 ⟨eU b9,c _⟩⟩⟩
 .exact bR.2 ⟨eU b9,U _⟩
mutual
theorem Yn:∀(e:Stm){q:Int}{at':Nat},rS w ps f word q e->nbS e->jI w (cS word at' e)
 |.mk kind slot size e b el,q,at',h,a=>by
   rw[rS]at h;rw[nbS]at a;rw[cS];split
   .exact It (Is e h.2.1 a.1) λr=>AA b h.2.2.1 a.2.1
   refine il.2 ⟨Ir e h.2.1 a.1,?_⟩;split
   .exact UX (λr=>AA b h.2.2.1 a.2.1) λr=>AA el h.2.2.2 a.2.2
   .exact QT h.1
theorem AA:∀(l:List Stm){q:Int}{at':Nat},rSs w ps f word q l->Iq l->jI w (cSs word at' l)
 |[],_,_,_,_=>by rw[cSs];exact cA
 |e::l,q,at',h,a=>by
   rw[rSs]at h;rw[cSs];exact il.2 ⟨Yn e h.1 a.1,AA l h.2 a.2⟩
end
def UY{l:List Stm}{q:Int}(h:rSs w ps f word q l)(a:Iq l):jI w (codeOf word l):=il.2 ⟨AA l h a,En⟩
end
end
end Go.Lower
namespace Go.Src
section
mutual
def Gj:Ex->Prop
 |.mk _ _ num _ kids=>(0<=num/\num<4294967296)/\vN kids
def vN:List Ex->Prop
 |[]=>True
 |e::l=>Gj e/\vN l
end
mutual
def Gk:Stm->Prop
 |.mk _ _ e a el=>vN e/\ua a/\ua el
def ua:List Stm->Prop
 |[]=>True
 |e::l=>Gk e/\ua l
end
def vO(p:Prog):Prop:=∀f∈p.f,ua f.body
mutual
theorem Iu(o i:Pl):∀e:Ex,Gj e->Lower.nbE (dK o i e)
 |.mk kind op num name kids,h=>by rw[Gj]at h;rw[dK,Lower.nbE];exact⟨h.1,sZ o i kids h.2⟩
theorem sZ(o i:Pl):∀l:List Ex,vN l->Lower.Gi (bm o i l)
 |[],_=>by rw[bm];trivial
 |e::l,h=>by rw[bm];exact⟨Iu o i e h.1,sZ o i l h.2⟩
end
mutual
theorem Iv(o i:Pl):∀e:Stm,Gk e->Lower.nbS (coreS o i e)
 |.mk kind name e a el,h=>by rw[Gk]at h;rw[coreS,Lower.nbS];exact⟨sZ o i e h.1,pZ o i a h.2.1,pZ o i el h.2.2⟩
theorem pZ(o i:Pl):∀l:List Stm,ua l->Lower.Iq (bP o i l)
 |[],_=>by rw[bP];trivial
 |e::l,h=>by rw[bP];exact⟨Iv o i e h.1,pZ o i l h.2⟩
end
def Yo{p:Prog}(h:aZ p=0)(a:vO p){x:CFn}(I:x∈(ab p).f):Lower.jI (ab p).words (Emit.cw x):=by
 obtain⟨k,b⟩:=D9 I;obtain⟨f,w,U,_,rfl,_⟩:=Emit.Im I;exact Lower.UY (DH h b) (pZ _ _ _ (a f U))
end
end Go.Src
namespace Go.Mn
section
open Go.Asm (Str)
open Go.Src (Ex Stm Fn Prog fL bA fy br bS cN ay okE cL okS cW bb eV dm cI gQ aX fM aR aI aM aZ dF Gj vN Gk ua szE bw szS aN)
section
section
variable(p:Prog)(f:Nat)(fn:Src.Fn)
structure WE (e:Ex):Prop where
 r:∃q,fL q e=true
 n:okE (λa b _=>bb (aA p f) f a b) e=true
 a:okE (λa b c=>eV (aA p f) p.f f a b c) e=true
 t:dm p.f e≠0
 w:Gj e
structure WEs (t:Int) (l:List Ex):Prop where
 r:∃q,bA q l=true
 n:cL (λa b _=>bb (aA p f) f a b) l=true
 a:cL (λa b c=>eV (aA p f) p.f f a b c) l=true
 ty:cI p.f t l=true
 t0:t≠0
 w:vN l
structure WS (s:Stm):Prop where
 r:∃q,fy q s=true
 n:okS (λa b _=>bb (aA p f) f a b) s=true
 a:okS (λa b c=>eV (aA p f) p.f f a b c) s=true
 t:gQ p.f fn.word s=true
 w:Gk s
structure WSs (l:List Stm):Prop where
 r:∃q,br q l=true
 n:cW (λa b _=>bb (aA p f) f a b) l=true
 a:cW (λa b c=>eV (aA p f) p.f f a b c) l=true
 t:aX p.f fn.word l=true
 w:ua l
end
variable{name:Str}
section
variable{p:Prog}{f:Nat}{fn:Src.Fn}
def WEs.cons{t:Int}{e:Ex}{l:List Ex}(h:WEs p f t (e::l)):WE p f e/\dm p.f e=t/\WEs p f t l:=by
 obtain⟨⟨q,U⟩,b,c,a,g,d⟩:=h;rw[bA,s5]at U;rw[cL,s5]at b c;rw[cI,s5,B4]at a;rw[vN]at d;exact⟨⟨⟨q,U.1⟩,b.1,c.1,by rw[a.1];exact g,d.1⟩,a.1,⟨⟨q,U.2⟩,b.2,c.2,a.2,g,d.2⟩⟩
def WSs.cons{e:Stm}{l:List Stm}(h:WSs p f fn (e::l)):WS p f fn e/\WSs p f fn l:=by
 obtain⟨⟨q,U⟩,a,b,c,d⟩:=h;rw[br,s5]at U;rw[cW,s5]at a b;rw[aX,s5]at c;rw[ua]at d;exact⟨⟨⟨q,U.1⟩,a.1,b.1,c.1,d.1⟩,⟨⟨q,U.2⟩,a.2,b.2,c.2,d.2⟩⟩
def Ps(hf:p.f[f]?=S fn){s:Str}{k i:Nat}(h:aA p f s=S (k,i)):(k=1/\i<z fn.p+z fn.l)\/(k=2/\i<z p.v)\/(k=3/\i<z p.a)\/(k=4/\i<z p.f):=by
 unfold aA at h;rw[hf]at h;simp only[aR]at h;split at h
 .rename_i c
  cases h;have b:=dF c;unfold aM at b;rcases C1.1 b with b|b
  .have:=Src.BP b;exact .inl ⟨this.1,a7⟩
  .have:=Src.BP b;exact .inl ⟨this.1,a7⟩
 .have b:=dF h
  unfold aI at b;rcases C1.1 b with b|b
  .rcases C1.1 b with b|b
   .have:=Src.KI b;exact .inr (.inl ⟨this.2,this.1⟩)
   .obtain⟨a,d,e⟩:=Src.KH b;exact .inr (.inr (.inl ⟨e,(l6.1 d).1⟩))
  .exact .inr (.inr (.inr (Src.KT b)))
def QC(h:aZ p=0)(hf:p.f[f]?=S fn){s:Str}{n:Nat}(a:aA p f s=S (4,n)):∃g,p.f[n]?=S g/\Src.bW p.f s=S g:=by
 obtain⟨V,d,_⟩:=Src.uq h;have hl:1<=z p.f:=by unfold Src.dP at V;simp at V;exact V.1.1.1
 obtain⟨L,c,_⟩:=Src.BJ d hl;have b:=Src.rm c hf;unfold Src.fA at b;rw[s5]at b;have e:=Src.KL (p:=p) (f:=fn) (k:=n+1) (w:=(Src.au p).2) (W:=(Src.au p).2+(z fn.p+z fn.l)) V L b.1 (l7 hf) (C7 _) (C7 _);unfold aA at a;rw[hf]at a;obtain⟨_,_,i⟩:=e.fn s n a a7;exact i
def mO(h:aZ p=0)(hf:p.f[f]?=S fn){n:Nat}{w:Bool}(U:bb (aA p f) f 4 name=T)(b:eV (aA p f) p.f f 4 name n=T)(c:fM p.f name=w):∃g,ea p f (aA p f name) n w=S g:=by
 unfold bb at U;cases d:aA p f name with
 |none=>rw[d]at U;cases U
 |some t=>
   obtain⟨j,g⟩:=t;rw[d]at U;simp only[show ¬(4:Nat)=2 by decide,show ¬(4:Nat)=3 by decide,B1,s5,I7,B4]at U;obtain⟨rfl,e⟩:=U;obtain⟨gn,a,i⟩:=QC h hf d;unfold eV at b;rw[d]at b;simp[e,a]at b;unfold fM at c;rw[i]at c;simp only at c;refine⟨g,?_⟩;unfold ea;simp only;rw[l9 ⟨trivial,e,by rw[a];simp[c,b]⟩]
def HT(hf:p.f[f]?=S fn)(U:bb (aA p f) f 2 name=T):∃k i,aA p f name=S (k,i)/\((k=1/\i<z fn.p+z fn.l)\/(k=2/\i<z p.v)):=by
 unfold bb at U;cases a:aA p f name with
 |none=>rw[a]at U;cases U
 |some t=>
   obtain⟨b,i⟩:=t;rw[a]at U;simp at U;refine⟨b,i,rfl,?_⟩;rcases Ps hf a with h|h|h|h<;>omega
def HU(hf:p.f[f]?=S fn)(U:bb (aA p f) f 3 name=T):∃i,aA p f name=S (3,i)/\i<z p.a:=by
 unfold bb at U;cases b:aA p f name with
 |none=>rw[b]at U;cases U
 |some t=>
   obtain⟨c,i⟩:=t;rw[b]at U;simp at U;subst U;refine⟨i,rfl,?_⟩;rcases Ps hf b with h|h|h|h<;>omega
def QD{A:Type}{l:List A}(h:z l=1):∃a,l=[a]:=List.length_eq_one_iff.1 h
def QF{A:Type}{l:List A}(h:z l=2):∃a b,l=[a,b]:=by
 match l,h with
 |[a,b],_=>exact⟨a,b,rfl⟩
def WE.cases(h:aZ p=0)(hf:p.f[f]?=S fn){kind op num:Int}{kids:List Ex}(W:WE p f (.mk kind op num name kids)):
  (kind=1/\kids=[]/\0<=num/\num<4294967296)\/(kind=2/\kids=[]/\∃k i,aA p f name=S (k,i)/\((k=1/\i<z fn.p+z fn.l)\/(k=2/\i<z p.v)))\/
  (kind=3/\(∃a,kids=[a]/\WE p f a)/\∃i,aA p f name=S (3,i)/\i<z p.a)\/(kind=4/\WEs p f 1 kids/\∃g,ea p f (aA p f name) (z kids) T=S g)\/(kind=5/\kids=[])\/
  (kind=6/\(4<=op/\op<=15)/\∃a b,kids=[a,b]/\WE p f a/\WE p f b)\/(kind=7/\∃a,kids=[a]/\WE p f a)\/((kind=8\/kind=9)/\∃a b,kids=[a,b]/\WE p f a/\WE p f b/\dm p.f a=2/\dm p.f b=2):=by
 obtain⟨⟨q,U⟩,e,n,c,w⟩:=W;rw[fL]at U;rw[okE]at e n;rw[dm]at c;rw[Gj]at w;simp only[s5,B4]at U e n;obtain⟨j,d,x⟩:=U;have r:∀t,cI p.f t kids=T->t≠0->WEs p f t kids:=λt H I=>⟨⟨_,x⟩,e.2,n.2,H,I,w.2⟩
 unfold bS at d;by_cases y:kind=1
 .subst y
  simp at d;exact .inl ⟨rfl,by first|exact d.2|exact Hk.1 d.2,w.1⟩
 by_cases A:kind=2
 .subst A
  simp at d;have m:=e.1;simp only[B5]at m;exact .inr (.inl ⟨rfl,by first|exact d.2|exact Hk.1 d.2,HT hf m⟩)
 by_cases o:kind=3
 .subst o
  simp at d;have m:=e.1;simp at m c;obtain⟨a,rfl⟩:=QD d.2;exact .inr (.inr (.inl ⟨rfl,⟨a,rfl,(r 1 c b9).cons.1⟩,HU hf m⟩))
 by_cases s:kind=4
 .subst s
  have m:=e.1;have Q:=n.1;simp at m Q c;exact .inr (.inr (.inr (.inl ⟨rfl,r 1 c.2 b9,mO h hf m Q c.1⟩)))
 by_cases B:kind=5
 .subst B
  simp at d;exact .inr (.inr (.inr (.inr (.inl ⟨rfl,by first|exact d.2|exact Hk.1 d.2⟩))))
 by_cases P:kind=6
 .subst P
  simp at d c;obtain⟨a,b,rfl⟩:=QF d.2;obtain⟨E,_,u⟩:=(r 1 c.1 b9).cons;exact .inr (.inr (.inr (.inr (.inr (.inl ⟨rfl,d.1.1.1,a,b,rfl,E,u.cons.1⟩)))))
 by_cases Y:kind=7
 .subst Y
  simp at d c;obtain⟨a,rfl⟩:=QD d.2;exact .inr (.inr (.inr (.inr (.inr (.inr (.inl ⟨rfl,a,rfl,(r 2 c b9).cons.1⟩))))))
 by_cases G:kind=8\/kind=9
 .simp[y,A,o,s,B,P,Y,G]at d
  rw[j9 a7,j9 a7,j9 o,j9 s,j9 P]at c;obtain⟨a,b,rfl⟩:=QF d.2;obtain⟨E,J,u⟩:=(r 2 (by simpa using c) b9).cons;exact .inr (.inr (.inr (.inr (.inr (.inr (.inr ⟨G,a,b,rfl,E,u.cons.1,J,u.cons.2.1⟩))))))
 .simp[y,A,o,s,B,P,Y,G]at d
def WS.cases(h:aZ p=0)(hf:p.f[f]?=S fn){kind:Int}{e:List Ex}{t el:List Stm}(W:WS p f fn (.mk kind name e t el)):
  (kind=1/\(∃a,e=[a]/\WE p f a)/\∃k i,aA p f name=S (k,i)/\((k=1/\i<z fn.p+z fn.l)\/(k=2/\i<z p.v)))\/
  (kind=2/\(∃a b,e=[a,b]/\WE p f a/\WE p f b)/\∃i,aA p f name=S (3,i)/\i<z p.a)\/(kind=3/\∃a,e=[a]/\WE p f a)\/(kind=4/\(∃a,e=[a]/\WE p f a)/\WSs p f fn t/\WSs p f fn el)\/
  (kind=5/\(∃a,e=[a]/\WE p f a)/\WSs p f fn t)\/(kind=6/\WEs p f 1 e/\∃g,ea p f (aA p f name) (z e) F=S g)\/(kind=7/\(e=[]\/(fn.word=T/\∃a,e=[a]/\WE p f a))):=by
 obtain⟨⟨q,U⟩,c,n,w,u⟩:=W;rw[fy]at U;rw[okS]at c n;rw[gQ]at w;rw[Gk]at u;simp only[s5,B4]at U c n w;obtain⟨⟨j,d,x⟩,G,O⟩:=U;obtain⟨⟨⟨A,y⟩,bs⟩,r,V⟩:=w;have o:WEs p f (if kind=4\/kind=5 then 2 else 1) e:=⟨⟨_,x⟩,c.1.1.2,n.1.1.2,bs,by split<;>decide,u.1⟩
 have B:WSs p f fn t:=⟨⟨_,G⟩,c.1.2,n.1.2,r,u.2.1⟩
 have X:WSs p f fn el:=⟨⟨_,O⟩,c.2,n.2,V,u.2.2⟩
 have s:z e=1->∃a,e=[a]/\WE p f a:=λhl=>by
  obtain⟨a,rfl⟩:=QD hl;exact⟨a,rfl,o.cons.1⟩
 unfold cN at d;by_cases E:kind=1
 .subst E
  simp at d;have m:=c.1.1.1;simp at m;exact .inl ⟨rfl,s d.2.1,HT hf m⟩
 by_cases H:kind=2
 .subst H
  simp at d;have m:=c.1.1.1;simp at m;obtain⟨a,b,rfl⟩:=QF d.2.1;exact .inr (.inl ⟨rfl,⟨a,b,rfl,o.cons.1,o.cons.2.2.cons.1⟩,HU hf m⟩)
 by_cases I:kind=3
 .subst I
  simp at d;exact .inr (.inr (.inl ⟨rfl,s d.2.1⟩))
 by_cases J:kind=4
 .subst J
  simp at d;exact .inr (.inr (.inr (.inl ⟨rfl,s d.2,B,X⟩)))
 by_cases K:kind=5
 .subst K
  simp at d;exact .inr (.inr (.inr (.inr (.inl ⟨rfl,s d.2.1,B⟩))))
 by_cases P:kind=6
 .subst P
  have m:=c.1.1.1;have Q:=n.1.1.1;simp at m Q A o;exact .inr (.inr (.inr (.inr (.inr (.inl ⟨rfl,o,mO h hf m Q A⟩)))))
 by_cases Y:kind=7
 .subst Y
  simp at d y;refine .inr (.inr (.inr (.inr (.inr (.inr ⟨rfl,?_⟩)))));by_cases Z:z e=0
  .exact .inl (Hk.1 Z)
  .have L:0<z e:=a7
   exact .inr ⟨by first|exact y L|exact y (N1.1 L)|(simp_all),s (by omega)⟩
 .simp[E,H,I,J,K,P,Y]at d
end
end
end
section
open Go.Asm (Str)
open Go.Src (Ex Stm Fn Prog dm aZ szE bw szS aN)
open Go.Mach (applyN tE)
section
structure mP (p:Prog) (fu:Nat) (G:Sg):Prop where
 vl:G.v.length=p.v.length
 al:G.arrs.length=p.a.length
 v:∀x∈G.v,x<4294967296
 a:∀l∈G.arrs,∀x∈l,x<4294967296
 t:G.tk<=fu
structure vB (fn:Src.Fn) (L:List Nat):Prop where
 l:L.length=fn.p.length+fn.l.length
 w:∀x∈L,x<4294967296
def Fin{A:Type}(r:Rs A)(Q:A->Sg->Prop):Prop:=match r with|.ok v G=>Q v G|.en _ _=>True|.no=>False
def Fin.bind{A β:Type}{r:Rs A}{k:A->Sg->Rs β}{Q:A->Sg->Prop}{d:β->Sg->Prop}(h:Fin r Q)(a:∀v G,Q v G->Fin (k v G) d):Fin (r.bind k) d:=by
 cases r with
 |ok v G=>exact a v G h
 |en _ _=>trivial
 |no=>exact h.elim
def Fin.imp{A:Type}{r:Rs A}{Q d:A->Sg->Prop}(h:Fin r Q)(a:∀v G,Q v G->d v G):Fin r d:=by
 cases r with
 |ok v G=>exact a v G h
 |en _ _=>trivial
 |no=>exact h
def vC{fu:Nat}{β:Type}{G:Sg}{k:Sg->Rs β}{Q:β->Sg->Prop}(h:G.tk<fu->Fin (k ⟨G.v,G.arrs,G.out,G.rd,G.tk+1⟩) Q):Fin (tick fu G k) Q:=by
 unfold tick;split
 .rename_i hl;exact h hl
 .trivial
def Mf(inp:Str)(k:Nat):Ai inp k<4294967296:=by
 unfold Ai;split
 .rename_i x _;have:=x.toNat_lt;omega
 .decide
def CI{op x y v:Nat}(ho:op=14\/op=15)(h:applyN op x y=S v):v<=1:=by
 rcases ho with rfl|rfl
 .have h:S (if x<y then 1 else 0)=S v:=h
  cases h;split<;>decide
 .have h:S (if x=y then 1 else 0)=S v:=h
  cases h;split<;>decide
variable{n:Nat}{t:Option (Nat×Nat)}
section
variable{p:Prog}{inp:Str}{fu K:Nat}
section
variable{f:Nat}{fn:Src.Fn}{L:List Nat}{G:Sg}
variable(p fu)in
def QE(G:Sg)(e:Ex)(v:Nat)(ad:Sg):Prop:=v<4294967296/\(dm p.f e=2->v<=1)/\mP p fu ad/\G.tk<=ad.tk
variable(p fu)in
def QS(fn:Src.Fn)(G:Sg)(x:List Nat×Option Nat)(ad:Sg):Prop:=vB fn x.1/\(∀v,x.2=S v->v<4294967296)/\mP p fu ad/\G.tk<=ad.tk
end
variable(p inp fu K)
def TE(n:Nat):Prop:=∀(f:Nat)(fn:Src.Fn),p.f[f]?=S fn->∀(L:List Nat)(G:Sg)(e:Ex),WE p f e->vB fn L->mP p fu G->f*K+2*szE e+(fu-G.tk)<=n->Fin (evE p (aA p) inp fu n f L G e) (QE p fu G e)
def TL(n:Nat):Prop:=∀(f:Nat)(fn:Src.Fn),p.f[f]?=S fn->∀(L:List Nat)(G:Sg)(t:Int)(l:List Ex),WEs p f t l->vB fn L->mP p fu G->f*K+2*bw l+1+(fu-G.tk)<=n->Fin (dq p (aA p) inp fu n f L G l) (λvs ad=>z vs=z l/\(∀x∈vs,x<4294967296)/\mP p fu ad/\G.tk<=ad.tk)
def TS(n:Nat):Prop:=∀(f:Nat)(fn:Src.Fn),p.f[f]?=S fn->∀(L:List Nat)(G:Sg)(s:Stm),WS p f fn s->vB fn L->mP p fu G->f*K+2*szS s+(fu-G.tk)<=n->Fin (evS p (aA p) inp fu n f L G s) (QS p fu fn G)
def TSs(n:Nat):Prop:=∀(f:Nat)(fn:Src.Fn),p.f[f]?=S fn->∀(L:List Nat)(G:Sg)(l:List Stm),WSs p f fn l->vB fn L->mP p fu G->f*K+2*aN l+1+(fu-G.tk)<=n->Fin (de p (aA p) inp fu n f L G l) (QS p fu fn G)
def TW(n:Nat):Prop:=∀(f:Nat)(fn:Src.Fn),p.f[f]?=S fn->∀(L:List Nat)(G:Sg)(a:Ex)(l:List Stm),WE p f a->WSs p f fn l->vB fn L->mP p fu G->f*K+2*(szE a+aN l)+1+(fu-G.tk)<=n->Fin (evW p (aA p) inp fu n f L G a l) (QS p fu fn G)
def TB(n:Nat):Prop:=∀(g:Nat)(gn:Src.Fn),p.f[g]?=S gn->∀(vs:List Nat)(G:Sg),z vs=z gn.p->(∀x∈vs,x<4294967296)->mP p fu G->g*K+2*aN gn.body+2+(fu-G.tk)<=n->Fin (evB p (aA p) inp fu n g vs G) (λv ad=>v<4294967296/\mP p fu ad/\G.tk<=ad.tk)
variable{p inp fu K}
def rI:∀e:Ex,1<=szE e
 |.mk ..=>by rw[szE];omega
def Eh:∀e:Stm,1<=szS e
 |.mk ..=>by rw[szS];omega
def QG(h:aZ p=0)(j:Src.vO p){g:Nat}{gn:Src.Fn}(hg:p.f[g]?=S gn):WSs p g gn gn.body:=by
 obtain⟨V,k,b⟩:=Src.uq h;have hl:1<=z p.f:=by unfold Src.dP at V;simp at V;exact V.1.1.1
 obtain⟨L,c,a⟩:=Src.BJ k hl;have t:=l7 hg;have d:=Src.rm c hg;have e:=Src.rm a hg;rw[C5]at d e;unfold Src.fA at d;rw[s5]at d;unfold Src.tG at e;have i:aA p g=Src.aR (Src.aI p) (Src.aM gn):=by funext s;unfold aA;rw[hg]
 refine⟨⟨1,?_⟩,by rw[i];exact d.2,by rw[i];exact e,?_,j gn t⟩
 .unfold Src.dP at V
  simp only[s5,x9]at V;have:=V.2.2 gn t;unfold Src.fF at this;simp only[s5]at this;exact this.2.2
 .unfold Src.mu at b
  split at b
  .cases b
  .split at b
   .cases b
   .rename_i l
    have:(p.f.all λf=>Src.aX p.f f.word f.body)=T:=by simpa using l
    rw[x9]at this;exact this gn t
def yN{f n g:Nat}{w:Bool}(h:ea p f t n w=S g):g<f/\∃gn,p.f[g]?=S gn/\z gn.p=n:=by
 unfold ea at h;split at h
 .rename_i k d
  split at h
  .rename_i Z
   cases h;obtain⟨rfl,c,a⟩:=Z;refine⟨c,?_⟩;cases b:p.f[g]? with
   |none=>rw[b]at a;cases a
   |some gn=>
     rw[b]at a;simp only[U8,s5,I7]at a;exact⟨gn,rfl,a.2⟩
  .cases h
 .cases h
def HV(J:∀g∈p.f,2*aN g.body+2<=K){n f g:Nat}{fn:Src.Fn}(e:TL p inp fu K n)(hB:TB p inp fu K n)(hf:p.f[f]?=S fn){L:List Nat}{G:Sg}{w:Bool}{l:List Ex}(Z:ea p f t (z l) w=S g)(W:WEs p f 1 l)(i:vB fn L)(c:mP p fu G)(j:f*K+2*bw l+1+(fu-G.tk)<=n):
  Fin ((dq p (aA p) inp fu n f L G l).bind λvs H=>tick fu H λa6=>evB p (aA p) inp fu n g vs a6) (λv ad=>v<4294967296/\mP p fu ad/\G.tk<=ad.tk):=by
 obtain⟨u,gn,d,P⟩:=yN Z;refine(e f fn hf L G 1 l W i c j).bind λvs H⟨U,k,b,x⟩=>vC λm=>?_;have y:=J gn (l7 d);have o:(g+1)*K<=f*K:=L4 _ a7;rw[F1,Q6]at o;have:=hB g gn d vs ⟨H.v,H.arrs,H.out,H.rd,H.tk+1⟩ a7 k ⟨b.vl,b.al,b.v,b.a,m⟩ XS
 exact this.imp λv ad this=>by
  obtain⟨q,r,s⟩:=this;exact⟨q,r,by simp only at s;omega⟩
def Mg(h:aZ p=0)(J:∀g∈p.f,2*aN g.body+2<=K)(A:TE p inp fu K n)(hL:TL p inp fu K n)(hB:TB p inp fu K n):TE p inp fu K (n+1):=by
 intro f fn s L G e W r c E;obtain⟨kind,op,num,name,I⟩:=e;rw[szE]at E;rw[evE];have az:=rI;rcases W.cases h s with⟨rfl,rfl,U⟩|⟨rfl,rfl,k,i,U,o⟩|⟨rfl,⟨a,rfl,U⟩,i,o,h3⟩|⟨rfl,U,g,o⟩|⟨rfl,rfl⟩|⟨rfl,U,a,b,rfl,o,h3⟩|⟨rfl,a,rfl,U⟩|⟨hk,a,b,rfl,U,o,t1,t2⟩
 .rw[l9 rfl]
  unfold l0;simp only;rw[l9 U];exact⟨a7,λj=>by rw[dm]at j;simp at j,c,l8 _⟩
 .rw[j9 b9,l9 rfl]
  unfold l0 CE;simp only[U];have j:∀v:Nat,dm p.f (.mk 2 op num name [])=2->v<=1:=λv j=>by rw[dm]at j;simp at j
  rcases o with⟨rfl,o⟩|⟨rfl,o⟩
  .rw[l9 rfl]
   have O:L[i]?=S (L[i]'(by have:=r.l;omega)):=v8 _;rw[O];exact⟨r.w _ (J4 _),j _,c,l8 _⟩
  .rw[j9 b9,l9 rfl]
   have O:G.v[i]?=S (G.v[i]'(by have:=c.vl;omega)):=v8 _;rw[O];exact⟨c.v _ (J4 _),j _,c,l8 _⟩
 .rw[j9 b9,j9 b9,l9 rfl]
  simp only[bw]at E;refine(A f fn s L G a U r c a7).bind λx H⟨u,B,m,q⟩=>?_;unfold CF;simp only[o,B5];rw[l9 u];have O:H.arrs[i]?=S (H.arrs[i]'(by have:=m.al;omega)):=v8 _;rw[O];show Fin (match (H.arrs[i]'(by have:=m.al;omega))[x]? with|some v=>.ok v H|none=>.en 3 H) _;split
  .rename_i v Q
   exact⟨m.a _ (J4 _) _ (l7 Q),λj=>by rw[dm]at j;simp at j;split at j<;>simp at j,m,q⟩
  .trivial
 .rw[j9 b9,j9 b9,j9 b9,l9 rfl,o]
  have:=HV J hL hB s o U r c a7;show Fin ((dq p (aA p) inp fu n f L G I).bind λvs H=>tick fu H λX=>evB p (aA p) inp fu n g vs X) _
  exact this.imp λv ad this=>by
   exact⟨this.1,λj=>by rw[dm]at j;simp at j;split at j<;>simp at j,this.2⟩
 .rw[j9 b9,j9 b9,j9 b9,j9 b9,l9 rfl]
  exact⟨Mf _ _,λj=>by rw[dm]at j;simp at j,⟨c.vl,c.al,c.v,c.a,c.t⟩,l8 _⟩
 .rw[j9 b9,j9 b9,j9 b9,j9 b9,j9 b9,l9 rfl]
  simp only[bw]at E;have p1:=az a;refine(A f fn s L G a o r c a7).bind λx H⟨u,B,m,q⟩=>?_;refine(A f fn s L H b h3 r m a7).bind λy X⟨V,Y,Z,b4⟩=>?_;unfold opV;rw[l9 ⟨U,u,V⟩];split
  .rename_i v Q
   refine⟨tE u V Q,λj=>?_,Z,a7⟩;rw[dm]at j;simp at j
   have:op=14\/op=15:=by
    split at j
    .split at j
     .assumption
     .simp at j
    .simp at j
   exact CI a7 Q
  .trivial
 .rw[j9 b9,j9 b9,j9 b9,j9 b9,j9 b9,j9 b9,l9 rfl]
  simp only[bw]at E;refine(A f fn s L G a U r c a7).bind λx H⟨u,B,m,q⟩=>?_;exact⟨by split<;>decide,λ_=>by split<;>decide,m,q⟩
 .simp only[bw]at E
  have p1:=az a
  have hb:=λH(m:mP p fu H)(q:G.tk<=H.tk)=>(A f fn s L H b o r m a7).bind (k:=lD) (d:=QE p fu G (.mk kind op num name [a,b])) λy X⟨V,Y,Z,b4⟩=>by
   unfold lD;rw[l9 (Y t2)];exact⟨V,λ_=>Y t2,Z,a7⟩
  rcases hk with rfl|rfl
  .rw[j9 b9,j9 b9,j9 b9,j9 b9,j9 b9,j9 b9,j9 b9,l9 rfl]
   refine(A f fn s L G a U r c a7).bind λx H⟨u,B,m,q⟩=>?_;split
   .exact⟨b9,λ_=>by decide,m,q⟩
   .exact hb H m q
  .rw[j9 b9,j9 b9,j9 b9,j9 b9,j9 b9,j9 b9,j9 b9,j9 b9,l9 rfl]
   refine(A f fn s L G a U r c a7).bind λx H⟨u,B,m,q⟩=>?_;split
   .exact hb H m q
   .unfold lD
    rw[l9 (B t1)];exact⟨u,λ_=>B t1,m,q⟩
def Mh(g:TE p inp fu K n)(i:TL p inp fu K n):TL p inp fu K (n+1):=by
 intro f fn d L G t l W e c j;cases l with
 |nil=>rw[dq];exact⟨rfl,(λ_ h=>by cases h),c,l8 _⟩
 |cons a l=>
   rw[bw]at j;rw[dq];have v:=rI a;obtain⟨k,_,m⟩:=W.cons;refine(g f fn d L G a k e c a7).bind λx H⟨o,w,q,A⟩=>?_;refine(i f fn d L H t l m e q a7).bind λvs B⟨r,s,u,E⟩=>?_;refine⟨by simp[r],λy b=>?_,u,a7⟩;rcases A0.1 b with rfl|b
   .exact o
   .exact s y b
def qL{l:List Nat}{i v:Nat}(h:∀x∈l,x<4294967296)(a:v<4294967296):∀x∈l.set i v,x<4294967296:=λx I=>by
 rcases J6 I with I|rfl
 .exact h x I
 .exact a
def Mj(h:aZ p=0)(J:∀g∈p.f,2*aN g.body+2<=K)(V:TE p inp fu K n)(hL:TL p inp fu K n)(hB:TB p inp fu K n)(O:TSs p inp fu K n)(hW:TW p inp fu K n):TS p inp fu K (n+1):=by
 intro f fn u L G s W q c E;obtain⟨kind,name,e,X,el⟩:=s;rw[szS]at E;rw[evS];have az:=rI;have j:∀v:Nat,(N:Option Nat)=S v->v<4294967296:=λv h=>by cases h
 rcases W.cases h u with⟨rfl,⟨a,rfl,U⟩,k,i,A,I⟩|⟨rfl,⟨a,b,rfl,U,A⟩,i,I,h4⟩|⟨rfl,a,rfl,U⟩|⟨rfl,⟨a,rfl,U⟩,A,I⟩|⟨rfl,⟨a,rfl,U⟩,A⟩|⟨rfl,U,g,A⟩|⟨rfl,U⟩
 .rw[l9 rfl]
  simp only[bw]at E;refine(V f fn u L G a U q c a7).bind λx H⟨B,Y,m,a4⟩=>?_;unfold CG;simp only[A];rcases I with⟨rfl,I⟩|⟨rfl,I⟩
  .rw[l9 rfl,l9 (by have:=q.l;omega)]
   exact⟨⟨by rw[C4];exact q.l,qL q.w B⟩,j,m,a4⟩
  .rw[j9 b9,l9 rfl,l9 (by have:=m.vl;omega)]
   exact⟨q,j,⟨by simp only[C4];exact m.vl,m.al,qL m.v B,m.a,m.t⟩,a4⟩
 .rw[j9 b9,l9 rfl]
  simp only[bw]at E;have p1:=az a;refine(V f fn u L G a U q c a7).bind λx H⟨B,Y,m,a4⟩=>?_;refine(V f fn u L H b A q m a7).bind λy r⟨b1,b2,Q,b4⟩=>?_;unfold qK;simp only[I,B5];rw[l9 B];have hi:r.arrs[i]?=S (r.arrs[i]'(by have:=Q.al;omega)):=v8 _;rw[hi];show Fin (if x<_ then _ else .en 3 r) _;split
  .refine⟨q,j,⟨Q.vl,by simp only[C4];exact Q.al,Q.v,λl hl=>?_,Q.t⟩,by show G.tk<=r.tk;omega⟩
   rcases J6 hl with hl|rfl
   .exact Q.a l hl
   .exact qL (Q.a _ (J4 _)) b1
  .trivial
 .rw[j9 b9,j9 b9,l9 rfl]
  simp only[bw]at E;refine(V f fn u L G a U q c a7).bind λx H⟨B,Y,m,a4⟩=>?_;unfold HQ;split
  .trivial
  .exact⟨q,j,⟨m.vl,m.al,m.v,m.a,m.t⟩,a4⟩
 .rw[j9 b9,j9 b9,j9 b9,l9 rfl]
  simp only[bw]at E;have p1:=az a;refine(V f fn u L G a U q c a7).bind λx H⟨B,Y,m,a4⟩=>?_
  have bl:∀l,WSs p f fn l->2*aN l+1<=2*(szE a+aN X+aN el)->Fin (de p (aA p) inp fu n f L H l) (QS p fu fn G):=λl hl hz=>by
   have:=O f fn u L H l hl q m a7;exact Xe
  split
  .exact bl el I a7
  .exact bl X A a7
 .rw[j9 b9,j9 b9,j9 b9,j9 b9,l9 rfl]
  simp only[bw]at E;show Fin (tick fu G λH=>evW p (aA p) inp fu n f L H a X) _;refine vC λht=>?_;have:=hW f fn u L ⟨G.v,G.arrs,G.out,G.rd,G.tk+1⟩ a X U A q ⟨c.vl,c.al,c.v,c.a,ht⟩ XS;exact VO
 .rw[j9 b9,j9 b9,j9 b9,j9 b9,j9 b9,l9 rfl,A]
  have:=(HV J hL hB u A U q c a7).bind (k:=λ_ o=>.ok (L,N) o) (d:=QS p fu fn G) λv ad⟨_,c2,c3⟩=>⟨q,j,c2,c3⟩
  show Fin ((dq p (aA p) inp fu n f L G e).bind λvs H=>tick fu H λr=>(evB p (aA p) inp fu n g vs r).bind λ_ o=>.ok (L,N) o) _;cases Z:dq p (aA p) inp fu n f L G e with
  |no=>rw[Z]at this;exact this
  |en _ _=>trivial
  |ok vs H=>
    rw[Z]at this;show Fin (tick fu H λr=>(evB p (aA p) inp fu n g vs r).bind λ_ o=>.ok (L,N) o) _;have e:(tick fu H λr=>(evB p (aA p) inp fu n g vs r).bind λ_ o=>.ok (L,N) o)=(tick fu H λr=>evB p (aA p) inp fu n g vs r).bind λ_ o=>.ok (L,(N:Option Nat)) o:=by unfold tick;split<;>rfl
    rw[e];exact this
 .rw[j9 b9,j9 b9,j9 b9,j9 b9,j9 b9,j9 b9,l9 rfl]
  rcases U with rfl|⟨b6,a,rfl,U⟩
  .exact⟨q,λv h=>by cases h;decide,c,l8 _⟩
  .simp only[bw]at E
   show Fin (if (p.f[f]?).any (·.word)=T then(evE p (aA p) inp fu n f L G a).bind λv H=>.ok (L,S v) H else .no) _;rw[l9 (by rw[u];exact b6)];refine(V f fn u L G a U q c a7).bind λx H⟨B,Y,m,a4⟩=>?_;exact⟨q,λv h=>by cases h;exact B,m,a4⟩
def HW(j:TS p inp fu K n)(O:TSs p inp fu K n):TSs p inp fu K (n+1):=by
 intro f fn b L G l W d c k;cases l with
 |nil=>rw[de];exact⟨d,(λ_ h=>by cases h),c,l8 _⟩
 |cons a l=>
   rw[aN]at k;rw[de];have s:=Eh a;obtain⟨m,o⟩:=W.cons;refine(j f fn b L G a m d c a7).bind λx H⟨e,q,g,a4⟩=>?_;obtain⟨i,r⟩:=x;cases r with
   |some v=>exact⟨e,λu h=>by cases h;exact q _ rfl,g,a4⟩
   |none=>
     have:=O f fn b i H l o e g a7;show Fin (de p (aA p) inp fu n f i H l) _;exact Xe
def Ml(q:TE p inp fu K n)(O:TSs p inp fu K n)(hW:TW p inp fu K n):TW p inp fu K (n+1):=by
 intro f fn e L G a l i j g c A;rw[evW];have B:=rI a;refine(q f fn e L G a i g c a7).bind λx H⟨E,I,k,s⟩=>?_;split
 .exact⟨g,(λ_ h=>by cases h),k,s⟩
 refine(O f fn e L H l j g k a7).bind λx b⟨m,w,d,J⟩=>?_;obtain⟨o,r⟩:=x;cases r with
 |some v=>exact⟨m,λu h=>by cases h;exact w _ rfl,d,a7⟩
 |none=>
   refine vC λy=>?_;have:=hW f fn e o ⟨b.v,b.arrs,b.out,b.rd,b.tk+1⟩ a l i j m ⟨d.vl,d.al,d.v,d.a,y⟩ XS;show Fin (evW p (aA p) inp fu n f o _ a l) _;exact VO
def Mm(h:aZ p=0)(w:Src.vO p)(O:TSs p inp fu K n):TB p inp fu K (n+1):=by
 intro g gn a vs G b d c m;rw[evB,a];show Fin (if z vs=z gn.p then(de p (aA p) inp fu n g (vs++List.replicate (z gn.l) 0) G gn.body).bind λr H=>.ok (r.2.getD 0) H else .no) _;rw[l9 b];refine(O g gn a _ G gn.body (QG h w a) ⟨by simp[b],λx I=>?_⟩ c a7).bind λx H⟨o,e,i,j⟩=>?_
 .rcases C1.1 I with I|I
  .exact d x I
  .rw[F6 I];decide
 .refine⟨?_,i,j⟩
  cases k:x.2 with
  |none=>decide
  |some v=>exact e v k
def Al(h:aZ p=0)(w:Src.vO p)(J:∀g∈p.f,2*aN g.body+2<=K):∀n:Nat,TE p inp fu K n/\TL p inp fu K n/\TB p inp fu K n/\TS p inp fu K n/\TSs p inp fu K n/\TW p inp fu K n
 |0=>by
   refine⟨λf fn c L G e _ _ _ b=>?_,λf fn c L G t l _ _ _ b=>?_,λg gn o vs G _ _ _ b=>?_,λf fn c L G s _ _ _ b=>?_,λf fn c L G l _ _ _ b=>?_,λf fn c L G a l _ _ _ _ b=>?_⟩
   .have:=rI e;omega
   .omega
   .omega
   .have:=Eh s;omega
   .omega
   .omega
 |n+1=>by
   obtain⟨U,i,j,m,d,k⟩:=Al h w J n;exact⟨Mg h J U i j,Mh U i,Mm h w d,Mj h J U i j d k,HW m d,Ml U d k⟩
def UA(h:aZ p=0)(w:Src.vO p):∃n,runN p inp fu n≠.no:=by
 obtain⟨V,b,_⟩:=Src.uq h;have hl:1<=z p.f:=by unfold Src.dP at V;simp at V;exact V.1.1.1
 obtain⟨K,J⟩:∃K,∀g∈p.f,2*aN g.body+2<=K:=by
  have:∀l:List Src.Fn,∃K,∀g∈l,2*aN g.body+2<=K:=by
   intro l
   induction l with
   |nil=>exact⟨0,λ_ h=>by cases h⟩
   |cons a l i=>
     obtain⟨K,J⟩:=i;refine⟨K+(2*aN a.body+2),λg d=>?_⟩;rcases A0.1 d with rfl|d
     .omega
     .have:=J g d;omega
  exact this _
 obtain⟨fn,e⟩:∃fn,p.f[z p.f-1]?=S fn:=⟨_,v8 a7⟩
 have c:fn.p=[]:=by
  unfold Src.eZ at b;split at b
  .cases b
  .rw[Pd,e]at b
   simp only at b;split at b
   .rename_i Z;exact Z.2.2.1
   .cases b
 refine⟨(z p.f-1)*K+2*aN fn.body+2+fu,λu=>?_⟩
 have:=(Al (inp:=inp) (fu:=fu) h w J ((z p.f-1)*K+2*aN fn.body+2+fu)).2.2.1 _ fn e [] (start p) (by rw[c];rfl) (λ_ h=>by cases h) ⟨by simp[start],by simp[start],λx I=>by rw[F6 I];decide,λl hl x I=>by
  obtain⟨a,_,rfl⟩:=D6.1 hl;rw[F6 I];decide,L1 _⟩ (l8 _)
 unfold runN at u;rw[u]at this;exact this
end
end
end
end Go.Mn
namespace Go.Proofs.YtlacbjnmkhndiaaGreatDoor
section
open Go Go.Am Go.Asm
open Go.Src (Ex Stm dX)
open Go.Mn (Sg Rs evE dq evS de evW evB aA l0 l1 l2 l01)
section
section
variable{p:Src.Prog}{inp:Str}{fu gV gA:Nat}{gk:Nat->Nat}
def Kh{f:Nat}{c:Str}:∀k i,aA p f c=S (k,i)->k=3->i<z p.a:=λk i h d=>by
 cases b:p.f[f]? with
 |none=>unfold aA at h;rw[b]at h;cases h
 |some fn=>
   have:=Mn.Ps b h;omega
def Bv{f n g:Nat}{t:Option (Nat×Nat)}{w:Bool}(h:Mn.ea p f t n w=S g):t=S (4,g)/\g<z p.f:=by
 unfold Mn.ea at h;split at h
 .rename_i k c
  split at h
  .rename_i Z
   cases h;obtain⟨rfl,d,a⟩:=Z;refine⟨rfl,?_⟩;cases b:p.f[g]? with
   |none=>rw[b]at a;cases a
   |some gn=>exact(l6.1 b).1
  .cases h
 .cases h
def NT{n:Nat}(j:∀m,m<=n->HE p inp fu gV gA gk m)(hB:HB p inp fu gV gA gk n):HE p inp fu gV gA gk (n+1):=by
 intro f L G A x e s;by_cases k:A=0
 case neg=>exact PY k
 subst k;obtain⟨kind,op,num,i,d⟩:=x;obtain⟨r,V⟩:∃r,evE p (aA p) inp fu (n+1) f L G (.mk kind op num i d)=r:=⟨_,rfl⟩
 have u:=s rfl;clear s;rw[V]at u|-;rw[evE]at V;rw[Src.szE]at e;have c:=j n (l8 _);show qB p inp fu gV gA gk f L G 0 (.mk kind op num i d) r;by_cases l:kind=1
 .subst l
  rw[l9 rfl]at V;cases d with
  |cons=>exact absurd V.symm u
  |nil=>
    simp only[l0]at V;split at V
    .rename_i E
     obtain⟨q,rfl⟩:∃q:Nat,num=(q:Nat):=⟨num.toNat,a7⟩
     rw[B6]at V;rw[<-V];exact Wv
    .exact absurd V.symm u
 rw[j9 l]at V;by_cases o:kind=2
 .subst o
  rw[l9 rfl]at V;cases d with
  |cons=>exact absurd V.symm u
  |nil=>exact Wx V u
 rw[j9 o]at V;by_cases t:kind=3
 .subst t
  rw[l9 rfl]at V
  match d with
  |[]=>exact absurd V.symm u
  |_::_::_=>exact absurd V.symm u
  |[a]=>
    simp only[Src.bw]at e;exact Wz c a7 V u Kh
 rw[j9 t]at V;by_cases v:kind=4
 .subst v
  rw[l9 rfl]at V;cases Z:Mn.ea p f (aA p f i) (z d) T with
  |none=>rw[Z]at V;exact absurd V.symm u
  |some g=>
    rw[Z]at V;obtain⟨U,B⟩:=Bv Z;exact Sa (Kl j hB a7 U B V u)
 rw[j9 v]at V;by_cases w:kind=5
 .subst w
  rw[l9 rfl]at V;cases d with
  |cons=>exact absurd V.symm u
  |nil=>
    rw[<-V];exact Wy
 rw[j9 w]at V;by_cases P:kind=6
 .subst P
  rw[l9 rfl]at V
  match d with
  |[]=>exact absurd V.symm u
  |[_]=>exact absurd V.symm u
  |_::_::_::_=>exact absurd V.symm u
  |[a,b]=>
    simp only[Src.bw]at e;exact Zs c a7 V u
 rw[j9 P]at V;by_cases Y:kind=7
 .subst Y
  rw[l9 rfl]at V
  match d with
  |[]=>exact absurd V.symm u
  |_::_::_=>exact absurd V.symm u
  |[a]=>
    simp only[Src.bw]at e;exact Ww c a7 V u
 rw[j9 Y]at V;by_cases y:kind=8\/kind=9
 .match d with
  |[]=>split at V<;>first|exact absurd V.symm u|(split at V<;>exact absurd V.symm u)
  |[_]=>split at V<;>first|exact absurd V.symm u|(split at V<;>exact absurd V.symm u)
  |_::_::_::_=>split at V<;>first|exact absurd V.symm u|(split at V<;>exact absurd V.symm u)
  |[a,b]=>
    simp only[Src.bw]at e;refine Zt y c a7 ?_ u;rcases y with rfl|rfl
    .rw[l9 rfl]at V
     simp only[B5];exact V
    .rw[j9 b9,l9 rfl]at V
     simp only[show ¬(9:Int)=8 by decide,B1];exact V
 .rw[j9 a7,j9 a7]at V
  exact absurd V.symm u
def NU{n:Nat}(i:∀m,m<=n->HE p inp fu gV gA gk m)(hB:HB p inp fu gV gA gk n)(O:∀m,m<=n->HSs p inp fu gV gA gk m):HS p inp fu gV gA gk (n+1):=by
 intro f L G x d u;obtain⟨kind,l,e,y,el⟩:=x;obtain⟨r,V⟩:∃r,evS p (aA p) inp fu (n+1) f L G (.mk kind l e y el)=r:=⟨_,rfl⟩
 rw[V]at u|-;rw[evS]at V;rw[Src.szS]at d;have c:=i n (l8 _);by_cases q:kind=1
 .subst q
  rw[l9 rfl]at V
  match e with
  |[]=>exact absurd V.symm u
  |_::_::_=>exact absurd V.symm u
  |[a]=>
    simp only[Src.bw]at d;exact Ic c a7 V u
 rw[j9 q]at V;by_cases s:kind=2
 .subst s
  rw[l9 rfl]at V
  match e with
  |[]=>exact absurd V.symm u
  |[_]=>exact absurd V.symm u
  |_::_::_::_=>exact absurd V.symm u
  |[a,b]=>
    simp only[Src.bw]at d;exact yS c a7 V u Kh
 rw[j9 s]at V;by_cases t:kind=3
 .subst t
  rw[l9 rfl]at V
  match e with
  |[]=>exact absurd V.symm u
  |_::_::_=>exact absurd V.symm u
  |[a]=>
    simp only[Src.bw]at d;exact Ie c a7 V u
 rw[j9 t]at V;by_cases v:kind=4
 .subst v
  rw[l9 rfl]at V
  match e with
  |[]=>exact absurd V.symm u
  |_::_::_=>exact absurd V.symm u
  |[a]=>
    simp only[Src.bw]at d;exact Zu c (O n (l8 _)) a7 V u
 rw[j9 v]at V;by_cases w:kind=5
 .subst w
  rw[l9 rfl]at V
  match e with
  |[]=>exact absurd V.symm u
  |_::_::_=>exact absurd V.symm u
  |[a]=>
    simp only[Src.bw]at d;exact NX i O a7 V u
 rw[j9 w]at V;by_cases P:kind=6
 .subst P
  rw[l9 rfl]at V;cases Z:Mn.ea p f (aA p f l) (z e) F with
  |none=>rw[Z]at V;exact absurd V.symm u
  |some g=>
    rw[Z]at V;obtain⟨U,A⟩:=Bv Z;obtain⟨j,k⟩:∃j,(dq p (aA p) inp fu n f L G e).bind (λvs H=>Mn.tick fu H λB=>evB p (aA p) inp fu n g vs B)=j:=⟨_,rfl⟩
    have Q:j.bind (λ_ o=>.ok (L,N) o)=r:=by
     rw[<-V,<-k];simp only[Mn.need];cases dq p (aA p) inp fu n f L G e with
     |no=>rfl
     |en=>rfl
     |ok vs H=>
       by_cases E:H.tk<fu<;>simp only[Rs.bind,Mn.tick,E,B5,B1]
    exact Sb (Kl i hB a7 U A k λI=>u (by rw[<-Q,I];rfl)) Q
 rw[j9 P]at V;by_cases Y:kind=7
 .subst Y
  rw[l9 rfl]at V
  match e with
  |_::_::_=>exact absurd V.symm u
  |[]=>
    simp only[l01]at V;rw[<-V];exact Sc
  |[a]=>
    simp only[Src.bw]at d;simp only[l01]at V;split at V
    .exact Sd c a7 V u
    .exact absurd V.symm u
 .rw[j9 Y]at V
  exact absurd V.symm u
def PW:∀n:Nat,(∀m,m<=n->HE p inp fu gV gA gk m)/\(∀m,m<=n->HB p inp fu gV gA gk m)/\(∀m,m<=n->HS p inp fu gV gA gk m)
 |0=>by
   refine⟨λm a=>?_,λm a=>?_,λm a=>?_⟩<;>obtain rfl:m=0:=a7
   .intro f L G e x g u
    by_cases c:e=0
    .exact absurd (by rw[evE]) (u c)
    .exact PY c
   .intro f vs G _ _ u
    exact absurd (by rw[evB]) u
   .intro f L G x g u
    exact absurd (by rw[evS]) u
 |n+1=>by
   obtain⟨U,b,d⟩:=PW n;have O:∀m,m<=n->HSs p inp fu gV gA gk m:=λm a=>NW λq l=>d q a7;have i:=NT U (b n (l8 _));have j:=RY (O n (l8 _));have k:=NU U (b n (l8 _)) O;refine⟨λm a=>?_,λm a=>?_,λm a=>?_⟩<;>rcases Nat.lt_or_eq_of_le a with a|rfl
   .exact U m a7
   .exact i
   .exact b m a7
   .exact j
   .exact d m a7
   .exact k
end
end
end
section
open Go Go.Am Go.Asm
open Go.Src (Ex Stm dX)
open Go.Mn (Sg Rs evE dq evS de evW evB aA)
attribute[local congr]ite_cc
def PX(e:Nat)(out:Str)(tk:Nat):AV:=.agg [ag (e:Nat),bF out,ag (tk:Nat)]
def lN(r:Rs Nat):Nat×Str×Nat:=match r with|.ok _ G=>(1,G.out,G.tk)|.en e G=>(e,G.out,G.tk)|.no=>(0,[],0)
def Ki(s:Str):u8s (bM s)=S (s.map λb=>((b.toNat:Nat):Int)):=qa s
def yc(bs:List UInt8):((bs.map λb=>((b.toNat:Nat):Int)).map λn=>UInt8.ofNat n.toNat)=bs:=by
 induction bs with
 |nil=>rfl
 |cons b bs a=>rw[s6,s6,a];simp
def Fa{s:St}{a c:Int}{b:Str}:lW s (.agg [ag a,bF b,ag c]) (.agg [ag a,bF b,ag c]):=by
 refine⟨[.int .i64 a,.str b,.int .i64 c],rfl,λi c m=>?_,rfl⟩
 match i,m with
 |0,m=>cases m;exact⟨_,rfl,.d _⟩
 |1,m=>cases m;exact⟨_,rfl,.d _⟩
 |2,m=>cases m;exact⟨_,rfl,.d _⟩
def Kj(n:Nat):wM (List.replicate n 0)=List.replicate n (.d (.int .u32 0)):=by simp[wM]
def Wu{o:cT}{p:Src.Prog}{inp:Str}{fu n:Nat}(sm:SmM p inp fu)(hp:Src.dP p=T)(u:Mn.runN p inp fu n≠.no):
  ck Tryz.prog 1 o 23 [cl p,sv inp,ae fu] (·=PX (lN (Mn.runN p inp fu n)).1 (lN (Mn.runN p inp fu n)).2.1 (lN (Mn.runN p inp fu n)).2.2):=by
 have b0:1<=z p.f:=by unfold Src.dP at hp;simp at hp;exact hp.1.1.1
 have an:∀a∈p.a,1<=a.2/\a.2<=4096:=by
  unfold Src.dP at hp;simp only[s5,x9]at hp;intro a ha;have:=hp.2.1 a ha;exact u6
 have bd:=sm.a;have b2:=sm.v;have b4:=sm.f;have b3:=sm.fu;refine rB 1000 1 o aO mixed Tryz.func23 rfl j4 [.cell 6 53] rfl j0 j0 (by simp[Tryz.ntmps23]) λO bn s0 w0 g=>?_;have h0:¬(z p.f:Int)=0:=a7;have a6:¬(fu:Int)<0:=a7;have hw:IntKind.i64.wrap ((z p.f:Int)-1)=((z p.f-1:Nat):Int):=by rw[wrap_i64]<;>omega
 rw[bO];simp only[go_sem,j7,h0,a6];refine cB aO mixed aL [1022,1024] [([3],[0],[],F),([1],[0],[],F),([2],[0],[],F),([3],[],[],F),([19],[],[],F),([20],[],[],F),([21],[],[0],F),([16,17,18,22],[],[],F),([23],[],[1],F),([24],[],[],T)] 2 rfl c9 rfl b9 ?_;simp only[go_sem,j7]
 iterate 6 (apply aw;(case hg=>first|exact y8|exact⟨_,rfl,by decide,rfl⟩);(case U=>intro fa ga oa K' J;simp only[go_sem,j7]at J|-;exact J))
 (apply bV;(case hg=>exact y8);(case U=>intro fa ga oa K' J;simp only[go_sem,j7]at J|-;exact⟨a7,a7,a7,J⟩))
 (apply aw;(case hg=>first|exact y8|exact⟨_,rfl,by decide,rfl⟩);(case U=>intro fa ga oa K' J;simp only[go_sem]at J|-;exact J))
 (apply bV;(case hg=>first|exact y8|exact⟨_,rfl,by decide,rfl⟩);(case U=>intro fa ga oa K' J;simp only[go_sem]at J|-;exact J))
 refine cC y8 ?_;intro K' a';simp only[go_sem];refine a' _ ?_;clear a' K';obtain⟨gV,al⟩:∃gV,nxC (ba Tt 29+1) (g 1022)=gV:=⟨_,rfl⟩
 simp only[go_sem,al]
 refine mQ _ ((eP (t:=7) (o:=1024) (b:=1023) (j:=7) (sz:=1) (off:=0) (cells:=[aq (p.v.map λs=>[.str s]),aq (p.a.map arD),aq (p.f.map fnD),bF inp,ag (fu:Nat),.osl 1022 gV 1 0 (z p.v),.d .nsl,.d .nsl,ag 0,ag 0,ag 0]) XD XD rfl b9).trans
  (eP (t:=7) (o:=1024) (b:=1021) (j:=6) (sz:=1) (off:=0) (cells:=[aq (p.v.map λs=>[.str s]),aq (p.a.map arD),aq (p.f.map fnD),bF inp,ag (fu:Nat),.osl 1022 gV 1 0 (z p.v),.d .nsl,.osl 1023 (g 1023+1) 1 0 0,ag 0,ag 0,ag 0]) X2 X2 rfl b9))
  (λm K=>∃k,m+k=z p.a/\K.f 7=aj 1024 (K.gen 1024) 0/\K.f 8=ae k/\K.f 3=aj 1003 (K.gen 1003) 0/\K.f 6=aj 1006 (K.gen 1006) 0/\K.obj 1003=S [aq (p.v.map λs=>[.str s]),aq (p.a.map arD),aq (p.f.map fnD)]/\K.obj 1006=S [ag 0,bF [],ag 0]/\
    K.obj 1024=S [aq (p.v.map λs=>[.str s]),aq (p.a.map arD),aq (p.f.map fnD),bF inp,ag (fu:Nat),.osl 1022 gV 1 0 (z p.v),.osl 1021 (K.gen 1021) 1 0 k,.osl 1023 (K.gen 1023) 1 0 0,ag 0,ag 0,ag 0]/\K.obj 1023=S []/\K.obj 1022=S (wM (List.replicate (z p.v) 0))/\K.gen 1022=gV/\
    K.obj 1021=S ((List.range k).map λj=>C.osl (2000+j) (K.gen (2000+j)) 1 0 (alM p j))/\(∀j,j<k->K.obj (2000+j)=S (wM (List.replicate (alM p j) 0)))/\∀i,1100<=i->¬(2000<=i/\i<2000+k)->K.obj i=N) (z p.a) ?_ ?_
 .simp only[St.claimAt]
  refine⟨0,rfl,?_⟩;simp only[go_sem];refine⟨by rw[Kj,Qg],rfl,λj hj=>absurd hj a7,λi hi hn=>?_⟩
  (repeat rw[j9 (by omega)])
 rintro mm fs g1 av ⟨k,hm,q7,q8,q3,q6,B,W,bs,cu,cv,q,cx,oA,bk⟩;simp only at q7 q8 q3 q6 B W bs cu cv q cx oA bk;have b1:=ah (k:=k) a7;by_cases af:k<z p.a
 .have Q:(k:Int)<(z p.a:Int):=a7
  have bf:(0:Int)<=(k:Int):=a7;obtain⟨a,ha⟩:=getq af;have cb:=getD_at (f:=arD) ha;obtain⟨cf,bz⟩:=an a (l7 ha);have bl:alM p k=a.2.toNat:=by unfold alM;rw[ha];rfl
  have X:z ((List.range k).map λj=>C.osl (2000+j) (g1 (2000+j)) 1 0 (alM p j))=k:=a8;simp only[go_sem,q7,q8,q3,B,Q,bf,j7];refine cB aO mixed aL [1043,1044,1021] [([7],[0,1,2],[],F),([7],[0,1],[],F),([33],[0,1],[],F),([34],[0,1],[],F),([35],[0,1],[],F),([3],[],[],F),([37],[],[],F),([8],[],[],F),([38,39],[],[],F),([40],[],[],F),([41],[],[],F),([42],[],[0],F),([43],[],[1],F),([36,44],[],[2],F),([32],[],[],F),([46],[],[],F),([47,45],[],[],T)] 3 rfl c9 rfl b9 ?_;simp only[go_sem]
  iterate 5 (apply aw;(case hg=>first|exact y8|exact⟨_,rfl,by decide,rfl⟩);(case U=>intro fa ga oa K' J;simp only[go_sem,q7,bs]at J|-;exact J))
  iterate 2 (apply aw;(case hg=>first|exact y8|exact⟨_,rfl,by decide,rfl⟩);(case U=>intro fa ga oa K' J;simp only[go_sem,q3,B]at J|-;exact J))
  iterate 4 (apply aw;(case hg=>first|exact y8|exact⟨_,rfl,by decide,rfl⟩);(case U=>intro fa ga oa K' J;simp only[go_sem,q8,bf,Q,j7,cb,arD]at J|-;exact J))
  (apply bV;(case hg=>exact y8);(case U=>intro fa ga oa K' J;simp only[go_sem]at J|-;exact⟨a7,a7,a7,a7,J⟩))
  (apply bV;(case hg=>first|exact y8|exact⟨_,rfl,by decide,rfl⟩);(case U=>intro fa ga oa K' J;simp only[go_sem]at J|-;exact J))
  (apply bV;(case hg=>exact y8);(case U=>intro fa ga oa K' J;simp only[go_sem,cx,X]at J|-;exact⟨a7,⟨b9,a7⟩,J⟩))
  iterate 2 (apply aw;(case hg=>first|exact y8|exact⟨_,rfl,by decide,rfl⟩);(case U=>intro fa ga oa K' J;simp only[go_sem,q7,bs]at J|-;exact J))
  refine cC y8 ?_;intro K' a';simp only[go_sem];simp only[go_sem,bs];refine a' _ ?_;clear a' K';have z1:(2000+k=1021)=False:=by simp;omega
  have A:(2000+k=1024)=False:=by simp;omega
  have z3:(2000+k=1043)=False:=by simp;omega
  have z4:(2000+k=1044)=False:=by simp;omega
  have b6:(List.replicate a.2.toNat [C.d (.int .u32 0)]).flatten=wM (List.replicate (alM p k) 0):=by rw[Kj,Qg,bl]
  rw[b6,<-bl,s7 (F7 X)];simp only[go_sem,b1,q8];refine⟨mm-1,_,a7,FC (t:=45) (id:=1043) (L:=2000+k) (o:=1021) (j:=k) (sz:=1) (off:=0) (len:=alM p k) (ar:=1) (G:=0) (I:=k+1) (cs:=wM (List.replicate (alM p k) 0)) (cells:=((List.range k).map λj=>C.osl (2000+j) (g1 (2000+j)) 1 0 (alM p j))++[.osl 1043 (nxC (ba Tt 29+1) (g1 1043)) 1 0 (alM p k)]) XD XD (by simp only[go_sem,z1,A,z3,z4];exact bk _ a7 a7) XD b9 a7 a7 (by rw[D1 (F7 X),X,Lz];simp only[go_sem]),k+1,a7,?_⟩;have y:∀c,c<2000->(c=2000+k)=False:=λc Z=>by simp;omega
  simp only[St.rename];simp only[go_sem,z1,A,z3,z4,y 1003 b9,y 1006 b9,y 1021 b9,y 1022 b9,y 1023 b9,y 1024 b9,q7,q3,q6,B,W,bs,cu,cv,q];refine⟨?_,λj hj=>?_,λi hi hn=>?_⟩
  .rw[J0 _ _ (F7 X),X,Lz,A8]
   refine congr (congrArg HAppend.hAppend (R8 λj hj=>?_)) ?_
   .have:=D4.1 hj
    rw[j9 a7,j9 a7,j9 a7,j9 a7]
   .simp
  .rw[j9 a7]
   by_cases e:j=k
   .rw[l9 e,e]
   .rw[j9 e,j9 a7,j9 a7,j9 a7,j9 a7,j9 a7]
    exact oA j a7
  ·(repeat rw[j9 (by omega)])
   exact bk i hi a7
 have Q:¬(k:Int)<(z p.a:Int):=a7;obtain rfl:k=z p.a:=a7
 have H:SvM p inp fu gV (g1 1021) (λj=>g1 (2000+j)) g1 av (Mn.start p) 0:=by
  refine⟨λi=>?_,q,rfl,cx,λj _=>rfl,by simp[Mn.start],by simp[Mn.start],λj l hl=>?_⟩
  .unfold pS
   by_cases e1:i=1024
   .rw[l9 e1,e1,bs];rfl
   rw[j9 e1];by_cases e2:i=1023
   .rw[l9 e2,e2,cu];rfl
   rw[j9 e2];by_cases e3:i=1022
   .rw[l9 e3,e3,cv];rfl
   rw[j9 e3];by_cases e4:2000<=i/\i<2000+z p.a
   .rw[l9 e4]
    obtain⟨j,rfl⟩:∃j,i=2000+j:=⟨i-2000,a7⟩
    rw[oA j a7,P7];obtain⟨a,ha⟩:∃a,p.a[j]?=S a:=⟨_,v8 a7⟩
    simp only[Mn.start,w9,ha,A3,A6,alM]
   .rw[j9 e4]
  .simp only[Mn.start,w9]at hl
   obtain⟨a,ha,rfl⟩:=G5.1 hl;simp[alM,ha]
 have hB:=(PW (p:=p) (inp:=inp) (fu:=fu) (gV:=gV) (gA:=g1 1021) (gk:=λj=>g1 (2000+j)) n).2.1 n (l8 _);have b8:∀i,3001<=i->av i=N:=λi hi=>bk i a7 a7;have Y:=hB (z p.f-1) [] (Mn.start p) sm a7 u (L1 _) 3001 g1 av 3000 (.one (.d .nsl)) b9 b9 b9 b8 H (.inl ⟨rfl,rfl⟩);obtain⟨r,V⟩:∃r,Mn.runN p inp fu n=r:=⟨_,rfl⟩
 rw[show evB p (aA p) inp fu n (z p.f-1) [] (Mn.start p)=r from V]at Y;rw[V]at u|-;simp only[go_sem,q3,q8,B,Q,j7];refine dA aL rfl (by simp only[go_sem,q7,hw,j7];exact Y) ?_;rintro _ g2 bo ⟨v,ad,e',w,A1,K1,rfl,r4⟩;have P:∀i,i<1100->g2 i=upd g1 1023 w i/\bo i=pS p inp fu gV (g1 1021) w ad e' i (av i):=λi hi=>r4 i a7;have h:bo 1024=S (rnM p inp fu gV (g1 1021) w ad e'):=(P 1024 b9).2;have az:bo 1023=S (bM ad.out):=(P 1023 b9).2;have x:bo 1006=S [ag 0,bF [],ag 0]:=by rw[(P 1006 b9).2,pS,j9 b9,j9 b9,j9 b9,j9 a7];exact W
 have u24:g2 1024=g1 1024:=(P 1024 b9).1;have E:g2 1006=g1 1006:=(P 1006 b9).1;have u23:g2 1023=w:=(P 1023 b9).1;have cm:=Kf ad.out;unfold rnM at h;by_cases he:e'=0
 .subst he
  have a1:lN r=(1,ad.out,ad.tk):=by rw[A1.ok];rfl
  rw[a1];simp only[go_sem,q6,q7,h,u24];exact Mi
 .have a1:lN r=(e',ad.out,ad.tk):=by rw[A1.en he];rfl
  have cc:¬(e':Int)=0:=a7;rw[a1];simp only[go_sem,q6,q7,h,u24,cc];exact Mi
end
end Go.Proofs.YtlacbjnmkhndiaaGreatDoor
namespace Go.Emit
section
open Go.Lower (Ins Code Sig codeOf takes Az jI Good OkI gu)
open Go.Src (CFn ab aZ sigs dP au vO)
section
def inP(v d:Int)(b:Bool):Prop:=if b=T then 0<=v/\v<=d else v=0
def rM(x:MI):Prop:=(1<=x.1/\x.1<=27)/\inP x.2.1 15 (Asm.shape x.1.toNat).1/\inP x.2.2.1 15 (Asm.shape x.1.toNat).2.1/\inP x.2.2.2 (if (Asm.shape x.1.toNat).2.2=2 then 15 else 65535) (decide ((Asm.shape x.1.toNat).2.2≠0))
def pk{op r b v:Int}(h:op=16\/op=17)(V:0<=r/\r<=15)(e:0<=b/\b<=15)(g:0<=v/\v<=65535):rM (op,r,b,v):=by
 rcases h with rfl|rfl<;>exact⟨a8,V,e,g⟩
def vP{op r v:Int}(h:op=1\/op=2\/op=19\/op=20\/op=21\/op=25)(V:0<=r/\r<=15)(e:0<=v/\v<=65535):rM (op,r,0,v):=by
 rcases h with rfl|rfl|rfl|rfl|rfl|rfl<;>exact⟨a8,V,rfl,e⟩
def Yp{v:Int}(e:0<=v/\v<=65535):rM (18,0,0,v):=⟨a8,rfl,rfl,e⟩
def Eo{op a b c:Int}(h:4<=op/\op<=15)(g:0<=a/\a<=15)(i:0<=b/\b<=15)(Z:0<=c/\c<=15):rM (op,a,b,c):=by
 have e:Asm.shape op.toNat=(T,T,2):=by
  have j:4<=op.toNat/\op.toNat<=15:=a7;unfold Asm.shape;rw[j9 a7,j9 a7,l9 j]
 refine⟨⟨by simp only;omega,by simp only;omega⟩,?_⟩;simp only[e];exact⟨g,i,Z⟩
def QU{op r:Int}(h:op=22\/op=23\/op=24)(V:0<=r/\r<=15):rM (op,r,0,0):=by
 rcases h with rfl|rfl|rfl<;>exact⟨a8,V,rfl,rfl⟩
def Yq:rM (26,0,0,0):=⟨b9,rfl,rfl,rfl⟩
def OkW(env:Int×Int->Int)(w:Nat->Wr):Prop:=iD w/\∀n,n+z (w n).code<=60000->∀x∈close env w n,rM x
variable{a b c d:Int}
section
variable{env:Int×Int->Int}{v w:Nat->Wr}
def cF(e:OkW env v)(g:OkW env w):OkW env (ax v w):=⟨lq e.1 g.1,λn i x I=>by
 rw[cM e.1 g.1]at I;simp only[ax,j8]at i;rcases C1.1 I with h|h
 .exact e.2 n a7 x h
 .exact g.2 _ a7 x h⟩
def ma:OkW env eC:=⟨lr,λ_ _ _ h=>by cases h⟩
def dR(h:rM (a,b,c,d)):OkW env (aD a b c d):=⟨dO,λn _ x I=>by rw[gy,E3]at I;rw[I];exact h⟩
def vQ(h:rM (a,b,0,env (c,d))):OkW env (aE a b c d):=⟨jg,λn _ x I=>by rw[jh,E3]at I;rw[I];exact h⟩
variable{P:Plan}{f:Nat}{d b:Int}{fs:List CFn}
def lF{r k:Int}(V:0<=r/\r<=15)(e:0<=(P.base[f]?).getD 0+d-k/\(P.base[f]?).getD 0+d-k<=65535):OkW env (dJ P f d r k):=dR (pk (.inl rfl) V b9 e)
def qQ{r k:Int}(V:0<=r/\r<=15)(e:0<=(P.base[f]?).getD 0+d-k/\(P.base[f]?).getD 0+d-k<=65535):OkW env (du P f d r k):=dR (pk (.inr rfl) V b9 e)
def CR{r n:Int}(V:0<=r/\r<=15)(e:0<=n/\n<4294967296):OkW env (ko r n):=by
 unfold ko;split
 .have:hi16 n=n/65536:=by unfold hi16;omega
  exact cF (dR (vP b9 V a7)) (dR (vP b9 V a7))
 .exact dR (vP b9 V a7)
def xN{a:Int}:∀k:Nat,0<=a/\a+k<=65535->OkW env (jH a k)
 |0,_=>ma
 |k+1,h=>cF (xN k a7) (dR (pk (.inr rfl) b9 b9 a7))
def Gl{a c:Int}(h:0<=a/\a<=c/\c<=65000):OkW env (je a c):=by
 unfold je;split
 .exact xN _ a7
 .refine A4 (λ_ _ h=>by cases h) λn e x I=>?_
  simp only[l4,l5]at e;simp only[close,O8,A0,B3,F2]at I;rcases I with rfl|rfl|rfl|rfl|rfl|rfl
  .exact vP b9 b9 a7
  .exact vP b9 b9 a7
  .exact pk (.inr rfl) b9 b9 b9
  .exact Eo b9 b9 b9 b9
  .exact Eo b9 b9 b9 b9
  .exact vP b9 b9 a7
def AB{p i:Int}(e:0<=(P.base[f]?).getD 0/\(P.base[f]?).getD 0+d<=65535)(hd:p<=d)(g:0<=i/\i+p<=65535):∀k:Nat,(k:Int)<=p->OkW env (lE P f d p i k)
 |0,_=>ma
 |k+1,h=>cF (AB e hd g k a7) (cF (lF b9 a7) (dR (pk (.inr rfl) b9 b9 a7)))
structure Mv (fs:List CFn) (P:Plan) (f:Nat) (W:Int):Prop where
 b:0<=(P.base[f]?).getD 0/\(P.base[f]?).getD 0<=32768
 k:0<=(P.back[f]?).getD 0/\(P.back[f]?).getD 0<=32768
 w:W<=32768
 fs:∀y∈fs,0<=y.p/\y.p<=y.slots/\0<=y.first/\y.first+y.slots<=W
def Mw(a:∀q,0<=env q/\env q<=65535){W:Int}(H:Mv fs P f W){x:Ins}{word:Bool}{t p:Int}(B:word=(((fs[f]?).map (·.word)).getD F))(m:takes (fs.map λx=>(x.p,x.word)) word x=S (t,p))(c:t<=d)(hd:d<=20000)(E:0<=d)(hW:Az W x):OkW env (kL fs P f d x):=by
 obtain⟨G,I⟩:=H.b;obtain⟨A,J⟩:=H.k;have K:=H.w;have l:(0:Int)<=1/\(1:Int)<=15:=b9;have n:(0:Int)<=2/\(2:Int)<=15:=b9;have r0:(0:Int)<=0/\(0:Int)<=15:=b9;have u:=sR m;rcases u with h|h|h|h|h|h|h|h|h|h|h|h|h
 all_goals simp only[kL,h,Int.reduceEq,↓reduceIte]
 all_goals simp only[takes,h,Int.reduceEq,Vl,Vk,or_self,F2,false_or,↓reduceIte,w7,I3]at m
 .exact cF (CR l (hW.1 h)) (qQ l a7)
 .have:=hW.2.1 (.inl h)
  exact cF (dR (pk (.inl rfl) l r0 a7)) (qQ l a7)
 .have:=hW.2.1 (.inr h)
  exact cF (lF l a7) (dR (pk (.inr rfl) l r0 a7))
 .have:=hW.2.2.1 (.inl h)
  exact cF (lF l a7) (cF (dR (vP b9 l a7)) (cF (dR (pk (.inl rfl) l l a7)) (qQ l a7)))
 .have:=hW.2.2.1 (.inr h)
  exact cF (lF l a7) (cF (dR (vP b9 l a7)) (cF (lF n a7) (dR (pk (.inr rfl) n l a7))))
 .exact cF (lF l a7) (cF (lF n a7) (cF (dR (Eo (hW.2.2.2 h) l l n)) (qQ l a7)))
 .exact cF (lF l a7) (cF (dR (Eo b9 l l r0)) (qQ l a7))
 .exact vQ (Yp (a _))
 .exact cF (lF l a7) (vQ (vP b9 l (a _)))
 .split at m
  .cases m
  rw[w9,Option.map_map]at m;obtain⟨y,o,m⟩:=G5.1 m;simp only[Function.comp,I3]at m;obtain⟨L,g,i,j⟩:=H.fs y (l7 o);unfold tZ;rw[o];simp only;refine cF (AB a7 a7 a7 _ a7) (cF (vQ (vP b9 b9 (a _))) ?_);split
  .exact qQ l a7
  .exact ma
 .unfold kK
  split
  .exact dR Yq
  have s:=cF (env:=env) (dR (pk (op:=16) (r:=14) (b:=0) (.inl rfl) b9 r0 ⟨A,a7⟩)) (dR (QU (op:=22) (r:=14) b9 b9));simp only;rw[<-B];split
  .rename_i e
   rw[l9 e]at m;simp only[I3]at m;exact cF (lF l a7) s
  .exact s
 .exact cF (dR (QU b9 l)) (qQ l a7)
 .exact cF (lF l a7) (dR (QU b9 l))
def Iw{W:Int}(H:Mv fs P f W):OkW env (jR fs P f):=by
 obtain⟨A,l⟩:=H.k;have m:=H.w;unfold jR;split
 .exact ma
 .cases e:fs[f]? with
  |none=>exact ma
  |some y=>
    obtain⟨n,g,i,j⟩:=H.fs y (l7 e);exact cF (dR (pk (.inr rfl) b9 b9 a7)) (Gl a7)
def AD(a:∀q,0<=env q/\env q<=65535){W:Int}(H:Mv fs P f W){A:Lower.Code}{ds:List Int}{word:Bool}(g:word=(((fs[f]?).map (·.word)).getD F))
 (h:∀(k:Nat)(x:Ins×Int)(d:Int),A[k]?=S x->ds[k]?=S d->0<=d->Az W x.1/\d<=20000/\∃t p,takes (fs.map λx=>(x.p,x.word)) word x.1=S (t,p)/\t<=d):∀k,OkW env (fB fs P f A ds k)
 |0=>Iw H
 |k+1=>by
   have e:=AD a H g h k;rw[fB];cases I:A[k]? with
   |none=>exact cF e ma
   |some x=>
     cases hd:ds[k]? with
     |none=>exact cF e ma
     |some d=>
       simp only;split
       .rename_i i
        obtain⟨U,j,t,p,l,m⟩:=h k x d I hd i;exact cF e (Mw a H g l m j i U)
       .exact cF e ma
end
end
end
end Go.Emit

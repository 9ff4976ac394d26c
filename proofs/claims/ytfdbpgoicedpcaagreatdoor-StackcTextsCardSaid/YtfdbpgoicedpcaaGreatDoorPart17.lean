/- A part; no conditions. -/
import Derived.Test.YtfdbpgoicedpcaaGreatDoorPart16
set_option linter.all false
open List renaming length -> z
open Option renaming some -> S, none -> N
open Bool renaming true -> T, false -> F
set_option maxHeartbeats 64000000
set_option maxRecDepth 100000
namespace Go.Proofs.YtfdbpgoicedpcaaGreatDoor
section
open Go Go.Am Go.Asm
open Go.Src (Ex Stm fg)
open Go.Mn (Sg Rs evE fc evS eM evW evB aG)
open Go.Mach (applyN)
attribute[local congr]ite_cc
section
variable(p:Src.Prog)(inp:Str)(fu gV gA:Nat)(gk:Nat->Nat)
def tr(f:Nat)(L:List Nat)(G:Sg)(a:Nat)(x:Ex)(r:Rs Nat):Prop:=∀(B:Nat)(g:Nat->Nat)(ob:Obs)(X W:Nat),FrM p inp fu gV gA gk B g ob X W f L G a->iK Tryz.prog 200 [aj 1024 (g 1024) 0,aj X (g X) 0,exV x] g ob (Ya p inp fu gV gA X W f L r a G g ob)
end
variable{r:Rs Nat}{L:List Nat}{G:Sg}{g:Nat->Nat}{p:Src.Prog}{inp:Str}{fu gV gA:Nat}{gk:Nat->Nat}
def zz{B}{ob}{X W f e}{s}{R}{j rs}(h:FrM p inp fu gV gA gk B g ob X W f L G e)(hs:∀i,i<B->s.gen i=g i/\s.obj i=ob i)(a:fT B s j rs)(b:R (pack rs) (upd g 1023 (g 1023)) (λi=>pT p inp fu gV gA X W f (g W) (g 1023) G e L N i (ob i))):bS B (SSM p X W) g ob R s j:=fh h abI a b
def FrM.okm{B}{g}{ob}{X W f e}{L}{G}(h:FrM p inp fu gV gA gk B g ob X W f L G e):OkM p inp G:=h.sv.okm h.rd
def runM{B}{ob}{X W f a w e e2}{L bd}{b G a6}{q}{s:St}{l:Obs}(h:FrM p inp fu gV gA gk B g ob X W f L b a)(d:s.obj=upd l 1024 (S (rnM p inp fu gV gA w a6 e2)))(c:a6.v=G.v/\a6.arrs=G.arrs/\a6.out=G.out)(j:∀i,i<B->s.gen i=upd g 1023 w i/\l i=pT p inp fu gV gA X W f (g W) w G e bd q i (ob i)):∀i,i<B->s.gen i=upd g 1023 w i/\s.obj i=pT p inp fu gV gA X W f (g W) w a6 e2 bd q i (ob i):=λi k=>by obtain⟨m,n⟩:=j i k;refine⟨m,?_⟩;obtain⟨P,_⟩:=h.rds;obtain⟨o,b2,A⟩:=c;rw[d];grind[upd,pT,pS]
def fP.ok{r}{G H}{v}(h:fP r 0 G v H 0):r=.ok v H:=by unfold fP at h;grind
def fP.en{r}{G H}{v e}(h:fP r 0 G v H e)(a:e≠0):r=.en e H:=by unfold fP at h;grind
def fP.stay{G H}{v a e}(h:fP r a G v H e)(b:a≠0):H=G/\e=a:=by simp_all[fP]
def fP.mk{G H}{v}(h:r=.ok v H):fP r 0 G v H 0:=by rw[h];exact⟨rfl,rfl,rfl⟩
def fP.mke{G H}{v e}(h:r=.en e H)(a:e≠0):fP r 0 G v H e:=by rw[h];exact⟨a,rfl,rfl⟩
def fP.then{f E}{G H a6}{a d e1 e2}(b:fP f 0 G a H e1)(c:fP E e1 H d a6 e2):(e2=0/\f=.ok a H/\E=.ok d a6/\e1=0)\/(e2≠0/\((f=.ok a H/\E=.en e2 a6/\e1=0)\/(f=.en e2 a6/\e1≠0))):=by
 by_cases U:e1=0
 .subst U;by_cases Z:e2=0;.subst Z;grind[b.ok,c.ok]
  .exact .inr ⟨Z,.inl ⟨b.ok,c.en Z,rfl⟩⟩
 .obtain⟨rfl,rfl⟩:=c.stay U;exact .inr ⟨U,.inr ⟨b.en U,U⟩⟩
def VQ{f}{b}{x}(c:b≠0):tr p inp fu gV gA gk f L G b x r:=by obtain⟨k,o,a,d,e⟩:=x;intro B g ob X W h;refine dS.toR (cC B (SSM p X W) aP mixed Tryz.func200 rfl c8 [.tmp 6] rfl j0 j0 b9 (iD h) h.free λO bc j l=>?_);have V:=h.run;have hi:¬(b:Int)=0:=a7;unfold rnM at V;rw[qt];simp only[go_sem,V,h.nes,hi];refine⟨_,ai.refl _,?_⟩;simp only[go_sem];exact zz h loM gL ⟨0,G,b,_,by unfold fP;grind,h.okm,rfl,rfl,rfl⟩
def acw{f}{o}{n:Nat}{a}{b}:tr p inp fu gV gA gk f L G 0 (.mk 1 o n a b) (.ok n G):=by intro B g ob X W h;refine dS.toR (cC B (SSM p X W) aP mixed Tryz.func200 rfl c8 [.tmp 6] rfl j0 j0 b9 (iD h) h.free λO bc c d=>?_);have V:=h.run;unfold rnM at V;rw[qt];simp only[go_sem,V,h.nes];refine⟨_,ai.refl _,?_⟩;simp only[go_sem];exact zz h loM gL ⟨n,G,0,_,⟨rfl,rfl,rfl⟩,h.okm,rfl,rfl,rfl⟩
def afu{n f}{num}{nm}{a b}{o}(t:HE p inp fu gV gA gk n)(J:Src.szE a<=1000000/\Src.szE b<=1000000)(V:(evE p (aG p) inp fu n f L G a).bind (λx H=>(evE p (aG p) inp fu n f L H b).bind λy a6=>Mn.opV o x y a6)=r)(u:r≠.no):tr p inp fu gV gA gk f L G 0 (.mk 6 o num nm [a,b]) r:=by
 intro B g ob X W h;refine dS.toR (cC B (SSM p X W) aP mixed Tryz.func200 rfl c8 [.tmp 6] rfl j0 j0 b9 (iD h) h.free λO bc s0 w0=>?_);have al:=h.nes;have P:=h.rds;have bz:=h.run;unfold rnM at bz;rw[qt];simp only[go_sem,bz,al,s7,x7];refine⟨aY a,E7 (aY a).symm,?_⟩;refine ma aa rfl t h J.1 (λ_=>(λe=>by rw[e]at V;exact u V.symm)) aa8 loM (by omega:B<=B+232) Z5 λl H e1 c A1 K1=>?_;have A:e1=0->evE p (aG p) inp fu n f L H b≠.no:=λe hq=>by subst e;grind[A1.ok,Rs.bind]
 simp only[go_sem,al,P];refine⟨aY b,E7 (aY b).symm,?_⟩;refine qu (c:=c) aa rfl t h K1 J.2 A aa8 loM (by omega:B<=B+232) aa3 λd a6 j I A2 m=>?_;by_cases Q:j=0;case neg=>have hi:¬(j:Int)=0:=a7;simp only[go_sem,al,P,rnM,hi];refine⟨_,ai.refl _,?_⟩;simp only[go_sem];refine fh h loM gL ⟨0,a6,j,I,?_,m,rfl,rfl,rfl⟩;refine fP.mke ?_ Q;exact Lw
 subst Q;obtain⟨U,Z⟩:evE p (aG p) inp fu n f L G a=.ok l H/\evE p (aG p) inp fu n f L H b=.ok d a6:=by
  rcases A1.then A2 with⟨_,U,Z,_⟩|⟨h0,_⟩;.grind
  omega
 rw[U]at V;simp only[Rs.bind,Z,Mn.opV]at V;split at V;case isFalse=>exact absurd V.symm u
 rename_i ho;obtain⟨o,rfl⟩:∃q:Nat,o=(q:Nat):=⟨o.toNat,a7⟩;rw[C0]at V;have hA:=Fm o l d a7 a7 ho.2.1 ho.2.2;unfold TU at hA;simp only[go_sem,al,P,rnM];refine Kt rfl (by simp only[go_sem];exact hA) ?_;rintro _ rfl;cases hv:applyN o l d with|some v=>rw[hv]at V;simp only[go_sem];refine⟨_,ai.refl _,?_⟩;simp only[go_sem];exact fh h loM gL ⟨v,a6,0,I,fP.mk V.symm,m,rfl,rfl,rfl⟩;|none=>rw[hv]at V;simp only[go_sem,al,P,rnM];refine⟨_,ai.refl _,?_⟩;simp only[go_sem];exact fh h (runM (e:=0) h rfl ⟨rfl,rfl,rfl⟩ loM) gL ⟨0,a6,2,I,fP.mke V.symm a8,m,rfl,rfl,rfl⟩
end
open Go Go.Am Go.Asm
open Go.Src (Ex Stm fg)
open Go.Mn (Sg Rs evE fc evS eM evW evB aG)
attribute[local congr]ite_cc
section
def TQ(b:Bool):aR Tryz.prog 229 [bv b] (·=iv .u32 ((if b=T then 1 else 0:Nat):Nat)):=by refine hdP Tryz.func229 rfl [2] λg=>?_;cases b<;>simp only[go_sem]<;>rfl
variable{L:List Nat}{G:Sg}{num o:Int}{m:Str}{r:Rs Nat}{f:Nat}{q:List Ex}{p:Src.Prog}{inp:Str}{fu gV gA:Nat}{gk:Nat->Nat}
def acx{n f:Nat}{a:Ex}(d:HE p inp fu gV gA gk n)(j:Src.szE a<=1000000)(V:(evE p (aG p) inp fu n f L G a).bind (λx H=>.ok (if x=0 then 1 else 0) H)=r)(u:r≠.no):tr p inp fu gV gA gk f L G 0 (.mk 7 o num m [a]) r:=by
 intro B g ob X W h;refine dS.toR (cC B (SSM p X W) aP mixed Tryz.func200 rfl c8 [.tmp 6] rfl j0 j0 b9 (iD h) h.free λO bc s0 w0=>?_);have al:=h.nes;have P:=h.rds;have hB:=h.hB;have bz:=h.run;unfold rnM at bz;rw[qt];have l:evE p (aG p) inp fu n f L G a≠.no:=λe=>by rw[e]at V;exact u V.symm
 simp only[go_sem,bz,al,s7,x7];refine⟨aY a,E7 (aY a).symm,?_⟩;refine ma aa rfl d h j (λ_=>l) aa8 loM (by omega:B<=B+232) Z5 λt H b c A1 q=>?_;simp only[go_sem,al,P];refine Kt rfl (by simp only[go_sem];exact TQ _) ?_;rintro _ rfl;simp only[go_sem];refine⟨_,ai.refl _,?_⟩;simp only[go_sem];refine fh (w:=c) (e':=b) (ad:=H) (bd:=L) (r:=N) h loM gL ⟨_,H,b,c,?_,q,rfl,rfl,rfl⟩;by_cases he:b=0;.subst he;refine fP.mk ?_;rw[<-V,A1.ok];show Rs.ok _ _=Rs.ok _ _;simp
 .exact W3
def afv{n f:Nat}{a b:Ex}{k:Int}(hk:k=8\/k=9)(hE:HE p inp fu gV gA gk n)(hz:Src.szE a<=1000000/\Src.szE b<=1000000)
 (V:(evE p (aG p) inp fu n f L G a).bind (λx H=>if k=8 then(if x=0 then .ok 0 H else(evE p (aG p) inp fu n f L H b).bind Mn.nL)else if x=0 then(evE p (aG p) inp fu n f L H b).bind Mn.nL else Mn.nL x H)=r)(u:r≠.no):tr p inp fu gV gA gk f L G 0 (.mk k o num m [a,b]) r:=by
 intro B g ob X W h;refine dS.toR (cC B (SSM p X W) aP mixed Tryz.func200 rfl c8 [.tmp 6] rfl j0 j0 b9 (iD h) h.free λO bc A K=>?_);have al:=h.nes;have P:=h.rds;have hB:=h.hB;have bz:=h.run;unfold rnM at bz;rw[qt];have t:evE p (aG p) inp fu n f L G a≠.no:=λe=>by rw[e]at V;exact u V.symm
 -- v second one,and v end behind it
 have j:∀(l:Nat)(H:Sg)(e1:Nat),fP (evE p (aG p) inp fu n f L G a) 0 G l H e1->(e1=0->(evE p (aG p) inp fu n f L H b).bind Mn.nL=r)->(e1=0->evE p (aG p) inp fu n f L H b≠.no)/\∀d a6 e2,fP (evE p (aG p) inp fu n f L H b) e1 H d a6 e2->fP r 0 G d a6 e2:=λl H e1 A1 hq=>by
  refine⟨λe y=>u (by rw[<-hq e,y];rfl),λd a6 e2 A2=>?_⟩;rcases A1.then A2 with⟨rfl,U,Z,s⟩|⟨he,⟨U,Z,s⟩|⟨U,s⟩⟩
  .refine fP.mk ?_
   have:=hq s;rw[Z]at this;simp only[Rs.bind,Mn.nL]at this
   grind
  .exact fP.mke (by rw[<-hq s,Z];rfl) he
  .exact fP.mke (by rw[<-V,U];rfl) he
 rcases hk with rfl|rfl
 .simp only[go_sem,bz,al,s7,x7]
  refine⟨aY a,E7 (aY a).symm,?_⟩;refine ma aa rfl hE h hz.1 (λ_=>t) aa8 loM (by omega:B<=B+232) Z5 λl H e1 c A1 K1=>?_;by_cases q:l=0
  .subst q
   simp only[go_sem,al,P];refine⟨_,ai.refl _,?_⟩;simp only[go_sem];refine fh (w:=c) (e':=e1) (ad:=H) (bd:=L) (r:=N) h loM gL ⟨0,H,e1,c,?_,K1,rfl,rfl,rfl⟩;by_cases he:e1=0
   .subst he
    refine fP.mk ?_;rw[<-V,A1.ok];rfl
   .exact W3
  .have J:¬((l:Nat):Int)=0:=a7
   obtain⟨t1,t2⟩:=j l H e1 A1 λe=>by subst e;rw[<-V,A1.ok];simp only[Rs.bind,B3,l4 q]
   simp only[go_sem,al,P,s7,x7,J];exact ia
 .simp only[go_sem,bz,al,s7,x7]
  refine⟨aY a,E7 (aY a).symm,?_⟩;refine ma aa rfl hE h hz.1 (λ_=>t) aa8 loM (by omega:B<=B+232) Z5 λl H e1 c A1 K1=>?_;by_cases q:l=0
  .subst q
   obtain⟨t1,t2⟩:=j 0 H e1 A1 λe=>by subst e;rw[<-V,A1.ok];rfl
   simp only[go_sem,al,P,s7,x7];exact ia
  .have J:¬((l:Nat):Int)=0:=a7
   simp only[go_sem,al,P,J];refine⟨_,ai.refl _,?_⟩;simp only[go_sem];refine fh (w:=c) (e':=e1) (ad:=H) (bd:=L) (r:=N) h loM gL ⟨l,H,e1,c,?_,K1,rfl,rfl,rfl⟩;by_cases he:e1=0
   .subst he
    refine fP.mk ?_;rw[A1.ok]at V;simp only[Rs.bind,l4 q,show ¬(9:Int)=8 by decide,B1,Mn.nL]at V
    grind
   .exact W3
def OW{fn:Src.Fn}(a:p.f[f]?=S fn)(s:Str){k i:Nat}(h:aG p f s=S (k,i)):fg p fn s=((k:Int),(i:Int)):=by unfold aG at h;rw[a]at h;rw[Src.Fa,show Src.bG (Src.bH p) (Src.bQ fn) s=S (k,i)from h]
def acy(V:Mn.Mw (aG p f m) L G=r)(u:r≠.no):tr p inp fu gV gA gk f L G 0 (.mk 2 o num m q) r:=by intro B g ob X W h;refine dS.toR (cC B (SSM p X W) aP mixed Tryz.func200 rfl c8 [.tmp 6] rfl j0 j0 b9 (iD h) h.free λO bc E H=>?_);have al:=h.nes;have hB:=h.hB;have bz:=h.run;have ar:=h.frm;have w:=h.wds;have x:=h.vrs;have l:=h.sv.gv;obtain⟨fn,Y⟩:=h.fn;obtain⟨y,A,_⟩:=h.sm.fn fn (l8 Y);have hF:=zx p h.sm.v ab6 h.sm.f f fn Y y A m;unfold Mn.Mw at V;cases c:aG p f m with|none=>rw[c]at V;exact absurd V.symm u;|some t=>
 obtain⟨k,i⟩:=t;rw[c]at V;rw[OW Y m c]at hF;rw[cI]at hF;unfold rnM at bz;unfold frM at ar;rw[qt];simp only at V;simp only[go_sem,bz,al];refine cG aP mixed aa [] [([0],[],[],F),([31],[],[],F),([32],[],[],F),([33],[],[],F),([1],[],[],F),([35],[],[],F),([36],[],[],F),([37],[],[],F),([5],[],[],F),([39],[],[],F),([34,38,40],[],[],F),([41],[],[],F),([30],[],[],F),([30],[],[],F),([42],[],[],F),([43],[],[],T)] 0 rfl c9 rfl a8 ?_;simp only[go_sem];iterate 10 (refine au gdD (λ_ _ _ _ J=>by simp only[go_sem,bz,ar,al]at J|-;exact J) ?_)
 refine au (v:=.tup [ae (k:Nat),ae (i:Nat)]) A6 (λI ga K j J=>?_) ?_;.exact u6
 iterate 4 (refine au gdD (λ_ _ _ _ J=>by simp only[go_sem]at J|-;exact J) ?_)
 refine cH A6 ?_;intro j n;simp only[go_sem];refine n _ ?_;clear n j;have s:(0:Int)<=(i:Int):=a7;by_cases U:k=1;.subst U;rw[s5 rfl]at V;cases hw:L[i]?with|none=>rw[hw]at V;exact absurd V.symm u;|some v=>
  rw[hw]at V;have c4:=(l9.1 hw).1;have e:(i:Int)<(z L:Int):=a7;have b:(wM L)[i]?=S (.d (.int .u32 (v:Nat))):=by unfold wM;rw[A4,hw];rfl
  simp only[go_sem,ar,w,al,s,e,b];exact Mi
 .rw[l4 U]at V;by_cases Z:k=2;.subst Z;rw[s5 rfl]at V;cases hw:G.v[i]?with|none=>rw[hw]at V;exact absurd V.symm u;|some v=>
   rw[hw]at V;have c4:=(l9.1 hw).1;have Q:=h.sv.vl;have e:(i:Int)<(z p.v:Int):=a7;have b:(wM G.v)[i]?=S (.d (.int .u32 (v:Nat))):=by unfold wM;rw[A4,hw];rfl
   simp only[go_sem,bz,x,l,al,s,e,b];exact Mi
  .rw[l4 Z]at V;exact absurd V.symm u
def acz:tr p inp fu gV gA gk f L G 0 (.mk 5 o num m q) (.ok (Mn.DO inp G.rd) ⟨G.v,G.arrs,G.out,Mn.AW inp G.rd,G.tk⟩):=by
 intro B g ob X W h;refine dS.toR (cC B (SSM p X W) aP mixed Tryz.func200 rfl c8 [.tmp 6] rfl j0 j0 b9 (iD h) h.free λO bc t u=>?_);have al:=h.nes;have hB:=h.hB;have V:=h.run;have x:=h.rd;have E:=h.sm.inp;unfold rnM at V;have hw:=ah (k:=G.rd) a7;have l:IntKind.i64.wrap (((G.rd+1:Nat):Int)-1)=(G.rd:Int):=by rw[wrap_i64]<;>omega
 have bz:(0:Int)<=(G.rd:Int):=a7;rw[qt];simp only[go_sem,V,al];refine aZ c9 ?_;by_cases n:G.rd<z inp
 .have b:¬(z inp:Int)<=(G.rd:Int):=a7;obtain⟨c,a⟩:=getq n;have P:IntKind.u32.wrap ((c.toNat:Nat):Int)=((c.toNat:Nat):Int):=by have:=c.toNat_lt;rw[IntKind.wrap_u32];omega
  have d:Mn.DO inp G.rd=c.toNat:=by unfold Mn.DO;rw[a]
  have j:Mn.AW inp G.rd=G.rd+1:=by unfold Mn.AW;rw[a]
  rw[d,j];simp only[go_sem,V,al,b,hw];refine aZ c9 ?_;simp only[go_sem,V,al,l,bz,a,P];refine⟨_,ai.refl _,?_⟩;simp only[go_sem];refine fh (w:=g 1023) (e':=0) (ad:=⟨G.v,G.arrs,G.out,G.rd+1,G.tk⟩) (bd:=L) (r:=N) h (runM (G:=G) (e:=0) h rfl ⟨rfl,rfl,rfl⟩ λi hi=>?_) gL ⟨c.toNat,_,0,_,fP.mk rfl,⟨h.okm.1,h.okm.2.1,by grind⟩,rfl,rfl,rfl⟩;have:=h.same i;have hk:∀k,(i=B+k)=False:=λk=>by grind
  simp only[upd,hk,B1]at this|-;exact this
 .have b:(z inp:Int)<=(G.rd:Int):=a7;have a:inp[G.rd]?=N:=I1 a7;have d:Mn.DO inp G.rd=256:=by unfold Mn.DO;rw[a]
  have j:Mn.AW inp G.rd=G.rd:=by unfold Mn.AW;rw[a]
  rw[d,j];simp only[go_sem,V,al,b];refine⟨_,ai.refl _,?_⟩;simp only[go_sem];exact zz h loM gL ⟨256,G,0,_,fP.mk rfl,h.okm,rfl,rfl,rfl⟩
end
section
variable{L:List Nat}{p:Src.Prog}{inp:Str}{fu gV gA:Nat}{gk:Nat->Nat}
def FrM.arr{B:Nat}{g:Nat->Nat}{ob:Obs}{X W f b i:Nat}{G:Sg}(h:FrM p inp fu gV gA gk B g ob X W f L G b)(c:i<z p.a):(∀w G e L r o,pT p inp fu gV gA X W f (g W) w G e L r (2000+i) o=S (wM ((G.arrs[i]?).getD [])))/\(2000+i=1023)=False/\(2000+i=1024)=False/\(∀k,(2000+i=B+k)=False)/\(∀k,(B+k=2000+i)=False)/\g (2000+i)=gk i/\g 1021=gA/\ob 1021=S (arM p gk)/\(arM p gk)[i]?=S (.osl (2000+i) (gk i) 1 0 (alM p i)):=by
 have U:=h.hB;have Z:=h.hX;have d:=h.hW;have j:=h.sm.a;refine⟨λw G e L r o=>?_,by grind,by grind,λk=>by grind,λk=>by grind,h.sv.gk i c,h.sv.ga,h.sv.ar,?_⟩;.unfold pT pS;grind
 .unfold arM;grind
def acA{n f:Nat}{G:Sg}{num o:Int}{m:Str}{a:Ex}(hE:HE p inp fu gV gA gk n)(hz:Src.szE a<=1000000){r:Rs Nat}(V:(evE p (aG p) inp fu n f L G a).bind (λj H=>Mn.Mx (aG p f m) H j)=r)(u:r≠.no)(h3:∀k i,aG p f m=S (k,i)->k=3->i<z p.a):tr p inp fu gV gA gk f L G 0 (.mk 3 o num m [a]) r:=by
 intro B g ob X W h;refine dS.toR (cC B (SSM p X W) aP mixed Tryz.func200 rfl c8 [.tmp 6] rfl j0 j0 b9 (iD h) h.free λO bc s0 w0=>?_);have al:=h.nes;have P:=h.rds;have hB:=h.hB;have bz:=h.run;have ar:=h.frm;obtain⟨fn,Y⟩:=h.fn;obtain⟨cd,b8,_⟩:=h.sm.fn fn (l8 Y);have hF:=zx p h.sm.v ab6 h.sm.f f fn Y cd b8 m;rw[cI]at hF;unfold rnM at bz;unfold frM at ar;rw[qt];have bn:evE p (aG p) inp fu n f L G a≠.no:=λe=>by rw[e]at V;exact u V.symm
 obtain⟨⟨kd,i⟩,bs⟩:∃q:Int×Int,fg p fn m=q:=⟨_,rfl⟩;rw[bs]at hF;simp only at hF;simp only[go_sem,bz,al];refine cG aP mixed aa [] [([0],[],[],F),([63],[],[],F),([64],[],[],F),([65],[],[],F),([1],[],[],F),([67],[],[],F),([68],[],[],F),([69],[],[],F),([5],[],[],F),([71],[],[],F),([66,70,72],[],[],F),([73],[],[],F),([62],[],[],F),([62],[],[],F),([74],[],[],F),([75],[],[],T)] 0 rfl c9 rfl a8 ?_;simp only[go_sem];iterate 10 (refine au gdD (λ_ _ _ _ J=>by simp only[go_sem,bz,ar,al]at J|-;exact J) ?_)
 refine au (v:=.tup [ae kd,ae i]) A6 (λfa ga oa K' J=>?_) ?_;.exact u6
 iterate 4 (refine au gdD (λ_ _ _ _ J=>by simp only[go_sem]at J|-;exact J) ?_)
 refine cH A6 ?_;intro K' a';simp only[go_sem];refine a' _ ?_;clear a' K';simp only[go_sem,bz,al,s7,x7];refine⟨aY a,E7 (aY a).symm,?_⟩;refine ma aa rfl hE h hz (λ_=>bn) aa8 loM (by omega:B<=B+232) Z5 λb H A c A1 E=>?_;by_cases U:A=0;case neg=>have hi:¬(A:Int)=0:=a7;simp only[go_sem,al,P,rnM,hi];refine⟨_,ai.refl _,?_⟩;simp only[go_sem];exact fh (w:=c) (e':=A) (ad:=H) (bd:=L) (r:=N) h loM gL ⟨0,H,A,c,fP.mke (by rw[<-V,A1.en U];rfl) U,E,rfl,rfl,rfl⟩
 subst U;rw[A1.ok]at V;simp only[Rs.bind,Mn.Mx]at V;cases K:aG p f m with|none=>rw[K]at V;exact absurd V.symm u;|some t=>
 obtain⟨k,j⟩:=t;rw[K]at V;simp only at V;by_cases hk:k=3;case neg=>rw[l4 hk]at V;exact absurd V.symm u
 subst hk;rw[s5 rfl]at V;by_cases hv:b<4294967296;case neg=>rw[l4 hv]at V;exact absurd V.symm u
 rw[s5 hv]at V;rw[OW Y m K]at bs;cases bs;have hj:=h3 _ _ K rfl;cases hl:H.arrs[j]?with|none=>rw[hl]at V;exact absurd V.symm u;|some l=>
 rw[hl]at V;obtain⟨Q,q1,q2,q3,q4,q5,q6,q7,q8⟩:=h.arr hj;have b4:=E.2.1.2 j l hl;have cu:=h.sm.az j;have cx:(0:Int)<=(j:Int):=a7;have y:(j:Int)<(z p.a:Int):=a7;have w1:IntKind.u64.wrap ((b:Nat):Int)=(b:Int):=by rw[IntKind.wrap_u64];omega
 have w2:IntKind.u64.wrap ((alM p j:Nat):Int)=(alM p j:Int):=by rw[IntKind.wrap_u64];omega
 simp only[Mn.need]at V;by_cases af:b<z l
 .have Z:¬(alM p j:Int)<=(b:Int):=a7;have bl:(0:Int)<=(b:Int):=a7;have b7:(b:Int)<(alM p j:Int):=a7;obtain⟨x,I⟩:=getq af;rw[I]at V;have s:(wM l)[b]?=S (.d (.int .u32 (x:Nat))):=by unfold wM;rw[A4,I];rfl
  simp only[go_sem,al,P,rnM,Q,q1,q2,q3,q4,q5,q6,q7,q8,cx,y,w1,w2,Z,bl,b7,hl,B6,s];refine⟨_,ai.refl _,?_⟩;simp only[go_sem];exact fh (w:=c) (e':=0) (ad:=H) (bd:=L) (r:=N) h loM gL ⟨x,H,0,c,fP.mk V.symm,E,rfl,rfl,rfl⟩
 .have Z:(alM p j:Int)<=(b:Int):=a7;rw[I1 a7]at V;simp only[go_sem,al,P,rnM,Q,q1,q2,q3,q4,q5,q6,q7,q8,cx,y,w1,w2,Z];refine⟨_,ai.refl _,?_⟩;simp only[go_sem];exact fh (w:=c) (e':=3) (ad:=H) (bd:=L) (r:=N) h (runM (G:=H) (e:=0) h rfl ⟨rfl,rfl,rfl⟩ loM) gL ⟨0,H,3,c,fP.mke V.symm a8,E,rfl,rfl,rfl⟩
end
section
section
variable(p:Src.Prog)(inp:Str)(fu gV gA:Nat)(gk:Nat->Nat)
def WaM(g:Nat->Nat)(ob:Obs)(A:Nat)(vs:List Nat)(X:AV):Prop:=(vs=[]/\X=.one (.d .nsl))\/(X=eS A (g A) 1 0 (z vs)/\ob A=S (wM vs))
def HB(n:Nat):Prop:=∀(f:Nat)(vs:List Nat)(G:Sg),SmM p inp fu->f<z p.f->evB p (aG p) inp fu n f vs G≠.no->G.rd<=z inp->∀(B:Nat)(g:Nat->Nat)(ob:Obs)(A:Nat)(X:AV),3000<=B->3000<=A->A<B->(∀i,B<=i->ob i=N)->SvM p inp fu gV gA gk g ob G 0->WaM g ob A vs X->iK Tryz.prog 52 [aj 1024 (g 1024) 0,ae f,X] g ob (λr c Y=>∃v a b w,fP (evB p (aG p) inp fu n f vs G) 0 G v a b/\OkM p inp a/\r=iv .u32 (v:Nat)/\∀i,i≠A->c i=upd g 1023 w i/\Y i=pS p inp fu gV gA w a b i (ob i))
def Jv(f:Nat)(L:List Nat)(G:Sg)(a:Str)(b:List Ex)(r:Rs Nat):Prop:=∀(B:Nat)(g:Nat->Nat)(ob:Obs)(X W:Nat),FrM p inp fu gV gA gk B g ob X W f L G 0->iK Tryz.prog 202 [aj 1024 (g 1024) 0,aj X (g X) 0,sv a,ea b] g ob (Ya p inp fu gV gA X W f L r 0 G g ob)
end
variable{L:List Nat}{p:Src.Prog}{inp:Str}{fu gV gA:Nat}{gk:Nat->Nat}
def acB{X W f c w y e e' i}{G ad}{r}{o}(b:z p.a<=900)(hX:3000<=X)(hW:3000<=W):pS p inp fu gV gA w G e i (pT p inp fu gV gA X W f c y ad e' L r i o)=pT p inp fu gV gA X W f c w G e L r i o:=by
 unfold pT;by_cases U:i=W;.simp_all[xt,a7]
 rw[l4 U,l4 U];by_cases Z:i=X;.simp_all[xt,a7]
 rw[l4 Z,l4 Z,OS]
def Lg{l}{e}(h:e∈l):Src.szE e<=Src.aO l:=Src.vu h
def OX{n f gN}{G}{nm}{ks}(hE:∀m,m<=n->HE p inp fu gV gA gk m)(hB:HB p inp fu gV gA gk n)(hz:Src.aO ks<=1000000)(bs:aG p f nm=S (4,gN))(cm:gN<z p.f){r}(V:(fc p (aG p) inp fu n f L G ks).bind (λvs H=>Mn.tick fu H λa6=>evB p (aG p) inp fu n gN vs a6)=r)(u:r≠.no):Jv p inp fu gV gA gk f L G nm ks r:=by
 intro B g ob X W h;refine dS.toR (cC B (SSM p X W) aP mixed Tryz.func202 rfl c8 [.tmp 8] rfl c8 c8 b9 (iD h) h.free λO bc s0 w0=>?_);have al:=h.nes;have P:=h.rds;have cy:=h.hB;have bz:=h.run;have ar:=h.frm;obtain⟨fn,Y⟩:=h.fn;obtain⟨cd,b8,_⟩:=h.sm.fn fn (l8 Y);have hF:=zx p h.sm.v ab6 h.sm.f f fn Y cd b8 nm;rw[OW Y nm bs]at hF;rw[cI]at hF;unfold rnM at bz;have bo:=Src.PS ks;have U:fc p (aG p) inp fu n f L G ks≠.no:=λe=>by rw[e]at V;exact u V.symm
 simp only[go_sem,bz,al];refine cG aP mixed aa [] [([0],[],[],F),([14],[],[],F),([15],[],[],F),([16],[],[],F),([1],[],[],F),([18],[],[],F),([19],[],[],F),([20],[],[],F),([2],[],[],F),([17,21,22],[],[],F),([23],[],[],F),([13],[],[],F),([13],[],[],F),([24],[],[],F),([25],[],[],T)] 0 rfl c9 rfl a8 ?_;simp only[go_sem];iterate 9 (refine au gdD (λ_ _ _ _ J=>by simp only[go_sem,bz,ar,al]at J|-;exact J) ?_)
 refine au (v:=.tup [ae 4,ae gN]) A6 (λfa ga oa K' J=>?_) ?_;.simp only[go_sem]at J|-;refine sG aa rfl hF c8 Z5 ?_;exact h9
 iterate 4 (refine au gdD (λ_ _ _ _ J=>by simp only[go_sem]at J|-;exact J) ?_)
 refine cH A6 ?_;intro K' a';simp only[go_sem];refine a' _ ?_;clear a' K';unfold ea;simp only[go_sem];refine mq _ (sd (t:=11) (id:=B+41) (sz:=1) c8) (λmm K=>∃(k:Nat)(v1:List Nat)(d:Sg)(ek w:Nat),mm+k=z ks/\z v1=k/\OkM p inp d/\((ek=0/\∃m,m<=n/\fc p (aG p) inp fu n f L G ks=(fc p (aG p) inp fu m f L d (ks.drop k)).bind λvs ad=>.ok (v1++vs) ad)\/(ek≠0/\fc p (aG p) inp fu n f L G ks=.en ek d))/\(∀i,i<B->K.gen i=upd g 1023 w i/\K.obj i=pT p inp fu gV gA X W f (g W) w d ek L N i (ob i))/\(∀i,B+58<=i->K.obj i=N)/\K.f 0=aj 1024 (g 1024) 0/\K.f 1=aj X (g X) 0/\K.f 3=.one (aw (ks.map exD))/\K.f 10=ae gN/\K.f 12=ae k/\K.f 11=eS (B+41) (K.gen (B+41)) 1 0 k/\K.obj (B+41)=S (wM v1)) (z ks) ?_ ?_
 .refine⟨0,[],G,0,g 1023,rfl,rfl,h.okm,.inl ⟨rfl,n,l7 _,?_⟩,λi hi=>?_,λi hi=>?_,?_⟩;.cases hq:fc p (aG p) inp fu n f L G ks with|ok=>rw[D6,hq];rfl;|en=>rw[D6,hq];rfl;|no=>grind
  .have hk:∀k,(i=B+k)=False:=λk=>by grind
   have:=h.same i;simp only[St.grab,upd,hk,B1]at this|-;exact this
  .simp only[St.grab,upd];rw[l4 a7];exact h.free i a7
  .simp only[St.grab];simp only[go_sem];rfl
 rintro mm fs g1 av⟨k,v1,d,ek,w,hm,b7,an,hJ,hs,bl,q0,q1,q3,I,q,A,x⟩;simp only at hs bl q0 q1 q3 I q A x;have o:av 1024=S (rnM p inp fu gV gA w d ek):=by rw[(hs 1024 a7).2];exact P.1 _ _ _ _ _ _
 have j:g1 1024=g 1024:=by rw[(hs 1024 a7).1];rfl
 by_cases af:k<z ks
 .have Q:(k:Int)<(z ks:Int):=a7;have bk:(0:Int)<=(k:Int):=a7;obtain⟨a,ha⟩:=getq af;obtain⟨m',az,b3,l⟩:∃m',m'<=n/\(ek=0->evE p (aG p) inp fu m' f L d a≠.no)/\(ek=0->fc p (aG p) inp fu n f L G ks=(evE p (aG p) inp fu m' f L d a).bind λv H=>(fc p (aG p) inp fu m' f L H (ks.drop (k+1))).bind λvs ad=>.ok ((v1++[v])++vs) ad):=by
   rcases hJ with⟨rfl,m,cv,hq⟩|⟨he,_⟩;.rw[eO ha]at hq;cases m with|zero=>rw[fc]at hq;exact absurd hq U;|succ m'=>
    rw[fc]at hq;have cf:fc p (aG p) inp fu n f L G ks=(evE p (aG p) inp fu m' f L d a).bind λv H=>(fc p (aG p) inp fu m' f L H (ks.drop (k+1))).bind λvs ad=>.ok ((v1++[v])++vs) ad:=by rw[hq];cases evE p (aG p) inp fu m' f L d a with|no=>rfl;|en=>rfl;|ok v H=>simp only[Rs.bind];cases fc p (aG p) inp fu m' f L H (ks.drop (k+1))with|no=>rfl;|en=>rfl;|ok vs ad=>simp
    exact⟨m',a7,λ_ hn=>U (by rw[cf,hn];rfl),λ_=>cf⟩
   .exact⟨0,a7,λe=>absurd e he,λe=>absurd e he⟩
  simp only[go_sem,q0,q1,q3,A,q,Q,bk,j6,getD_at (f:=exD) ha];refine⟨aY a,E7 (aY a).symm,?_⟩;refine qu aa rfl (hE m' az) h an (C4 (Lg (l8 ha)) hz) b3 (by simp only[go_sem,q0,q1,eG];rfl) hs (by omega:B<=B+58) bl λv ad e' y A1 K1=>?_;have b5:=zy v1;simp only[go_sem,q0,q1,q3,A,q,ah (k:=k) a7,bm,al,P,x,b5,b7];refine⟨l7 _,⟨a8,a7⟩,?_⟩;refine ak (mm-1) a7 ⟨k+1,v1++[v],ad,e',y,a7,by grind,K1,?_,λi hi=>?_,λi hi=>?_,?_⟩
  .by_cases he:ek=0
   .subst he;by_cases cc:e'=0;.subst cc;refine .inl ⟨rfl,m',az,?_⟩;rw[l rfl,A1.ok];rfl
    .refine .inr ⟨cc,?_⟩;rw[l rfl,A1.en cc];rfl
   .obtain⟨rfl,rfl⟩:=A1.stay he;grind
  .have hk:∀k,(i=B+k)=False:=λk=>by grind
   obtain⟨a1,a2⟩:=hs i hi;simp only[upd,hk,B1]at a1|-;rw[a1,a2,Fb];grind
  .simp only[upd];(repeat first|rw[l4 (by omega)]|rw[h.hi (by omega)]);grind
  .simp only[go_sem,q0,q1,q3,I,q,al,P];rw[s6 a7];simp[wM]
 .have Q:¬(k:Int)<(z ks:Int):=a7;by_cases he:ek=0;case neg=>
   have cb:fc p (aG p) inp fu n f L G ks=.en ek d:=by
    rcases hJ with⟨h0,_⟩|⟨_,hq⟩;.omega
    .exact hq
   have b6:¬(ek:Int)=0:=a7;unfold rnM at o;simp only[go_sem,q0,q1,q3,q,Q,j6,o,j,b6];refine⟨_,ai.refl _,?_⟩;simp only[go_sem];exact fh h hs gL ⟨0,d,ek,w,fP.mke (by rw[<-V,cb];rfl) he,an,rfl,rfl,rfl⟩
  subst he;have b0:fc p (aG p) inp fu n f L G ks=.ok v1 d:=by
   rcases hJ with⟨_,m,_,hq⟩|⟨h0,_⟩;.rw[y8 a7]at hq;cases m with|zero=>rw[fc]at hq;exact absurd hq U;|succ m=>rw[fc]at hq;rw[hq];simp[Rs.bind,u7]
   .omega
  rw[b0]at V;simp only[Rs.bind,Mn.tick]at V;have Z:=o;unfold rnM at o;simp only[go_sem,q0,q1,q3,q,Q,j6,o,j];refine dO aa rfl (by simp only[go_sem,q0];rw[<-j];exact HC Z h.sm.fu) ?_;rintro _ g2 bn⟨rfl,rfl,rfl⟩;by_cases ht:d.tk<fu;case neg=>rw[l4 ht]at V;rw[l4 ht];simp only[go_sem,rnM,q0,j];refine⟨_,ai.refl _,?_⟩;simp only[go_sem];exact fh h (runM h rfl ⟨rfl,rfl,rfl⟩ hs) gL ⟨0,d,5,w,fP.mke V.symm a8,an,rfl,rfl,rfl⟩
  rw[s5 ht]at V;rw[s5 ht];have ch:OkM p inp ⟨d.v,d.arrs,d.out,d.rd,d.tk+1⟩:=an;have bf:=runM (s:=⟨fs,g2,upd av 1024 (S (rnM p inp fu gV gA w ⟨d.v,d.arrs,d.out,d.rd,d.tk+1⟩ 0))⟩) (G:=d) h rfl ⟨rfl,rfl,rfl⟩ hs;have b4:=h.re ch bf (by omega:B<=B+58) abO;simp only[go_sem,rnM,q0,I,A,j];refine dO aa rfl (by simp only[go_sem,q0,I,A];rw[<-j];exact hB gN v1 _ h.sm cm ZN b4.rd (B+58) g2 _ (B+41) _ a7 a7 a7 b4.free b4.sv (.inr ⟨by rw[b7],by grind[upd]⟩)) ?_;rintro _ g3 b'⟨v,ad,e',y,A2,K2,rfl,r4⟩;simp only[go_sem];refine⟨_,ai.refl _,?_⟩;simp only[go_sem];refine fh h (λi hi=>?_) gL ⟨v,ad,e',y,?_,K2,rfl,rfl,rfl⟩
  .obtain⟨a1,a2⟩:=r4 i a7;obtain⟨b1,b2⟩:=bf i hi;simp only at b1 b2;refine⟨show g3 i=_ from ?_,show b' i=_ from ?_⟩;.grind[upd]
   .rw[a2];exact(congrArg (pS p inp fu gV gA y ad e' i) b2).trans (acB h.sm.a h.hX.1 h.hW.1)
  .rw[V]at A2;unfold fP at A2|-;grind
end
section
section
variable(p:Src.Prog)(inp:Str)(fu gV gA:Nat)(gk:Nat->Nat)
def vm(f:Nat)(L:List Nat)(G:Sg)(s:Stm)(r:Rs (List Nat×Option Nat)):Prop:=∀(B:Nat)(g:Nat->Nat)(ob:Obs)(X W:Nat),FrM p inp fu gV gA gk B g ob X W f L G 0->iK Tryz.prog 131 [aj 1024 (g 1024) 0,aj X (g X) 0,smV s] g ob (RunT p inp fu gV gA X W f L r 0 G g ob)
def HS(n:Nat):Prop:=∀(f:Nat)(L:List Nat)(G:Sg)(s:Stm),Src.szS s<=1000000->evS p (aG p) inp fu n f L G s≠.no->vm p inp fu gV gA gk f L G s (evS p (aG p) inp fu n f L G s)
def HSs(n:Nat):Prop:=∀(f:Nat)(L:List Nat)(G:Sg)(a:Nat)(l:List Stm),Src.aI l<=1000000->(a=0->eM p (aG p) inp fu n f L G l≠.no)->∀(B:Nat)(g:Nat->Nat)(ob:Obs)(X W:Nat),FrM p inp fu gV gA gk B g ob X W f L G a->iK Tryz.prog 87 [aj 1024 (g 1024) 0,aj X (g X) 0,eU l] g ob (RunT p inp fu gV gA X W f L (eM p (aG p) inp fu n f L G l) a G g ob)
end
variable{r:Rs (List Nat×Option Nat)}{G H:Sg}{L E:List Nat}{q:Option Nat}{p:Src.Prog}{inp:Str}{fu gV gA:Nat}{gk:Nat->Nat}
def gy.ok{r}{G H}{L E}{q}(h:gy r 0 G L E q H 0):r=.ok (E,q) H:=by unfold gy at h;grind
def gy.en{r}{G H}{L E}{q}{e}(h:gy r 0 G L E q H e)(a:e≠0):r=.en e H:=by unfold gy at h;grind
def gy.mk(h:r=.ok (E,q) H):gy r 0 G L E q H 0:=by rw[h];exact⟨rfl,rfl,rfl,rfl⟩
def gy.mke{e}(h:r=.en e H)(a:e≠0):gy r 0 G L E q H e:=by rw[h];exact⟨a,rfl,rfl⟩
section
variable{O:Bs}{rd:Option Nat}{Φ:St->Am.Loc->List Deferred->World->Prop}
def xX(a6:bA O Φ){o}{s}{K}{k:Box K}{args}{tys}{a f B X W e1 j c:Nat}(ho:o.op=.call ⟨.value (.func a),args,tys⟩){xs}{g}{ob}(l:∀B g ob X W,FrM p inp fu gV gA gk B g ob X W f E H e1->iK Tryz.prog a [aj 1024 (g 1024) 0,aj X (g X) 0,xs] g ob (RunT p inp fu gV gA X W f E r e1 H g ob))(h:FrM p inp fu gV gA gk B g ob X W f L G j)(an:OkM p inp H)(I:args.toList.map s.ev=[aj 1024 (g 1024) 0,aj X (g X) 0,xs]){b}(d:∀i,i<B->s.gen i=upd g 1023 c i/\s.obj i=pT p inp fu gV gA X W f (g W) c H e1 E N i (ob i))(hB:B<=b)(ar:∀i,b<=i->s.obj i=N){m}{n}(v:∀bd q ad e' w,gy r e1 H E bd q ad e'->OkM p inp ad->K (St.put ⟨s.f,upd s.gen 1023 w,λi=>pT p inp fu gV gA X W f (g W) w ad e' bd q i (s.obj i)⟩ o.dst uv)):bE (spF Tryz.prog rd O Φ m n) o s k:=by
 have U:=h.hB;have Z:=h.hX;have x:=h.hW;have e:∀i,i<B->i≠1023->s.gen i=g i:=λi t u=>by rw[(d i t).1];exact l4 u
 refine dO a6 ho (by rw[I,<-e 1024 a7 a8,<-e X a7 a7];exact l b s.gen s.obj X W (h.re an d hB ar)) ?_;rintro _ _ _⟨bd,q,ad,e',w,y,A,rfl,rfl,rfl⟩;grind
end
def TR{n}(hS:∀m,m<n->HS p inp fu gV gA gk m):HSs p inp fu gV gA gk n:=by
 intro f L G e0 l hz u B g ob X W h;refine dS.toR (cC B (SSM p X W) aP mixed Tryz.func87 rfl c8 [] rfl c8 c8 b9 (iD h) h.free λO bc s0 w0=>?_);have al:=h.nes;have P:=h.rds;have hB:=h.hB;have hX:=h.hX;have b4:=Src.PT l;unfold eU;simp[go_sem];refine aF (λmm K=>∃(k:Nat)(t:List Nat)(d:Sg)(x:Nat)(Y:Option Nat)(w:Nat),mm+k=z l/\OkM p inp d/\((x=0/\Y=N/\e0=0/\∃m,m<=n/\eM p (aG p) inp fu n f L G l=eM p (aG p) inp fu m f t d (l.drop k))\/((x≠0\/Y≠N)/\gy (eM p (aG p) inp fu n f L G l) e0 G L t Y d x))/\(∀i,i<B->K.gen i=upd g 1023 w i/\K.obj i=pT p inp fu gV gA X W f (g W) w d x t Y i (ob i))/\(∀i,B<=i->K.obj i=N)/\K.f 0=aj 1024 (g 1024) 0/\K.f 1=aj X (g X) 0/\K.f 2=.one (aw (l.map smD))/\K.f 6=ae k) (z l) ?_ ?_
 .refine⟨0,L,G,e0,N,g 1023,rfl,h.okm,?_,λi hi=>h.same i,h.free,?_⟩
  .by_cases U:e0=0;.grind
   simp_all[gy]
  .exact gO
 rintro mm fs g1 av⟨k,t,d,x,Y,w,hm,an,hJ,I,bl,V,Z,q2,q6⟩;simp only at I bl V Z q2 q6;have hw:=ah (k:=k) a7;have o:av 1024=S (rnM p inp fu gV gA w d x):=by rw[(I 1024 a7).2];exact P.1 _ _ _ _ _ _
 have eX:av X=S (frM f W (g W) (z t) Y):=by rw[(I X hX.2).2];exact P.2.2.2.2.2.1 _ _ _ _ _ _
 have j:g1 1024=g 1024:=by rw[(I 1024 a7).1];rfl
 have gX:g1 X=g X:=by rw[(I X hX.2).1];exact l4 a7
 unfold rnM at o;unfold frM at eX;rcases hJ with⟨rfl,rfl,a',m,cv,J⟩|⟨hJ,A⟩;case inr=>
  have bs:∀ar,bS B (SSM p X W) g ob (RunT p inp fu gV gA X W f L (eM p (aG p) inp fu n f L G l) e0 G g ob) ⟨ar,g1,av⟩ []:=λar=>fh h I jg ⟨t,Y,d,x,w,A,an,rfl,rfl,rfl⟩;by_cases af:k<z l
  .have Q:(k:Int)<(z l:Int):=a7;by_cases U:x=0
   .obtain⟨v,rfl⟩:∃v,Y=S v:=by cases Y with|none=>grind;|some v=>simp
    subst U;simp only[go_sem,V,Z,q2,q6,j6,Q,o,eX,j,gX,C3];exact⟨_,ai.refl _,bs _⟩
   .have b6:¬(x:Int)=0:=a7;simp only[go_sem,V,q2,q6,j6,Q,o,j,b6];exact⟨_,ai.refl _,bs _⟩
  .have Q:¬(k:Int)<(z l:Int):=a7;simp only[go_sem,q2,q6,j6,Q];exact⟨_,ai.refl _,bs _⟩
 have s:=u a';rw[J]at s;by_cases af:k<z l;case neg=>
  have Q:¬(k:Int)<(z l:Int):=a7;simp only[go_sem,q2,q6,j6,Q];have hA:gy (eM p (aG p) inp fu n f L G l) e0 G L t N d 0:=by rw[a'];refine gy.mk ?_;rw[J,y8 a7];rw[y8 a7]at s;cases m with|zero=>grind[eM];|succ m=>rw[eM]
  exact⟨_,ai.refl _,fh h I jg ⟨t,N,d,0,w,hA,an,rfl,rfl,rfl⟩⟩
 have Q:(k:Int)<(z l:Int):=a7;have bk:(0:Int)<=(k:Int):=a7;obtain⟨a,ha⟩:=getq af;have ca:=getD_at (f:=smD) ha;have b:=C4 (Src.nd (l8 ha)) hz;rw[eO ha]at J s;cases m with|zero=>rw[eM]at s;exact absurd rfl s;|succ m=>
 rw[eM]at J s;have bn:evS p (aG p) inp fu m f t d a≠.no:=λe=>by rw[e]at s;exact s rfl
 simp only[go_sem,V,Z,q2,q6,j6,Q,bk,o,eX,j,gX,ca,D0];refine⟨kW a,E7 (kW a).symm,?_⟩;refine xX aa rfl (hS m a7 f t d a b bn) h an (by simp only[go_sem,Lf];rfl) I (l7 B) bl λbd q ad e' y A1 K1=>?_;simp only[go_sem,q6,hw];refine ak (mm-1) a7 ⟨k+1,bd,ad,e',q,y,a7,K1,?_,λi hi=>?_,λi hi=>?_,?_⟩
 .by_cases U:e'=0;.subst U;rw[A1.ok]at J;cases q with|none=>exact .inl ⟨rfl,rfl,a',m,a7,J⟩;|some v=>exact .inr ⟨.inr b9,by rw[a'];exact gy.mk J⟩
  .rw[A1.en U]at J;exact .inr ⟨.inl U,by rw[a'];exact gy.mke J U⟩
 .simp_all[upd,Fb]
 .simp only;rw[h.hi hi];grind
 .simp[go_sem,V,Z,q2]
def SvM.congr{g g2}{ob c}{G}{e}(d:z p.a<=900)(h:SvM p inp fu gV gA gk g ob G e)(b:∀i,i<3000->g2 i=g i/\c i=ob i):SvM p inp fu gV gA gk g2 c G e:=by
 refine⟨λi=>?_,by simp_all[a7,h.gv],by simp_all[a7,h.ga],by simp_all[a7,h.ar],λk f=>by rw[(b _ a7).1];exact h.gk k f,h.vl,h.al⟩;by_cases j:i<3000;.rw[(b i j).2,(b 1023 a7).1];exact h.fix i
 simp_all[xt,a7]
def Yb{B w e i}{G}{o}{cells}(hB:3000<=B)(d:i=1024\/i=1023\/i=1022\/(2000<=i/\i<2000+z p.a))(hc:pS p inp fu gV gA w G e i o=S cells):∀c∈cells,og B c:=by
 have f:∀l:List Nat,∀c∈wM l,og B c:=λl c hc=>by obtain⟨b,_,rfl⟩:=E6.1 hc;trivial
 intro c k;unfold pS at hc;split at hc;.exact Bc
 split at hc;.cases hc;obtain⟨b,_,rfl⟩:=E6.1 k;trivial
 grind
def Yc{n}(hS:HSs p inp fu gV gA gk n):HB p inp fu gV gA gk (n+1):=by
 intro f vs G sm b3 u b7 B g ob A X hB hA cb bl sv c7;obtain⟨fn,Y⟩:∃fn,p.f[f]?=S fn:=⟨_,x9 b3⟩
 obtain⟨cd,b8,o⟩:=sm.fn fn (l8 Y);obtain⟨r,V⟩:∃r,evB p (aG p) inp fu (n+1) f vs G=r:=⟨_,rfl⟩
 rw[V]at u|-;rw[evB,Y]at V;simp only[Mn.need]at V;by_cases cm:z vs=z fn.p
 case neg=>grind
 rw[s5 cm]at V;have bn:=sm.a;have b6:=getD_at (f:=fnD) Y;rw[show fnD fn=[.str fn.name,.sl (fn.p.map λs=>[.str s]),.sl (fn.l.map λs=>[.str s]),.bool fn.word,.sl (fn.body.map smD)]from rfl]at b6;have cf:(0:Int)<=(f:Int):=a7;have bz:ob 1024=S (rnM p inp fu gV gA (g 1023) G 0):=sv.fix 1024
 obtain⟨W,v,al⟩:∃W v,(W=B+25/\v=1024/\vs=[]/\X=.one (.d .nsl))\/(W=A/\v=A/\X=eS A (g A) 1 0 (z vs)/\ob A=S (wM vs)):=by
  rcases c7 with⟨U,Z⟩|⟨U,Z⟩
  .grind
  grind
 have c2:(W=B+25/\v=1024)\/(W=A/\v=A):=by rcases al with U|U<;>omega
 have cc:3000<=W/\W<B+46/\W≠B+29/\W≠B+24:=by rcases al with U|U<;>omega
 have w1:(W=B+24)=False:=by simp;omega
 have w2:(B+24=W)=False:=by simp;omega
 have w3:(W=B+29)=False:=by simp;omega
 have w4:(B+29=W)=False:=by simp;omega
 have n2:=λk=>TN (B:=B) (a:=1024) a7 k;have n3:(W=1024)=False:=by simp;omega
 have n4:(1024=W)=False:=by simp;omega
 obtain⟨ar,H⟩:∃ar:List Nat,ar=SSM p v v:=⟨_,rfl⟩
 have af:∀i∈ar,i<B:=λi hi=>by
  rw[H]at hi;exact Zz
 refine dS.toR (cC B ar aP mixed Tryz.func52 rfl c8 [.tmp 6] rfl c8 c8 b9 af bl λO bc s0 w0=>?_)
 -- cu words,y an object,at cu bk head
 have a':∃s1,ai ⟨upd (upd (dZ [aj 1024 (g 1024) 0,ae f,X]) 6 (iv .u32 0)) 7 (ae 0),g,ob⟩ s1/\s1.f 0=aj 1024 (g 1024) 0/\s1.f 1=ae f/\s1.f 7=ae 0/\s1.f 2=eS W (s1.gen W) 1 0 (z vs)/\s1.obj W=S (wM vs)/\(∀i,i<B->i≠W->s1.gen i=g i/\s1.obj i=ob i)/\∀i,B+46<=i->s1.obj i=N:=by
  rcases al with⟨rfl,rfl,rfl,rfl⟩|⟨rfl,rfl,rfl,ho⟩
  .refine⟨_,sd (t:=2) (id:=B+25) (sz:=1) rfl,rfl,rfl,rfl,?_,?_,λi hi hn=>?_,λi hi=>?_⟩
   .simp[St.grab,upd]
   .simp[St.grab,upd,wM]
   .simp_all[St.grab,upd]
   .simp[St.grab,upd];grind
  .exact⟨_,ai.refl _,rfl,rfl,rfl,rfl,ho,λi _ _=>⟨rfl,rfl⟩,λi hi=>bl i a7⟩
 obtain⟨s1,hv,p0,p1,p7,p2,pW,ps,pf⟩:=a';simp[go_sem];refine mq s1 hv (λm K=>∃k,m+k=z fn.l/\K.f 0=aj 1024 (g 1024) 0/\K.f 1=ae f/\K.f 7=ae k/\(∀i,i<B->i≠W->K.gen i=g i/\K.obj i=ob i)/\(∀i,B+46<=i->K.obj i=N)/\K.f 2=eS W (K.gen W) 1 0 (z vs+k)/\K.obj W=S (wM (vs++List.replicate k 0))) (z fn.l) ?_ ?_
 .simp_all
 clear hv p0 p1 p7 p2 pW ps pf s1;rintro m fs g1 av ⟨k,hm,q0,q1,q7,hs,az,q2,oW⟩;simp only at q0 q1 q7 hs az q2 oW;have hw:=ah (k:=k) a7;have b1:av 1024=S (rnM p inp fu gV gA (g 1023) G 0):=by rw[(hs 1024 a7 a7).2];exact bz
 have b0:=(hs 1024 a7 a7).1;unfold rnM at b1;have bo:z (vs++List.replicate k 0)=z vs+k:=b9;by_cases bs:k<z fn.l
 .have Q:(k:Int)<(z fn.l:Int):=a7
  have b5:=zy (vs++List.replicate k 0);simp only[go_sem,q0,q1,q2,q7,b1,b0,j6,cf,b6,Q,hw,bm,oW,b5,bo,w1];refine⟨l7 _,⟨a8,a7⟩,?_⟩;refine ak (m-1) a7 ⟨k+1,a7,?_⟩;simp only[go_sem,q0,q1];refine⟨λi hi hA=>?_,λi hi=>?_,rfl,?_⟩
  .grind
  .grind
  .rw[s6 a7,List.replicate_succ',<-s9]
   simp[wM]
 .have Q:¬(k:Int)<(z fn.l:Int):=a7
  obtain rfl:k=z fn.l:=a7;simp only[go_sem,q0,q1,q2,q7,b1,b0,j6,cf,b6,Q,n2];have b':eM p (aG p) inp fu n f (vs++List.replicate (z fn.l) 0) G fn.body≠.no:=λe=>by rw[e]at V;exact u V.symm
  obtain⟨x,I⟩:∃x,nxC 175 (g1 (B+29))=x:=⟨_,rfl⟩
  have e1:upd g1 (B+29) x (B+29)=x:=s5 rfl;have e2:upd g1 (B+29) x 1024=g 1024:=(l4 a7).trans b0
  have hF:FrM p inp fu gV gA gk (B+46) (upd g1 (B+29) x) (upd av (B+29) (S (frM f W (g1 W) (z vs+z fn.l) N))) (B+29) W f (vs++List.replicate (z fn.l) 0) G 0:=
   ⟨a7,sm,⟨fn,Y⟩,a7,a7,a7,λi hi=>by grind[upd],sv.congr bn λi hi=>by grind[upd],by simp_all[upd],by simp_all[upd],b7⟩
  have bf:=hS f (vs++List.replicate (z fn.l) 0) G 0 fn.body o (λ_=>b') (B+46) _ _ (B+29) W hF;rw[e1,e2]at bf;rw[I];refine dO aa rfl (by simp only[go_sem];exact bf) ?_;rintro _ _ _ ⟨bd,q,ad,e',w,A1,K1,rfl,rfl,rfl⟩;obtain⟨_,_,_,_,_,P,_⟩:=hF.rds;have ca:upd g1 (B+29) x W=g1 W:=l4 a7;rw[ca]at P|-;have z1:(B+29=1023)=False:=by simp;omega
  simp only[go_sem,P,frM,e1,z1];refine⟨_,ai.refl _,?_⟩;simp only[go_sem]
  have j:∀i,i<B->i≠W->upd (upd g1 (B+29) x) 1023 w i=upd g 1023 w i/\pT p inp fu gV gA (B+29) W f (g1 W) w ad e' bd q i (upd av (B+29) (S (frM f W (g1 W) (z vs+z fn.l) N)) i)=pS p inp fu gV gA w ad e' i (ob i):=λi hi hn=>by
   obtain⟨a1,a2⟩:=hs i hi hn;refine⟨?_,?_⟩
   .grind[upd]
   .unfold pT
    rw[l4 hn,l4 a7];grind[upd]
  have E:∀i,i∈ar->i≠W->i=1024\/i=1023\/i=1022\/(2000<=i/\i<2000+z p.a):=λi hi hn=>by
   rw[H]at hi;simp only[SSM,C6,A0,A9,D8,E6,E0]at hi
   grind
  have J:∀i,i∉ar->i≠1024/\i≠1023/\i≠1022/\i≠v/\¬(2000<=i/\i<2000+z p.a):=λi hi=>by
   rw[H]at hi;simp only[SSM,C6,A0,A9,D8,E6,E0,U8]at hi;obtain⟨⟨a1,a2,a3,a4,_⟩,a6⟩:=hi;exact⟨a1,a2,a3,a4,λhq=>a6 ⟨i-2000,a7,a7⟩⟩
  have L:∀i,i∉ar->pS p inp fu gV gA w ad e' i (ob i)=ob i:=λi hi=>by
   obtain⟨a1,a2,a3,_,a5⟩:=J i hi;grind[pS]
  refine⟨⟨λi hi hn=>?_,λi hi cells hc=>?_⟩,[iv .u32 (q.getD 0:Nat)],gL,q.getD 0,ad,e',w,?_,K1,rfl,λi ch=>⟨?_,?_⟩⟩
  .obtain⟨_,b2,_,b4,_⟩:=J i hn
   obtain⟨a1,a2⟩:=j i hi a7;exact⟨a1.trans (l4 b2),a2.trans (L i hn)⟩
  .by_cases hW:i=W
   .have hc:pT p inp fu gV gA (B+29) W f (g1 W) w ad e' bd q i (upd av (B+29) (S (frM f W (g1 W) (z vs+z fn.l) N)) i)=S cells:=hc
    unfold pT at hc;rw[s5 hW]at hc;cases hc;intro c hc;obtain⟨b,_,rfl⟩:=E6.1 hc;trivial
   .exact Yb hB (E i hi hW) ((j i (af i hi) hW).2.symm.trans hc)
  .by_cases he:e'=0
   .subst he
    exact fP.mk (by rw[<-V,A1.ok];rfl)
   .exact W3
  .unfold kS
   split
   .rename_i hi
    exact(j i (af i hi) ZN).1
   grind
  .unfold iA
   split
   .rename_i hi
    exact(j i (af i hi) ZN).2
   grind
end
section
variable{B:Nat}{g:Nat->Nat}{ob:Obs}{L:List Nat}{G:Sg}{m el:List Stm}{r:Rs (List Nat×Option Nat)}{p:Src.Prog}{inp:Str}{fu gV gA:Nat}{gk:Nat->Nat}
def Yd{X W f a w e e2 j}{y}{L bd Q}{b G a6}{q q2}{s:St}{l:Obs}(h:FrM p inp fu gV gA gk B g ob X W f L b a)(c:s.obj=upd l j (S y))(U:∀o,pT p inp fu gV gA X W f (g W) w a6 e2 Q q2 j o=S y)(Z:∀i o,i≠j->pT p inp fu gV gA X W f (g W) w a6 e2 Q q2 i o=pT p inp fu gV gA X W f (g W) w G e bd q i o)(d:∀i,i<B->s.gen i=upd g 1023 w i/\l i=pT p inp fu gV gA X W f (g W) w G e bd q i (ob i)):∀i,i<B->s.gen i=upd g 1023 w i/\s.obj i=pT p inp fu gV gA X W f (g W) w a6 e2 Q q2 i (ob i):=λi k=>by obtain⟨m,n⟩:=d i k;refine⟨m,?_⟩;rw[c];grind[upd]
def acC{X W f e e'}{L bd}{G ad}{r}{s}{R}{j rs}(h:FrM p inp fu gV gA gk B g ob X W f L G e)(d:∀i,i<B->i≠1023->s.gen i=g i)(ho:∀i,i<B->s.obj i=pT p inp fu gV gA X W f (g W) (s.gen 1023) ad e' bd r i (ob i))(a:fT B s j rs)(b:∀w,R (pack rs) (upd g 1023 w) (λi=>pT p inp fu gV gA X W f (g W) w ad e' bd r i (ob i))):bS B (SSM p X W) g ob R s j:=fh (w:=s.gen 1023) h (λi c=>⟨by grind[upd],ho i c⟩) a (b _)
def FrM.frX{X W f e}(h:FrM p inp fu gV gA gk B g ob X W f L G e):ob X=S [ag f,.osl W (g W) 1 0 (z L),bO F,.d (.int .u32 ((0:Nat)))]:=h.frm
def ML{n f}{b}{a}(hE:HE p inp fu gV gA gk n)(hz:Src.szE a<=1000000)(V:(evE p (aG p) inp fu n f L G a).bind (λv H=>Mn.My (aG p f b) L H v)=r)(u:r≠.no):vm p inp fu gV gA gk f L G (.mk 1 b [a] m el) r:=by
 intro B g ob X W h;refine dS.toR (cC B (SSM p X W) aP mixed Tryz.func131 rfl c8 [] rfl j0 j0 b9 (iD h) h.free λO bc s0 w0=>?_);have al:=h.nes;have P:=h.rds;obtain⟨fn,Y⟩:=h.fn;obtain⟨cd,b8,_⟩:=h.sm.fn fn (l8 Y);have d:=zx p h.sm.v ab6 h.sm.f f fn Y cd b8 b;rw[cI]at d;rw[rP];simp only[go_sem,s7,x7];refine⟨aY a,E7 (aY a).symm,?_⟩;refine ma aa rfl hE h hz (λ_=>(λe=>by rw[e]at V;exact u V.symm)) aa8 loM (by omega:B<=B+251) Z5 λE H e1 c A1 K1=>?_;by_cases he:e1=0;case neg=>exact oy
 subst he;rw[A1.ok]at V;simp only[Rs.bind,Mn.My]at V;cases s:aG p f b with|none=>rw[s]at V;exact absurd V.symm u;|some t=>
 obtain⟨k,j⟩:=t;rw[s]at V;simp only at V;rw[OW Y b s]at d;have I:(0:Int)<=(j:Int):=a7;simp only[go_sem,al,P,rnM];refine cG aP mixed aa [] [([0],[],[],F),([33],[],[],F),([34],[],[],F),([35],[],[],F),([1],[],[],F),([37],[],[],F),([38],[],[],F),([39],[],[],F),([5],[],[],F),([41],[],[],F),([36,40,42],[],[],F),([43],[],[],F),([32],[],[],F),([32],[],[],F),([44],[],[],F),([45],[],[],T)] 0 rfl c9 rfl a8 ?_;simp only[go_sem];iterate 10 (refine au gdD (λ_ _ _ _ J=>by simp only[go_sem,rnM,frM,al,P]at J|-;exact J) ?_)
 refine au (v:=.tup [ae (k:Nat),ae (j:Nat)]) A6 (λfa ga oa K J=>?_) ?_;.simp only[go_sem]at J|-;refine sG aa rfl d c8 (B:=B+251) aa3 ?_;exact h9
 iterate 4 (refine au gdD (λ_ _ _ _ J=>by simp only[go_sem]at J|-;exact J) ?_)
 refine cH A6 ?_;intro K Q;simp only[go_sem];refine Q _ ?_;clear Q K;by_cases U:k=1
 .subst U;rw[s5 rfl]at V;by_cases hi:j<z L;case neg=>rw[l4 hi]at V;exact absurd V.symm u
  rw[s5 hi]at V;have y:(j:Int)<(z L:Int):=a7;simp only[go_sem,frM,al,P,I,y,zy L];refine⟨a7,?_⟩;refine⟨_,ai.refl _,?_⟩;simp only[go_sem];refine fh (w:=c) (e':=0) (ad:=H) (bd:=L.set j E) (r:=N) h (Yd (G:=H) (e:=0) (bd:=L) (q:=N) (j:=W) h rfl (λo=>?_) (λi o A=>?_) loM) jg ⟨_,N,H,0,c,gy.mk V.symm,K1,rfl,rfl,rfl⟩;.rw[P.2.2.2.2.2.2];simp[wM]
  grind[pT]
 .rw[l4 U]at V;by_cases Z:k=2;case neg=>rw[l4 Z]at V;exact absurd V.symm u
  subst Z;rw[s5 rfl]at V;by_cases hi:j<z H.v;case neg=>rw[l4 hi]at V;exact absurd V.symm u
  rw[s5 hi]at V;have cm:=K1.1;have y:(j:Int)<(z p.v:Int):=a7;simp only[go_sem,rnM,al,P,I,y,zy H.v,h.sv.gv];refine⟨a7,?_⟩;refine⟨_,ai.refl _,?_⟩;simp only[go_sem];refine fh (w:=c) (e':=0) (ad:=⟨H.v.set j E,H.arrs,H.out,H.rd,H.tk⟩) (bd:=L) (r:=N) h (Yd (G:=H) (e:=0) (bd:=L) (q:=N) (j:=1022) h rfl (λo=>?_) (λi o A=>?_) loM) jg ⟨L,N,_,0,c,gy.mk V.symm,⟨by grind,K1.2.1,K1.2.2⟩,rfl,rfl,rfl⟩;.rw[P.2.2.1];simp[wM]
  .unfold pT pS;rw[l4 A,l4 A];rfl
def MM{n f}{l}{a}(o:HE p inp fu gV gA gk n)(q:Src.szE a<=1000000)(V:(evE p (aG p) inp fu n f L G a).bind (λv H=>Mn.Mz L H v)=r)(u:r≠.no):vm p inp fu gV gA gk f L G (.mk 3 l [a] m el) r:=by
 intro B g ob X W h;refine dS.toR (cC B (SSM p X W) aP mixed Tryz.func131 rfl c8 [] rfl j0 j0 b9 (iD h) h.free λO bc y A=>?_);have al:=h.nes;have P:=h.rds;rw[rP];simp only[go_sem,s7,x7];refine⟨aY a,E7 (aY a).symm,?_⟩;refine ma aa rfl o h q (λ_=>(λe=>by rw[e]at V;exact u V.symm)) aa8 loM (by omega:B<=B+251) Z5 λd H e1 c A1 K1=>?_;by_cases he:e1=0;case neg=>exact oy
 subst he;rw[A1.ok]at V;simp only[Rs.bind,Mn.Mz]at V;by_cases hl:65536<=z H.out;.rw[s5 hl]at V;have j:(65536:Int)<=(z H.out:Int):=a7;simp only[go_sem,al,P,rnM,j];refine⟨_,ai.refl _,?_⟩;simp only[go_sem];exact fh h (runM (e:=0) h rfl ⟨rfl,rfl,rfl⟩ loM) jg ⟨L,N,H,4,c,gy.mke V.symm a8,K1,rfl,rfl,rfl⟩
 .rw[l4 hl]at V;have j:¬(65536:Int)<=(z H.out:Int):=a7;have b:IntKind.u8.wrap ((d:Nat):Int)=(((UInt8.ofNat d).toNat:Nat):Int):=by rw[IntKind.wrap_u8,M0];omega
  simp only[go_sem,al,P,rnM,j,b,OR H.out,bm];refine⟨l7 _,⟨a8,a7⟩,?_⟩;refine⟨_,ai.refl _,?_⟩;simp only[go_sem];refine acC h (λi hi x=>?_) (λi hi=>?_) jg λw=>⟨L,N,_,0,w,gy.mk V.symm,K1,rfl,rfl,rfl⟩
  .have hk:∀k,(i=B+k)=False:=λk=>by grind
   simp only[upd,hk,x,B1]
  .have hk:∀k,(i=B+k)=False:=λk=>by grind
   by_cases U:i=1024;.subst U;rw[P.1];simp[upd,rnM]
   by_cases Z:i=1023;.subst Z;rw[P.2.1];simp[upd,bM,s6,b9]
   .simp only[upd,B3,B1,hk,U,Z];grind[pT,pS]
end
section
variable{L:List Nat}{G:Sg}{x:Str}{th el:List Stm}{r:Rs (List Nat×Option Nat)}{n f:Nat}{ks:List Ex}{p:Src.Prog}{inp:Str}{fu gV gA:Nat}{gk:Nat->Nat}
def Cl{a b}(hE:HE p inp fu gV gA gk n)(hz:Src.szE a<=1000000/\Src.szE b<=1000000)(V:(evE p (aG p) inp fu n f L G a).bind (λj H=>(evE p (aG p) inp fu n f L H b).bind λv a6=>Mn.yJ (aG p f x) L a6 j v)=r)(u:r≠.no)(h3:∀k i,aG p f x=S (k,i)->k=3->i<z p.a):vm p inp fu gV gA gk f L G (.mk 2 x [a,b] th el) r:=by
 intro B g ob X W h;refine dS.toR (cC B (SSM p X W) aP mixed Tryz.func131 rfl c8 [] rfl j0 j0 b9 (iD h) h.free λO bc s0 w0=>?_);have al:=h.nes;have P:=h.rds;have bz:=h.run;have ar:=h.frX;obtain⟨fn,Y⟩:=h.fn;obtain⟨cd,b8,_⟩:=h.sm.fn fn (l8 Y);have hF:=zx p h.sm.v ab6 h.sm.f f fn Y cd b8 x;rw[cI]at hF;unfold rnM at bz;rw[rP];have bn:evE p (aG p) inp fu n f L G a≠.no:=λe=>by rw[e]at V;exact u V.symm
 obtain⟨⟨kd,i⟩,bs⟩:∃q:Int×Int,fg p fn x=q:=⟨_,rfl⟩;rw[bs]at hF;simp only[go_sem];refine cG aP mixed aa [] [([0],[],[],F),([65],[],[],F),([66],[],[],F),([67],[],[],F),([1],[],[],F),([69],[],[],F),([70],[],[],F),([71],[],[],F),([5],[],[],F),([73],[],[],F),([68,72,74],[],[],F),([75],[],[],F),([64],[],[],F),([64],[],[],F),([76],[],[],F),([77],[],[],T)] 0 rfl c9 rfl a8 ?_;simp only[go_sem];iterate 10 (refine au gdD (λ_ _ _ _ J=>by simp only[go_sem,bz,ar,al]at J|-;exact J) ?_)
 refine au (v:=.tup [ae kd,ae i]) A6 (λfa ga oa K' J=>?_) ?_;.simp only[go_sem]at J|-;refine sG aa rfl hF c8 (B:=B+251) Z5 ?_;exact h9
 iterate 4 (refine au gdD (λ_ _ _ _ J=>by simp only[go_sem]at J|-;exact J) ?_)
 refine cH A6 ?_;intro K' a';simp only[go_sem];refine a' _ ?_;clear a' K';simp only[go_sem];refine⟨aY a,E7 (aY a).symm,?_⟩;refine ma aa rfl hE h hz.1 (λ_=>bn) aa8 loM (by omega:B<=B+251) Z5 λs H e1 c A1 K1=>?_;have A:e1=0->evE p (aG p) inp fu n f L H b≠.no:=λe hq=>by subst e;grind[A1.ok,Rs.bind]
 simp only[go_sem,al,P];refine⟨aY b,E7 (aY b).symm,?_⟩;refine qu (c:=c) aa rfl hE h K1 hz.2 A aa8 loM (by omega:B<=B+251) aa3 λd a6 e2 I A2 K=>?_;by_cases he:e2=0;case neg=>have hi:¬(e2:Int)=0:=a7;simp only[go_sem,al,P,rnM,hi];refine⟨_,ai.refl _,?_⟩;simp only[go_sem];refine fh h loM jg ⟨L,N,a6,e2,I,gy.mke ?_ he,K,rfl,rfl,rfl⟩;exact Lw
 subst he;obtain⟨U,Z⟩:evE p (aG p) inp fu n f L G a=.ok s H/\evE p (aG p) inp fu n f L H b=.ok d a6:=by
  rcases A1.then A2 with⟨_,U,Z,_⟩|⟨h0,_⟩;.grind
  omega
 rw[U]at V;simp[Rs.bind,Z,Mn.yJ]at V;cases ht:aG p f x with|none=>rw[ht]at V;exact absurd V.symm u;|some t=>
 obtain⟨k,j⟩:=t;rw[ht]at V;simp only at V;by_cases hk:k=3;case neg=>rw[l4 hk]at V;exact absurd V.symm u
 subst hk;rw[s5 rfl]at V;by_cases hv:s<4294967296;case neg=>rw[l4 hv]at V;exact absurd V.symm u
 rw[s5 hv]at V;rw[OW Y x ht]at bs;cases bs;have hj:=h3 _ _ ht rfl;cases hl:a6.arrs[j]?with|none=>rw[hl]at V;exact absurd V.symm u;|some l=>
 rw[hl]at V;obtain⟨Q,q1,q2,q3,q4,q5,q6,q7,q8⟩:=h.arr hj;have b4:=K.2.1.2 j l hl;have cu:=h.sm.az j;have cx:(0:Int)<=(j:Int):=a7;have y:(j:Int)<(z p.a:Int):=a7;have w1:IntKind.u64.wrap ((s:Nat):Int)=(s:Int):=by rw[IntKind.wrap_u64];omega
 have w2:IntKind.u64.wrap ((alM p j:Nat):Int)=(alM p j:Int):=by rw[IntKind.wrap_u64];omega
 have b5:=zy l;simp only[Mn.need]at V;by_cases af:s<z l
 .rw[s5 af]at V;have hc:¬(alM p j:Int)<=(s:Int):=a7;have bl:(0:Int)<=(s:Int):=a7;have b7:(s:Int)<(alM p j:Int):=a7;simp only[go_sem,al,P,rnM,Q,q1,q3,q5,q6,q7,q8,cx,y,w1,w2,hc,bl,b7,hl,B6,b5];refine⟨a7,?_⟩;refine⟨_,ai.refl _,?_⟩;simp only[go_sem];refine fh h (Yd (G:=a6) (e:=0) (bd:=L) (q:=N) h rfl (λo=>?_) (λi o hn=>?_) loM) jg ⟨L,N,_,0,I,gy.mk V.symm,⟨K.1,⟨by simp;exact K.2.1.1,λi l' m=>?_⟩,K.2.2⟩,rfl,rfl,rfl⟩;.rw[Q];simp only[E3,B3];rw[s5 (l9.1 hl).1];simp[wM]
  .unfold pT pS;simp[E3];by_cases hi:2000<=i/\i<2000+z p.a;.grind
   .rw[l4 hi,l4 hi];rfl
  .simp[E3]at m;by_cases e:j=i;.grind
   .rw[l4 e]at m;exact K.2.1.2 i l' m
 .rw[l4 af]at V;have hc:(alM p j:Int)<=(s:Int):=a7;simp only[go_sem,al,P,rnM,Q,q1,q3,q5,q6,q7,q8,cx,y,w1,w2,hc];refine⟨_,ai.refl _,?_⟩;simp only[go_sem];exact fh h (runM (e:=0) h rfl ⟨rfl,rfl,rfl⟩ loM) jg ⟨L,N,a6,3,I,gy.mke V.symm a8,K,rfl,rfl,rfl⟩
def afw{a}(K:HE p inp fu gV gA gk n)(t:HSs p inp fu gV gA gk n)(j:Src.szE a<=1000000/\Src.aI th<=1000000/\Src.aI el<=1000000)(V:(evE p (aG p) inp fu n f L G a).bind (λv H=>if v=0 then eM p (aG p) inp fu n f L H el else eM p (aG p) inp fu n f L H th)=r)(u:r≠.no):vm p inp fu gV gA gk f L G (.mk 4 x [a] th el) r:=by
 intro B g ob X W h;refine dS.toR (cC B (SSM p X W) aP mixed Tryz.func131 rfl c8 [] rfl j0 j0 b9 (iD h) h.free λO bc Z w0=>?_);have al:=h.nes;have P:=h.rds;rw[rP];simp only[go_sem,s7,x7];refine⟨aY a,E7 (aY a).symm,?_⟩;refine ma aa rfl K h j.1 (λ_=>(λe=>by rw[e]at V;exact u V.symm)) aa8 loM (by omega:B<=B+251) Z5 λA H e1 c m I=>?_;have bs:∀(l:List Stm),(e1=0->eM p (aG p) inp fu n f L H l=r)->∀bd q ad e',gy (eM p (aG p) inp fu n f L H l) e1 H L bd q ad e'->gy r 0 G L bd q ad e':=λl hq bd q ad e' b=>by
  by_cases d:e1=0;.subst d;rw[hq rfl]at b;unfold gy at b|-;grind
  .unfold gy at b;rw[l4 d]at b;obtain⟨rfl,rfl,rfl,rfl⟩:=b;exact gy.mke (by rw[<-V,m.en d];rfl) d
 by_cases o:A=0
 .have hq:e1=0->eM p (aG p) inp fu n f L H el=r:=λe=>by subst e;rw[<-V,m.ok];simp[Rs.bind,s5 o]
  subst o;simp only[go_sem,al,P];refine xX (c:=c) aa rfl (t f L H e1 el j.2.2 λe U=>u ZN) h I c8 loM (by omega:B<=B+251) aa3 λbd q ad e' y b s=>?_;simp only[go_sem];refine⟨_,ai.refl _,?_⟩;simp only[go_sem];exact fh h loM jg ⟨bd,q,ad,e',y,bs el hq _ _ _ _ b,s,rfl,rfl,rfl⟩
 .have hq:e1=0->eM p (aG p) inp fu n f L H th=r:=λe=>by subst e;rw[<-V,m.ok];simp[Rs.bind,l4 o]
  have J:¬((A:Nat):Int)=0:=a7;simp only[go_sem,al,P,J];refine xX (c:=c) aa rfl (t f L H e1 th j.2.1 λe U=>u ZN) h I c8 loM (by omega:B<=B+251) aa3 λbd q ad e' y b s=>?_;simp only[go_sem];refine⟨_,ai.refl _,?_⟩;simp only[go_sem];exact fh h loM jg ⟨bd,q,ad,e',y,bs th hq _ _ _ _ b,s,rfl,rfl,rfl⟩
section
variable{O:Bs}{rd:Option Nat}{Φ:St->Am.Loc->List Deferred->World->Prop}
def Jw(a6:bA O Φ){o}{s}{K}{k:Box K}{args}{tys}(ho:o.op=.call ⟨.value (.func 202),args,tys⟩){f B X W}{r}{g}{ob}(hC:Jv p inp fu gV gA gk f L G x ks r)(h:FrM p inp fu gV gA gk B g ob X W f L G 0)(I:args.toList.map s.ev=[aj 1024 (g 1024) 0,aj X (g X) 0,sv x,ea ks]){b}(hs:∀i,i<B->s.gen i=g i/\s.obj i=ob i)(hB:B<=b)(ar:∀i,b<=i->s.obj i=N){a}{c}(d:∀v ad e' w,fP r 0 G v ad e'->OkM p inp ad->K (St.put ⟨s.f,upd s.gen 1023 w,λi=>pT p inp fu gV gA X W f (g W) w ad e' L N i (s.obj i)⟩ o.dst (iv .u32 v))):bE (spF Tryz.prog rd O Φ a c) o s k:=by have U:=h.hB;have Z:=h.hX;have e:=h.hW;refine dO a6 ho (by rw[I,<-(hs 1024 a7).1,<-(hs X a7).1];exact hC b s.gen s.obj X W (h.re (w:=g 1023) h.okm abI hB ar)) ?_;rintro _ _ _⟨v,ad,e',w,j,l,rfl,rfl,rfl⟩;grind
end
def Ye{f}{num o}{r}(hC:Jv p inp fu gV gA gk f L G x ks r):tr p inp fu gV gA gk f L G 0 (.mk 4 o num x ks) r:=by intro B g ob X W h;refine dS.toR (cC B (SSM p X W) aP mixed Tryz.func200 rfl c8 [.tmp 6] rfl j0 j0 b9 (iD h) h.free λO bc a b=>?_);have V:=h.run;unfold rnM at V;rw[qt];simp only[go_sem,V,h.nes];refine Jw aa rfl hC h c8 loM (by omega:B<=B+232) Z5 λv ad e' w A K=>?_;simp only[go_sem];refine⟨_,ai.refl _,?_⟩;simp only[go_sem];exact fh h loM gL ⟨v,ad,e',w,A,K,rfl,rfl,rfl⟩
def Yf{f}{b}(hC:Jv p inp fu gV gA gk f L G x ks b)(V:b.bind (λ_ c=>.ok (L,N) c)=r):vm p inp fu gV gA gk f L G (.mk 6 x ks th el) r:=by
 intro B g ob X W h;refine dS.toR (cC B (SSM p X W) aP mixed Tryz.func131 rfl c8 [] rfl j0 j0 b9 (iD h) h.free λO bc d e=>?_);have al:=h.nes;rw[rP];simp only[go_sem];refine Jw aa rfl hC h c8 loM (by omega:B<=B+251) Z5 λv ad e' w A K=>?_;simp only[go_sem];refine⟨_,ai.refl _,?_⟩;simp only[go_sem];refine fh h loM jg ⟨L,N,ad,e',w,?_,K,rfl,rfl,rfl⟩;by_cases a:e'=0;.subst a;exact gy.mk (by rw[<-V,A.ok];rfl)
 .exact gy.mke (by rw[<-V,A.en a];rfl) a
def Yg{f}:vm p inp fu gV gA gk f L G (.mk 7 x [] th el) (.ok (L,S 0) G):=by
 intro B g d X W h;refine dS.toR (cC B (SSM p X W) aP mixed Tryz.func131 rfl c8 [] rfl j0 j0 b9 (iD h) h.free λO bc e j=>?_);rw[rP];simp only[go_sem,h.nes,h.frX,x7];refine⟨_,ai.refl _,?_⟩;simp only[go_sem];refine fh h (λi l=>?_) jg ⟨L,S 0,G,0,g 1023,gy.mk rfl,h.okm,rfl,rfl,rfl⟩;have b:∀k,(i=B+k)=False:=λk=>by grind
 obtain⟨a,c⟩:=h.same i;by_cases hX:i=X;.subst hX;rw[h.rds.2.2.2.2.2.1];simp only[upd,b,B3,B1]at a|-;exact⟨a,rfl⟩
 .simp only[upd,b,hX,B1]at a|-;grind[pT]
def Yh{a}(m:HE p inp fu gV gA gk n)(o:Src.szE a<=1000000)(V:(evE p (aG p) inp fu n f L G a).bind (λv H=>.ok (L,S v) H)=r)(u:r≠.no):vm p inp fu gV gA gk f L G (.mk 7 x [a] th el) r:=by
 intro B g ob X W h;refine dS.toR (cC B (SSM p X W) aP mixed Tryz.func131 rfl c8 [] rfl j0 j0 b9 (iD h) h.free λO bc t y=>?_);have P:=h.rds;rw[rP];simp only[go_sem,s7,x7];refine⟨aY a,E7 (aY a).symm,?_⟩;refine ma aa rfl m h o (λ_=>(λe=>by rw[e]at V;exact u V.symm)) aa8 loM (by omega:B<=B+251) Z5 λj H b c l s=>?_;simp only[go_sem,h.nes,P,frM];refine⟨_,ai.refl _,?_⟩;simp only[go_sem];refine fh h (λi hi=>?_) jg ⟨L,S j,H,b,c,?_,s,rfl,rfl,rfl⟩
 .have hk:∀k,(i=B+k)=False:=λk=>by grind
  by_cases hX:i=X;.subst hX;rw[P.2.2.2.2.2.1];simp only[upd,hk,B3,B1];exact⟨trivial,rfl⟩
  .simp only[upd,hk,hX,B1];grind[pT]
 .by_cases d:b=0;.subst d;exact gy.mk (by rw[<-V,l.ok];rfl)
  .exact gy.mke (by rw[<-V,l.en d];rfl) d
end
variable{p:Src.Prog}{inp:Str}{fu gV gA:Nat}{gk:Nat->Nat}
def reM{B X W f c w I e e2}{g a}{ob av:Obs}{L Q}{G a6}{q q2}(b:∀i,i<B->a i=upd g 1023 w i/\av i=pT p inp fu gV gA X W f c w G e L q i (ob i)):∀i,i<B->upd a 1023 I i=upd g 1023 I i/\pT p inp fu gV gA X W f c I a6 e2 Q q2 i (av i)=pT p inp fu gV gA X W f c I a6 e2 Q q2 i (ob i):=λi d=>by simp_all[Fb,upd]
def TT{n f}{L}{G}{nm}{a}{th el}(hE:∀m,m<=n->HE p inp fu gV gA gk m)(hS:∀m,m<=n->HSs p inp fu gV gA gk m)(hz:Src.szE a<=1000000/\Src.aI th<=1000000){r}(V:(Mn.tick fu G λH=>evW p (aG p) inp fu n f L H a th)=r)(u:r≠.no):vm p inp fu gV gA gk f L G (.mk 5 nm [a] th el) r:=by
 intro B g ob X W h;refine dS.toR (cC B (SSM p X W) aP mixed Tryz.func131 rfl c8 [] rfl j0 j0 b9 (iD h) h.free λO bc s0 w0=>?_);have al:=h.nes;have P:=h.rds;have hB:=h.hB;have hX:=h.hX;have bz:=h.run;rw[rP];simp only[go_sem,s7,x7];refine dO aa rfl (by simp only[go_sem,al];rw[show g 1024=upd g (B+5) (nxC 111 (g (B+5))) 1024 from by grind[upd]];exact HC (w:=g 1023) (G:=G) (e:=0) (by simp only[go_sem,al];exact bz) h.sm.fu) ?_;rintro _ g1 av ⟨rfl,rfl,rfl⟩;simp only[go_sem];have o:∀i,B+251<=i->ob i=N:=λi hi=>h.free i a7
 refine aF (λmm K=>∃(t:List Nat)(d:Sg)(ek:Nat)(Y:Option Nat)(w:Nat),OkM p inp d/\
  ((ek=0/\Y=N/\mm<=n/\evW p (aG p) inp fu mm f t d a th=r)\/((ek≠0\/Y≠N)/\gy r 0 G L t Y d ek))/\
  (∀i,i<B->K.gen i=upd g 1023 w i/\K.obj i=pT p inp fu gV gA X W f (g W) w d ek t Y i (ob i))/\(∀i,B+251<=i->K.obj i=N)/\
  K.f 0=aj 1024 (g 1024) 0/\K.f 1=aj X (g X) 0/\K.f 5=aj (B+5) (K.gen (B+5)) 0/\K.obj (B+5)=S [ag 5,bW nm,aw [exD a],aw (th.map smD),aw (el.map smD)]) n ?_ ?_
 .by_cases ht:G.tk<fu
  .unfold Mn.tick at V
   rw[s5 ht]at V;rw[s5 ht];refine⟨L,⟨G.v,G.arrs,G.out,G.rd,G.tk+1⟩,0,N,g 1023,h.okm,.inl ⟨rfl,rfl,l7 _,V⟩,?_,λi hi=>?_,?_⟩
   .exact oR
   .grind[upd]
   .simp only[go_sem,al]
  .unfold Mn.tick at V
   rw[l4 ht]at V;rw[l4 ht];refine⟨L,G,5,N,g 1023,h.okm,.inr ⟨.inl a8,gy.mke V.symm a8⟩,?_,λi hi=>?_,?_⟩
   .exact oR
   .grind[upd]
   .simp only[go_sem,al]
 rintro mm fs g1 av ⟨t,d,ek,Y,w,an,hJ,hs,bl,q0,q1,q5,o5⟩;simp only at hs bl q0 q1 q5 o5;have Z:av 1024=S (rnM p inp fu gV gA w d ek):=by rw[(hs 1024 a7).2];exact P.1 _ _ _ _ _ _
 have eX:av X=S (frM f W (g W) (z t) Y):=by rw[(hs X hX.2).2];exact P.2.2.2.2.2.1 _ _ _ _ _ _
 have j:g1 1024=g 1024:=by rw[(hs 1024 a7).1];rfl
 have gX:g1 X=g X:=by rw[(hs X hX.2).1];exact l4 a7
 unfold rnM at Z;unfold frM at eX;rcases hJ with⟨rfl,rfl,cv,hq⟩|⟨hJ,A⟩
 case inr=>
  have bs:∀ar,bS B (SSM p X W) g ob (RunT p inp fu gV gA X W f L r 0 G g ob) ⟨ar,g1,av⟩ []:=λar=>
   fh h hs jg ⟨t,Y,d,ek,w,A,an,rfl,rfl,rfl⟩
  by_cases he:ek=0
  .obtain⟨v,rfl⟩:∃v,Y=S v:=by
    cases Y with
    |none=>grind
    |some v=>simp
   subst he;simp only[go_sem,q0,q1,Z,eX,j,gX,C3];exact⟨_,ai.refl _,bs _⟩
  .have b6:¬(ek:Int)=0:=a7
   simp only[go_sem,q0,q1,Z,eX,j,gX,b6];exact⟨_,ai.refl _,bs _⟩
 cases mm with
 |zero=>rw[evW]at hq;exact absurd hq.symm u
 |succ m=>
   rw[evW]at hq;simp only[go_sem,q0,q1,q5,j,gX,Z,eX,o5,D0,s7,x7];refine⟨aY a,E7 (aY a).symm,?_⟩;refine qu aa rfl (hE m a7) h an hz.1 (λ_=>(λe=>by rw[e]at hq;exact u hq.symm)) (by simp only[go_sem,q0,q1,eG];rfl) hs (by omega:B<=B+251) bl λv1 H e1 c A1 K1=>?_;have a1:=reM (I:=c) (a6:=H) (e2:=e1) (Q:=t) (q2:=N) hs;have az:∀i,B+251<=i->pT p inp fu gV gA X W f (g W) c H e1 t N i (av i)=N:=λi hi=>by rw[h.hi a7];grind
   by_cases hv:v1=0
   .subst hv
    simp only[go_sem];refine⟨_,ai.refl _,?_⟩;simp only[go_sem];refine fh h a1 jg ⟨t,N,H,e1,c,?_,K1,rfl,rfl,rfl⟩;by_cases he:e1=0
    .subst he
     refine gy.mk ?_;rw[<-hq,A1.ok];rfl
    .exact gy.mke (by rw[<-hq,A1.en he];rfl) he
   have J:¬((v1:Nat):Int)=0:=a7
   -- bk cu body comes to
   have b:e1=0->(eM p (aG p) inp fu m f t H th).bind (λx a6=>match x.2 with|some v=>.ok (x.1,S v) a6|none=>Mn.tick fu a6 λaf=>evW p (aG p) inp fu m f x.1 af a th)=r:=λe=>by
    subst e;rw[A1.ok]at hq;simp only[Rs.bind]at hq;rw[l4 hv]at hq;exact hq
   simp only[go_sem,J,q0,q1,q5,al,P,o5];refine xX aa rfl (hS m a7 f t H e1 th hz.2 λe hn=>u (by rw[<-b e,hn];rfl)) h K1 c8 a1 (by omega:B<=B+251) az λbd q ad e' y A2 K2=>?_;have bf:=reM (I:=y) (a6:=ad) (e2:=e') (Q:=bd) (q2:=q) a1;have a':∀i,B+251<=i->pT p inp fu gV gA X W f (g W) y ad e' bd q i (pT p inp fu gV gA X W f (g W) c H e1 t N i (av i))=N:=λi hi=>by rw[h.hi a7];grind
   by_cases he:e'=0
   case neg=>
    have b6:¬(e':Int)=0:=a7;simp only[go_sem,al,P,rnM,frM,q0,q1,b6,j];refine ak m a7 ⟨bd,ad,e',q,y,K2,.inr ⟨.inl he,?_⟩,bf,a',?_⟩
    .by_cases U:e1=0
     .subst U
      exact gy.mke (by rw[<-b rfl,A2.en he];rfl) he
     .unfold gy at A2
      rw[l4 U]at A2;obtain⟨rfl,rfl,rfl,rfl⟩:=A2;exact gy.mke (by rw[<-hq,A1.en U];rfl) U
    .exact ZE
   subst he
   have U:e1=0:=by
    by_cases U:e1=0
    .exact U
    .unfold gy at A2
     grind
   subst U;have l:=b rfl;rw[A2.ok]at l;simp only[Rs.bind]at l;cases q with
   |some v=>
     simp only at l;simp only[go_sem,al,P,rnM,frM,q0,q1,j,gX,C3];refine ak m a7 ⟨bd,ad,0,S v,y,K2,.inr ⟨.inr b9,gy.mk l.symm⟩,bf,a',?_⟩;exact ZE
   |none=>
     simp only at l;simp only[go_sem,al,P,rnM,frM,q0,q1,j,gX,D0];refine dO aa rfl (by simp only[go_sem,q0];rw[show g 1024=upd (upd g1 1023 c) 1023 y 1024 from by grind[upd]];exact HC (p:=p) (inp:=inp) (fu:=fu) (gV:=gV) (gA:=gA) (w:=y) (G:=ad) (e:=0) (P.1 _ _ _ _ _ _) h.sm.fu) ?_;rintro _ g3 b' ⟨rfl,rfl,rfl⟩;unfold Mn.tick at l;by_cases ht:ad.tk<fu
     .rw[s5 ht]at l
      rw[s5 ht];simp only[go_sem];refine ak m a7 ⟨bd,⟨ad.v,ad.arrs,ad.out,ad.rd,ad.tk+1⟩,0,N,y,K2,.inl ⟨rfl,rfl,a7,l⟩,runM (G:=ad) (e:=0) (q:=N) (bd:=bd) h rfl ⟨rfl,rfl,rfl⟩ bf,λi hi=>?_,?_⟩
      .grind[upd]
      .exact ZE
     .rw[l4 ht]at l
      rw[l4 ht];simp only[go_sem];refine ak m a7 ⟨bd,ad,5,N,y,K2,.inr ⟨.inl a8,gy.mke l.symm a8⟩,runM (s:=⟨_,_,_⟩) (G:=ad) (e:=0) (q:=N) (bd:=bd) h rfl ⟨rfl,rfl,rfl⟩ bf,λi hi=>?_,?_⟩
      .grind[upd]
      .exact ZE
end Go.Proofs.YtfdbpgoicedpcaaGreatDoor
namespace Go.Lower
variable{w:Int}{ps:Sig}{f:Nat}{word:Bool}
mutual
def nbE:Ex->Prop
 |.mk _ _ num _ _ kids=>(0<=num/\num<4294967296)/\KG kids
def KG:List Ex->Prop
 |[]=>True
 |e::l=>nbE e/\KG l
end
mutual
def nbS:Stm->Prop
 |.mk _ _ _ e a el=>KG e/\MW a/\MW el
def MW:List Stm->Prop
 |[]=>True
 |e::l=>nbS e/\MW l
end
def Eb(w:Int)(x:Ins):Prop:=(x.op=1->0<=x.n/\x.n<4294967296)/\(x.op=2\/x.op=3->0<=x.a/\x.a<w)/\(x.op=4\/x.op=5->(1<=x.b/\x.b<=4096)/\0<=x.a/\x.a+x.b<=w)/\(x.op=6->4<=x.a/\x.a<=15)
def kV(w:Int)(c:Lower.Code):Prop:=∀y∈c,Eb w y.1
def js{c d}:kV w (c++d)↔kV w c/\kV w d:=H7
def cp{x}{n}{c:Lower.Code}:kV w ((x,n)::c)↔Eb w x/\kV w c:=List.forall_mem_cons
def cU:kV w []:=λ_ h=>by cases h
def gz{op a b n}(h:op=7\/op=8\/op=9\/10<=op):Eb w ⟨op,a,b,n⟩:=⟨λe=>by grind,λe=>by grind,λe=>by grind,λe=>by grind⟩
def GZ{n}(h:0<=n/\n<4294967296):Eb w ⟨1,0,0,n⟩:=⟨λ_=>h,λe=>by simp at e,λe=>by simp at e,λe=>by simp at e⟩
def aaO{q kind op num slot size d}{n}(h:okE w ps f q kind op num slot size n)(b:0<=num/\num<4294967296):kV w (one kind op num slot size d):=by
 obtain⟨_,_,_,_,_,h⟩:=h;rcases h with⟨h|h,_⟩|⟨h,a,_⟩|⟨h,U,Z,a,_⟩|⟨h,_⟩|⟨h,U,Z,_⟩|⟨h,_⟩|⟨h|h,_⟩;all_goals subst h
 .exact cp.2 ⟨GZ b,cU⟩
 .exact cp.2 ⟨gz a8,cU⟩
 .obtain⟨c,_,_,g⟩:=a;exact cp.2 ⟨⟨λe=>by simp at e,λ_=>by grind,λe=>by simp at e,λe=>by simp at e⟩,cU⟩
 .obtain⟨c,_,_,g⟩:=a;exact cp.2 ⟨⟨λe=>by simp at e,λe=>by simp at e,λ_=>by grind,λe=>by simp at e⟩,cU⟩
 .exact cp.2 ⟨gz a8,cU⟩
 .exact cp.2 ⟨⟨λe=>by simp at e,λe=>by simp at e,λe=>by simp at e,λ_=>⟨U,Z⟩⟩,cU⟩
 .exact cp.2 ⟨gz a8,cU⟩
 .exact cU
 .exact cU
variable{at':Nat}{c1:Nat->Lower.Code}
def RI{d kind}{c0}(a:kV w c0)(U:∀r,kV w (c1 r)):kV w (mC at' d kind c0 c1):=by
 unfold mC ke;simp only;refine js.2 ⟨a,js.2 ⟨?_,?_⟩⟩
 .split;.simp_all[cp,gz,a8,cU]
  .exact cU
 refine cp.2 ⟨gz a8,cp.2 ⟨GZ a7,cp.2 ⟨gz a8,js.2 ⟨U _,cp.2 ⟨gz a8,cp.2 ⟨gz a8,cU⟩⟩⟩⟩⟩⟩
mutual
theorem WU:∀(e:Ex){q d:Int}{at':Nat},rE w ps f q e->nbE e->kV w (cE at' d e)
 |.mk kind op num slot size kids,q,d,at',h,a=>by
   rw[rE]at h;rw[nbE]at a;rw[cE];split
   .exact aaP kids h.2 a.2
   .exact js.2 ⟨MX kids h.2 a.2,aaO h.1 a.1⟩
theorem MX:∀(l:List Ex){q d:Int}{at':Nat},rEs w ps f q l->KG l->kV w (cEs at' d l)
 |[],_,_,_,_,_=>by rw[cEs];exact cU
 |e::l,q,d,at',h,a=>by
   rw[rEs]at h;rw[cEs];exact js.2 ⟨WU e h.1 a.1,MX l h.2 a.2⟩
theorem aaP:∀(l:List Ex){q d kind:Int}{at':Nat},rEs w ps f q l->KG l->kV w (cAO at' d kind l)
 |[],_,_,_,_,_,_=>by rw[cAO];exact cU
 |e::l,q,d,kind,at',h,a=>by
   rw[rEs]at h;rw[cAO];exact RI (WU e h.1 a.1) λr=>MY l h.2 a.2
theorem MY:∀(l:List Ex){q d:Int}{at':Nat},rEs w ps f q l->KG l->kV w (lU at' d l)
 |[],_,_,_,_,_=>by rw[lU];exact cU
 |e::l,q,d,at',h,a=>by
   rw[rEs]at h;rw[lU];exact WU e h.1 a.1
end
def ID:kV w (leave word):=by
 unfold leave;split;.simp_all[cp,GZ,a8,gz,cU]
 simp_all[cp,gz,a8,cU]
def WV{q kind slot size}{n nt ne}(h:okS w ps f word q kind slot size n nt ne):kV w (uc word kind slot size n):=by
 obtain⟨_,_,_,_,_,h⟩:=h;rcases h with⟨h,a,_⟩|⟨h,U,Z,a,_⟩|⟨h|h|h,_⟩|⟨h,_⟩|⟨h,_⟩;all_goals subst h
 .obtain⟨b,_,_,c⟩:=a;exact cp.2 ⟨⟨λe=>by simp at e,λ_=>by grind,λe=>by simp at e,λe=>by simp at e⟩,cU⟩
 .obtain⟨b,_,_,c⟩:=a;exact cp.2 ⟨⟨λe=>by simp at e,λe=>by simp at e,λ_=>by grind,λe=>by simp at e⟩,cU⟩
 .exact cp.2 ⟨gz a8,cU⟩
 .exact cU
 .exact cU
 .exact cp.2 ⟨gz a8,cU⟩
 .show kV w (if n=0 then leave word else [(⟨11,0,0,0⟩,(n:Int))]);split;.exact ID
  simp_all[cp,gz,a8,cU]
def MZ{c0}(a:kV w c0)(U:∀r,kV w (c1 r)):kV w (jS at' c0 c1):=js.2 ⟨a,cp.2 ⟨gz a8,js.2 ⟨U _,cp.2 ⟨gz a8,cU⟩⟩⟩⟩
def aaQ{c1 c2}{a}(U:∀r,kV w (c1 r))(Z:∀r,kV w (c2 r)):kV w (ifC at' c1 a c2):=by
 unfold ifC;split;.simp_all[cp,gz,a8,js]
 simp_all[cp,gz,a8]
mutual
theorem aei:∀(e:Stm){q:Int}{at':Nat},rS w ps f word q e->nbS e->kV w (cS word at' e)
 |.mk kind slot size e b el,q,at',h,a=>by
   rw[rS]at h;rw[nbS]at a;rw[cS];split
   .exact MZ (MY e h.2.1 a.1) λr=>Ec b h.2.2.1 a.2.1
   refine js.2 ⟨MX e h.2.1 a.1,?_⟩;split
   .exact aaQ (λr=>Ec b h.2.2.1 a.2.1) λr=>Ec el h.2.2.2 a.2.2
   .exact WV h.1
theorem Ec:∀(l:List Stm){q:Int}{at':Nat},rSs w ps f word q l->MW l->kV w (cSs word at' l)
 |[],_,_,_,_=>by rw[cSs];exact cU
 |e::l,q,at',h,a=>by
   rw[rSs]at h;rw[cSs];exact js.2 ⟨aei e h.1 a.1,Ec l h.2 a.2⟩
end
def aaR{l}{q}(h:rSs w ps f word q l)(a:MW l):kV w (codeOf word l):=js.2 ⟨Ec l h a,ID⟩
end Go.Lower
namespace Go.Src
mutual
def rB:Ex->Prop
 |.mk _ _ num _ kids=>(0<=num/\num<4294967296)/\oB kids
def oB:List Ex->Prop
 |[]=>True
 |e::l=>rB e/\oB l
end
mutual
def wb:Stm->Prop
 |.mk _ _ e a el=>oB e/\mj a/\mj el
def mj:List Stm->Prop
 |[]=>True
 |e::l=>wb e/\mj l
end
def qg(p:Prog):Prop:=∀f∈p.f,mj f.body
mutual
theorem Na(o i:Pl):∀e:Ex,rB e->Lower.nbE (eR o i e)
 |.mk kind op num name kids,h=>by rw[rB]at h;rw[eR,Lower.nbE];exact⟨h.1,wc o i kids h.2⟩
theorem wc(o i:Pl):∀l:List Ex,oB l->Lower.KG (bR o i l)
 |[],_=>by rw[bR];trivial
 |e::l,h=>by rw[bR];exact⟨Na o i e h.1,wc o i l h.2⟩
end
mutual
theorem Nb(o i:Pl):∀e:Stm,wb e->Lower.nbS (coreS o i e)
 |.mk kind name e a el,h=>by rw[wb]at h;rw[coreS,Lower.nbS];exact⟨wc o i e h.1,sy o i a h.2.1,sy o i el h.2.2⟩
theorem sy(o i:Pl):∀l:List Stm,mj l->Lower.MW (cF o i l)
 |[],_=>by rw[cF];trivial
 |e::l,h=>by rw[cF];exact⟨Nb o i e h.1,sy o i l h.2⟩
end
def aej{p}(h:bN p=0)(a:qg p){x}(I:x∈(ab p).f):Lower.kV (ab p).words (Emit.cT x):=by obtain⟨k,b⟩:=C9 I;obtain⟨f,w,U,_,rfl,_⟩:=Emit.MT I;exact Lower.aaR (HT h b) (sy _ _ _ (a f U))
end Go.Src
namespace Go.Mn
section
open Go.Asm (Str)
open Go.Src (Ex Stm Fn Prog dn bp dC bD bV cP aq okE eP okS fp bT iz eQ dL lj bU jm bG bH bQ bN fk rB oB wb mj szE aO szS aI)
section
variable(p:Prog)(f:Nat)(fn:Src.Fn)
structure WE (e:Ex):Prop where
 r:∃q,dn q e=true
 n:okE (λa b _=>bT (aG p f) f a b) e=true
 a:okE (λa b c=>iz (aG p f) p.f f a b c) e=true
 t:eQ p.f e≠0
 w:rB e
structure WEs (t:Int) (l:List Ex):Prop where
 r:∃q,bp q l=true
 n:eP (λa b _=>bT (aG p f) f a b) l=true
 a:eP (λa b c=>iz (aG p f) p.f f a b c) l=true
 ty:dL p.f t l=true
 t0:t≠0
 w:oB l
structure WS (s:Stm):Prop where
 r:∃q,dC q s=true
 n:okS (λa b _=>bT (aG p f) f a b) s=true
 a:okS (λa b c=>iz (aG p f) p.f f a b c) s=true
 t:lj p.f fn.word s=true
 w:wb s
structure WSs (l:List Stm):Prop where
 r:∃q,bD q l=true
 n:fp (λa b _=>bT (aG p f) f a b) l=true
 a:fp (λa b c=>iz (aG p f) p.f f a b c) l=true
 t:bU p.f fn.word l=true
 w:mj l
end
variable{name:Str}{p:Prog}{f:Nat}{fn:Src.Fn}
def WEs.cons{t}{e}{l}(h:WEs p f t (e::l)):WE p f e/\eQ p.f e=t/\WEs p f t l:=by obtain⟨⟨q,U⟩,Z,a,b,d,c⟩:=h;rw[bp,l6]at U;rw[eP,l6]at Z a;rw[dL,l6,v8]at b;rw[oB]at c;exact⟨⟨⟨q,U.1⟩,Z.1,a.1,a7,c.1⟩,b.1,⟨⟨q,U.2⟩,Z.2,a.2,b.2,d,c.2⟩⟩
def WSs.cons{e}{l}(h:WSs p f fn (e::l)):WS p f fn e/\WSs p f fn l:=by obtain⟨⟨q,U⟩,Z,a,b,c⟩:=h;rw[bD,l6]at U;rw[fp,l6]at Z a;rw[bU,l6]at b;rw[mj]at c;exact⟨⟨⟨q,U.1⟩,Z.1,a.1,b.1,c.1⟩,⟨⟨q,U.2⟩,Z.2,a.2,b.2,c.2⟩⟩
def Vf(c:p.f[f]?=S fn){s}{k i}(h:aG p f s=S (k,i)):(k=1/\i<z fn.p+z fn.l)\/(k=2/\i<z p.v)\/(k=3/\i<z p.a)\/(k=4/\i<z p.f):=by
 unfold aG at h;rw[c]at h;simp only[bG]at h;split at h
 .rename_i d;cases h;have b:=fk d;rcases C6.1 b with b|b;.have:=Src.JH b;omega
  .have:=Src.JH b;omega
 .have b:=fk h;rcases C6.1 b with b|b
  .rcases C6.1 b with b|b;.have:=Src.PH b;omega
   .obtain⟨a,e,g⟩:=Src.PG b;grind
  .exact .inr (.inr (.inr (Src.PZ b)))
def WB(h:bN p=0)(a:p.f[f]?=S fn){s}{n}(b:aG p f s=S (4,n)):∃g,p.f[n]?=S g/\Src.dD p.f s=S g:=by obtain⟨V,az,_⟩:=Src.FA h;obtain⟨L,H,_⟩:=Src.FB az (by unfold Src.ct at V;simp at V;exact V.1.1.1);have c:=Src.uh H a;unfold Src.mN at c;rw[l6]at c;unfold aG at b;rw[a]at b;obtain⟨_,_,d⟩:=(Src.PK (k:=n+1) V L c.1 (l8 a) (C7 _) (C7 _)).fn s n b a7;exact d
def pA(h:bN p=0)(d:p.f[f]?=S fn){n}{w}(U:bT (aG p f) f 4 name=T)(Z:iz (aG p f) p.f f 4 name n=T)(b:jm p.f name=w):∃g,jC p f (aG p f name) n w=S g:=by unfold bT at U;cases c:aG p f name with|none=>grind;|some t=>obtain⟨j,g⟩:=t;rw[c]at U;simp only[show¬(4:Nat)=2 by decide,show¬(4:Nat)=3 by decide,B1,l6,L2,v8]at U;obtain⟨rfl,e⟩:=U;obtain⟨gn,a,i⟩:=WB h d c;simp_all[iz,jm,jC]
def MB(b:p.f[f]?=S fn)(U:bT (aG p f) f 2 name=T):∃k i,aG p f name=S (k,i)/\((k=1/\i<z fn.p+z fn.l)\/(k=2/\i<z p.v)):=by unfold bT at U;cases a:aG p f name with|none=>grind;|some t=>obtain⟨c,i⟩:=t;rw[a]at U;simp at U;refine⟨c,i,rfl,?_⟩;rcases Vf b a with h|h|h|h<;>omega
def MC(c:p.f[f]?=S fn)(U:bT (aG p f) f 3 name=T):∃i,aG p f name=S (3,i)/\i<z p.a:=by unfold bT at U;cases b:aG p f name with|none=>grind;|some t=>obtain⟨d,i⟩:=t;rw[b]at U;simp at U;subst U;refine⟨i,rfl,?_⟩;rcases Vf c b with h|h|h|h<;>omega
def WD{H:Type}{l:List H}(h:z l=1):∃a,l=[a]:=M4.1 h
def WG{H:Type}{l:List H}(h:z l=2):∃a b,l=[a,b]:=by match l,h with|[a,b],_=>simp
def WE.cases(h:bN p=0)(o:p.f[f]?=S fn){kind op num}{kids}(W:WE p f (.mk kind op num name kids)):(kind=1/\kids=[]/\0<=num/\num<4294967296)\/(kind=2/\kids=[]/\∃k i,aG p f name=S (k,i)/\((k=1/\i<z fn.p+z fn.l)\/(k=2/\i<z p.v)))\/(kind=3/\(∃a,kids=[a]/\WE p f a)/\∃i,aG p f name=S (3,i)/\i<z p.a)\/(kind=4/\WEs p f 1 kids/\∃g,jC p f (aG p f name) (z kids) T=S g)\/(kind=5/\kids=[])\/(kind=6/\(4<=op/\op<=15)/\∃a b,kids=[a,b]/\WE p f a/\WE p f b)\/(kind=7/\∃a,kids=[a]/\WE p f a)\/((kind=8\/kind=9)/\∃a b,kids=[a,b]/\WE p f a/\WE p f b/\eQ p.f a=2/\eQ p.f b=2):=by
 obtain⟨⟨q,U⟩,Z,e,c,y⟩:=W;rw[dn]at U;rw[okE]at Z e;rw[eQ]at c;rw[rB]at y;simp only[l6,v8]at U Z e;obtain⟨j,d,x⟩:=U;have r:∀t,dL p.f t kids=T->t≠0->WEs p f t kids:=λt H I=>⟨⟨_,x⟩,Z.2,e.2,H,I,y.2⟩;unfold bV at d;by_cases J:kind=1;.grind
 by_cases B:kind=2;.simp_all[MB]
 by_cases s:kind=3;.subst s;simp at d;have m:=Z.1;simp at m c;obtain⟨a,rfl⟩:=WD d.2;exact .inr (.inr (.inl ⟨rfl,⟨a,rfl,(r 1 c a8).cons.1⟩,MC o m⟩))
 by_cases u:kind=4;.subst u;have m:=Z.1;have A:=e.1;simp at m A c;exact .inr (.inr (.inr (.inl ⟨rfl,r 1 c.2 a8,pA h o m A c.1⟩)))
 by_cases K:kind=5;.grind
 by_cases P:kind=6;.subst P;simp at d c;obtain⟨a,b,rfl⟩:=WG d.2;obtain⟨w,_,n⟩:=(r 1 c.1 a8).cons;exact .inr (.inr (.inr (.inr (.inr (.inl ⟨rfl,d.1.1.1,a,b,rfl,w,n.cons.1⟩)))))
 by_cases E:kind=7;.subst E;simp at d c;obtain⟨a,rfl⟩:=WD d.2;exact .inr (.inr (.inr (.inr (.inr (.inr (.inl ⟨rfl,a,rfl,(r 2 c a8).cons.1⟩))))))
 by_cases G:kind=8\/kind=9;.simp[J,B,s,u,K,P,E,G]at d;rw[l4 a7,l4 a7,l4 s,l4 u,l4 P]at c;obtain⟨a,b,rfl⟩:=WG d.2;obtain⟨w,L,n⟩:=(r 2 ZN a8).cons;exact .inr (.inr (.inr (.inr (.inr (.inr (.inr ⟨G,a,b,rfl,w,n.cons.1,L,n.cons.2.1⟩))))))
 grind
def WS.cases(h:bN p=0)(t:p.f[f]?=S fn){kind}{e}{o el}(W:WS p f fn (.mk kind name e o el)):(kind=1/\(∃a,e=[a]/\WE p f a)/\∃k i,aG p f name=S (k,i)/\((k=1/\i<z fn.p+z fn.l)\/(k=2/\i<z p.v)))\/(kind=2/\(∃a b,e=[a,b]/\WE p f a/\WE p f b)/\∃i,aG p f name=S (3,i)/\i<z p.a)\/(kind=3/\∃a,e=[a]/\WE p f a)\/(kind=4/\(∃a,e=[a]/\WE p f a)/\WSs p f fn o/\WSs p f fn el)\/(kind=5/\(∃a,e=[a]/\WE p f a)/\WSs p f fn o)\/(kind=6/\WEs p f 1 e/\∃g,jC p f (aG p f name) (z e) F=S g)\/(kind=7/\(e=[]\/(fn.word=T/\∃a,e=[a]/\WE p f a))):=by
 obtain⟨⟨q,U⟩,Z,c,u,s⟩:=W;rw[dC]at U;rw[okS]at Z c;rw[lj]at u;rw[wb]at s;simp only[l6,v8]at U Z c u;obtain⟨⟨j,d,x⟩,L,B⟩:=U;obtain⟨⟨⟨w,E⟩,bs⟩,y,r⟩:=u;have n:WEs p f (if kind=4\/kind=5 then 2 else 1) e:=⟨⟨_,x⟩,Z.1.1.2,c.1.1.2,bs,a7,s.1⟩;have K:WSs p f fn o:=⟨⟨_,L⟩,Z.1.2,c.1.2,y,s.2.1⟩;have O:WSs p f fn el:=⟨⟨_,B⟩,Z.2,c.2,r,s.2.2⟩;have G:z e=1->∃a,e=[a]/\WE p f a:=λhl=>by obtain⟨a,rfl⟩:=WD hl;exact⟨a,rfl,n.cons.1⟩
 unfold cP at d;by_cases H:kind=1;.simp_all[MB]
 by_cases I:kind=2;.subst I;simp at d;have m:=Z.1.1.1;simp at m;obtain⟨a,b,rfl⟩:=WG d.2.1;exact .inr (.inl ⟨rfl,⟨a,b,rfl,n.cons.1,n.cons.2.2.cons.1⟩,MC t m⟩)
 by_cases Q:kind=3;.grind
 by_cases V:kind=4;.grind
 by_cases X:kind=5;.grind
 by_cases P:kind=6;.simp_all[pA]
 by_cases J:kind=7
 .subst J;simp at d E;refine .inr (.inr (.inr (.inr (.inr (.inr ⟨rfl,?_⟩)))));by_cases Y:z e=0;.grind
  grind
 grind
end
section
open Go.Asm (Str)
open Go.Src (Ex Stm Fn Prog eQ bN szE aO szS aI)
open Go.Mach (applyN wF)
structure pC (p:Prog) (fu:Nat) (G:Sg):Prop where
 vl:G.v.length=p.v.length
 al:G.arrs.length=p.a.length
 v:∀x∈G.v,x<4294967296
 a:∀l∈G.arrs,∀x∈l,x<4294967296
 t:G.tk<=fu
structure yK (fn:Src.Fn) (L:List Nat):Prop where
 l:L.length=fn.p.length+fn.l.length
 w:∀x∈L,x<4294967296
def Fin{H:Type}(r:Rs H)(Q:H->Sg->Prop):Prop:=match r with|.ok v G=>Q v G|.en _ _=>True|.no=>False
def Fin.bind{H β}{r}{k}{Q:H->Sg->Prop}{d:β->Sg->Prop}(h:Fin r Q)(a:∀v G,Q v G->Fin (k v G) d):Fin (r.bind k) d:=by cases r with|ok v G=>exact a v G h;|en _ _=>trivial;|no=>exact h.elim
def Fin.imp{H}{r}{Q d:H->Sg->Prop}(h:Fin r Q)(a:∀v G,Q v G->d v G):Fin r d:=by cases r with|ok v G=>exact a v G h;|en _ _=>trivial;|no=>exact h
def yL{fu}{β}{G}{k}{Q:β->Sg->Prop}(h:G.tk<fu->Fin (k ⟨G.v,G.arrs,G.out,G.rd,G.tk+1⟩) Q):Fin (tick fu G k) Q:=by
 unfold tick;split;.grind
 .trivial
def Rx inp k:DO inp k<4294967296:=by
 unfold DO;split;.rename_i x _;have:=x.toNat_lt;omega
 .decide
def GO{op x y v}(ho:op=14\/op=15)(h:applyN op x y=S v):v<=1:=by
 rcases ho with rfl|rfl;.have h:S (if x<y then 1 else 0)=S v:=h;grind
 .have h:S (if x=y then 1 else 0)=S v:=h;grind
variable{n:Nat}{t:Option (Nat×Nat)}{p:Prog}{inp:Str}{fu K:Nat}
section
variable{f:Nat}{fn:Src.Fn}{L:List Nat}{G:Sg}
variable(p fu)in
def QE(G:Sg)(e:Ex)(v:Nat)(ad:Sg):Prop:=v<4294967296/\(eQ p.f e=2->v<=1)/\pC p fu ad/\G.tk<=ad.tk
variable(p fu)in
def QS(fn:Src.Fn)(G:Sg)(x:List Nat×Option Nat)(ad:Sg):Prop:=yK fn x.1/\(∀v,x.2=S v->v<4294967296)/\pC p fu ad/\G.tk<=ad.tk
end
variable(p inp fu K)
def TE(n:Nat):Prop:=∀(f:Nat)(fn:Src.Fn),p.f[f]?=S fn->∀(L:List Nat)(G:Sg)(e:Ex),WE p f e->yK fn L->pC p fu G->f*K+2*szE e+(fu-G.tk)<=n->Fin (evE p (aG p) inp fu n f L G e) (QE p fu G e)
def TL(n:Nat):Prop:=∀(f:Nat)(fn:Src.Fn),p.f[f]?=S fn->∀(L:List Nat)(G:Sg)(t:Int)(l:List Ex),WEs p f t l->yK fn L->pC p fu G->f*K+2*aO l+1+(fu-G.tk)<=n->Fin (fc p (aG p) inp fu n f L G l) (λvs ad=>z vs=z l/\(∀x∈vs,x<4294967296)/\pC p fu ad/\G.tk<=ad.tk)
def TS(n:Nat):Prop:=∀(f:Nat)(fn:Src.Fn),p.f[f]?=S fn->∀(L:List Nat)(G:Sg)(s:Stm),WS p f fn s->yK fn L->pC p fu G->f*K+2*szS s+(fu-G.tk)<=n->Fin (evS p (aG p) inp fu n f L G s) (QS p fu fn G)
def TSs(n:Nat):Prop:=∀(f:Nat)(fn:Src.Fn),p.f[f]?=S fn->∀(L:List Nat)(G:Sg)(l:List Stm),WSs p f fn l->yK fn L->pC p fu G->f*K+2*aI l+1+(fu-G.tk)<=n->Fin (eM p (aG p) inp fu n f L G l) (QS p fu fn G)
def TW(n:Nat):Prop:=∀(f:Nat)(fn:Src.Fn),p.f[f]?=S fn->∀(L:List Nat)(G:Sg)(a:Ex)(l:List Stm),WE p f a->WSs p f fn l->yK fn L->pC p fu G->f*K+2*(szE a+aI l)+1+(fu-G.tk)<=n->Fin (evW p (aG p) inp fu n f L G a l) (QS p fu fn G)
def TB(n:Nat):Prop:=∀(g:Nat)(gn:Src.Fn),p.f[g]?=S gn->∀(vs:List Nat)(G:Sg),z vs=z gn.p->(∀x∈vs,x<4294967296)->pC p fu G->g*K+2*aI gn.body+2+(fu-G.tk)<=n->Fin (evB p (aG p) inp fu n g vs G) (λv ad=>v<4294967296/\pC p fu ad/\G.tk<=ad.tk)
variable{p inp fu K}
def jD:∀e:Ex,1<=szE e|.mk ..=>by simp[szE]
def qf:∀e:Stm,1<=szS e|.mk ..=>by simp[szS]
def WH(h:bN p=0)(d:Src.qg p){g}{gn}(hg:p.f[g]?=S gn):WSs p g gn gn.body:=by
 obtain⟨V,e,j⟩:=Src.FA h;obtain⟨L,H,i⟩:=Src.FB e (by unfold Src.ct at V;simp at V;exact V.1.1.1);have b:=l8 hg;have a:=Src.uh H hg;have c:=Src.uh i hg;rw[D2]at a c;unfold Src.mN at a;rw[l6]at a;unfold Src.Da at c;have bs:aG p g=Src.bG (Src.bH p) (Src.bQ gn):=by funext s;unfold aG;rw[hg]
 refine⟨⟨1,?_⟩,by grind,by grind,?_,d gn b⟩;.simp_all[Src.ct,Src.de]
 grind[Src.uk]
def Cg{f n g}{w}(h:jC p f t n w=S g):g<f/\∃gn,p.f[g]?=S gn/\z gn.p=n:=by unfold jC at h;grind
def MD(J:∀g∈p.f,2*aI g.body+2<=K){n f g}{fn}(e:TL p inp fu K n)(hB:TB p inp fu K n)(i:p.f[f]?=S fn){L}{G}{w}{l}(j:jC p f t (z l) w=S g)(W:WEs p f 1 l)(k:yK fn L)(c:pC p fu G)(m:f*K+2*aO l+1+(fu-G.tk)<=n):Fin ((fc p (aG p) inp fu n f L G l).bind λvs H=>tick fu H λa6=>evB p (aG p) inp fu n g vs a6) (λv ad=>v<4294967296/\pC p fu ad/\G.tk<=ad.tk):=by obtain⟨r,gn,d,s⟩:=Cg j;refine(e f fn i L G 1 l W k c m).bind λvs H⟨U,Z,b,u⟩=>yL λo=>?_;have x:=J gn (l8 d);have q:(g+1)*K<=f*K:=J5 _ a7;rw[J6,Nat.one_mul]at q;have:=hB g gn d vs ⟨H.v,H.arrs,H.out,H.rd,H.tk+1⟩ a7 Z ⟨b.vl,b.al,b.v,b.a,o⟩ ZN;exact this.imp λv ad this=>by grind
def Ry(h:bN p=0)(J:∀g∈p.f,2*aI g.body+2<=K)(u:TE p inp fu K n)(hL:TL p inp fu K n)(hB:TB p inp fu K n):TE p inp fu K (n+1):=by
 intro f fn q L G e W o c E;obtain⟨kind,op,num,name,I⟩:=e;rw[szE]at E;rw[evE];have az:=jD;rcases W.cases h q with⟨rfl,rfl,U⟩|⟨rfl,rfl,k,i,U,Z⟩|⟨rfl,⟨a,rfl,U⟩,i,Z,Y⟩|⟨rfl,U,g,Z⟩|⟨rfl,rfl⟩|⟨rfl,U,a,b,rfl,Z,Y⟩|⟨rfl,a,rfl,U⟩|⟨hk,a,b,rfl,U,Z,t1,t2⟩;.rw[s5 rfl];unfold l0;simp only;rw[s5 U];exact⟨a7,λj=>by grind[eQ],c,l7 _⟩
 .rw[l4 a8,s5 rfl];unfold l0 Mw;simp[U];have j:∀v:Nat,eQ p.f (.mk 2 op num name [])=2->v<=1:=λv j=>by grind[eQ]
  rcases Z with⟨rfl,Z⟩|⟨rfl,Z⟩;.rw[s5 rfl];have O:L[i]?=S (L[i]'(by grind[o.l])):=x9 _;rw[O];exact⟨o.w _ (N6 _),j _,c,l7 _⟩
  .rw[l4 a8,s5 rfl];have O:G.v[i]?=S (G.v[i]'(by grind[c.vl])):=x9 _;rw[O];exact⟨c.v _ (N6 _),j _,c,l7 _⟩
 .rw[l4 a8,l4 a8,s5 rfl];simp only[aO]at E;refine(u f fn q L G a U o c a7).bind λx H⟨s,B,m,r⟩=>?_;unfold Mx;simp[Z];rw[s5 s];have O:H.arrs[i]?=S (H.arrs[i]'(by grind[m.al])):=x9 _;rw[O];show Fin (match (H.arrs[i]' ZN)[x]?with|some v=>.ok v H|none=>.en 3 H) _;split;.rename_i v Q;exact⟨m.a _ (N6 _) _ (l8 Q),λj=>by grind[eQ],m,r⟩
  .trivial
 .rw[l4 a8,l4 a8,l4 a8,s5 rfl,Z];have:=MD J hL hB q Z U o c a7;show Fin ((fc p (aG p) inp fu n f L G I).bind λvs H=>tick fu H λX=>evB p (aG p) inp fu n g vs X) _;exact this.imp λv ad this=>by exact⟨this.1,λj=>by grind[eQ],this.2⟩
 .rw[l4 a8,l4 a8,l4 a8,l4 a8,s5 rfl];exact⟨Rx _ _,λj=>by grind[eQ],⟨c.vl,c.al,c.v,c.a,c.t⟩,l7 _⟩
 .rw[l4 a8,l4 a8,l4 a8,l4 a8,l4 a8,s5 rfl];simp only[aO]at E;have p1:=az a;refine(u f fn q L G a Z o c a7).bind λx H⟨s,B,m,r⟩=>?_;refine(u f fn q L H b Y o m a7).bind λy X⟨V,b2,A,b4⟩=>?_;unfold opV;rw[s5 ⟨U,s,V⟩];split
  .rename_i v Q;refine⟨wF s V Q,λj=>?_,A,a7⟩;rw[eQ]at j;simp at j;have:op=14\/op=15:=by
    split at j;.omega
    .simp at j
   exact GO a7 Q
  .trivial
 .rw[l4 a8,l4 a8,l4 a8,l4 a8,l4 a8,l4 a8,s5 rfl];simp only[aO]at E;refine(u f fn q L G a U o c a7).bind λx H⟨s,B,m,r⟩=>?_;exact⟨by grind,λ_=>by grind,m,r⟩
 .simp only[aO]at E;have p1:=az a;have hb:=λH(m:pC p fu H)(r:G.tk<=H.tk)=>(u f fn q L H b Z o m a7).bind (k:=nL) (d:=QE p fu G (.mk kind op num name [a,b])) λy X⟨V,b2,A,b4⟩=>by unfold nL;rw[s5 (b2 t2)];exact⟨V,λ_=>b2 t2,A,a7⟩
  rcases hk with rfl|rfl
  .rw[l4 a8,l4 a8,l4 a8,l4 a8,l4 a8,l4 a8,l4 a8,s5 rfl];refine(u f fn q L G a U o c a7).bind λx H⟨s,B,m,r⟩=>?_;split;.exact⟨a8,λ_=>by decide,m,r⟩
   grind
  .rw[l4 a8,l4 a8,l4 a8,l4 a8,l4 a8,l4 a8,l4 a8,l4 a8,s5 rfl];refine(u f fn q L G a U o c a7).bind λx H⟨s,B,m,r⟩=>?_;split;.grind
   .unfold nL;rw[s5 (B t1)];exact⟨s,λ_=>B t1,m,r⟩
def Rz(e:TE p inp fu K n)(g:TL p inp fu K n):TL p inp fu K (n+1):=by intro f fn b L G t l W d c i;cases l with|nil=>rw[fc];exact⟨rfl,abc,c,l7 _⟩;|cons a l=>rw[aO]at i;rw[fc];have q:=jD a;obtain⟨j,_,k⟩:=W.cons;refine(e f fn b L G a j d c a7).bind λx H⟨r,s,m,u⟩=>?_;refine(g f fn b L H t l k d m a7).bind λvs v⟨o,b2,A,w⟩=>?_;refine⟨by simp[o],λy B=>?_,A,a7⟩;grind
def tK{l:List Nat}{i v}(h:∀x∈l,x<4294967296)(a:v<4294967296):∀x∈l.set i v,x<4294967296:=λx I=>by grind
def RA(h:bN p=0)(J:∀g∈p.f,2*aI g.body+2<=K)(I:TE p inp fu K n)(hL:TL p inp fu K n)(hB:TB p inp fu K n)(O:TSs p inp fu K n)(hW:TW p inp fu K n):TS p inp fu K (n+1):=by
 intro f fn r L G s W o c B;obtain⟨kind,name,e,X,el⟩:=s;rw[szS]at B;rw[evS];have az:=jD;have j:∀v:Nat,(N:Option Nat)=S v->v<4294967296:=λv h=>by cases h
 rcases W.cases h r with⟨rfl,⟨a,rfl,U⟩,k,i,Z,Q⟩|⟨rfl,⟨a,b,rfl,U,Z⟩,i,Q,h4⟩|⟨rfl,a,rfl,U⟩|⟨rfl,⟨a,rfl,U⟩,Z,Q⟩|⟨rfl,⟨a,rfl,U⟩,Z⟩|⟨rfl,U,g,Z⟩|⟨rfl,U⟩
 .rw[s5 rfl];simp only[aO]at B;refine(I f fn r L G a U o c a7).bind λx H⟨E,V,m,a4⟩=>?_;unfold My;simp[Z];rcases Q with⟨rfl,Q⟩|⟨rfl,Q⟩;.rw[s5 rfl,s5 (by grind[o.l])];exact⟨⟨by simp[o.l],tK o.w E⟩,j,m,a4⟩
  .rw[l4 a8,s5 rfl,s5 (by grind[m.vl])];exact⟨o,j,⟨by simp_all[m.vl],m.al,tK m.v E,m.a,m.t⟩,a4⟩
 .rw[l4 a8,s5 rfl];simp only[aO]at B;have p1:=az a;refine(I f fn r L G a U o c a7).bind λx H⟨E,V,m,a4⟩=>?_;refine(I f fn r L H b Z o m a7).bind λy q⟨b1,b2,A,b4⟩=>?_;unfold yJ;simp[Q];rw[s5 E];have hi:q.arrs[i]?=S (q.arrs[i]'(by grind[A.al])):=x9 _;rw[hi];show Fin (if x<_ then _ else .en 3 q) _;split
  .refine⟨o,j,⟨A.vl,by simp_all[A.al],A.v,λl hl=>?_,A.t⟩,by grind⟩;rcases J1 hl with hl|rfl;.exact A.a l hl
   .exact tK (A.a _ (N6 _)) b1
  .trivial
 .rw[l4 a8,l4 a8,s5 rfl];simp only[aO]at B;refine(I f fn r L G a U o c a7).bind λx H⟨E,V,m,a4⟩=>?_;unfold Mz;split;.trivial
  .exact⟨o,j,⟨m.vl,m.al,m.v,m.a,m.t⟩,a4⟩
 .rw[l4 a8,l4 a8,l4 a8,s5 rfl];simp only[aO]at B;have p1:=az a;refine(I f fn r L G a U o c a7).bind λx H⟨E,V,m,a4⟩=>?_;have bs:∀l,WSs p f fn l->2*aI l+1<=2*(szE a+aI X+aI el)->Fin (eM p (aG p) inp fu n f L H l) (QS p fu fn G):=λl hl hz=>by have:=O f fn r L H l hl o m a7;exact X9
  grind
 .rw[l4 a8,l4 a8,l4 a8,l4 a8,s5 rfl];simp only[aO]at B;show Fin (tick fu G λH=>evW p (aG p) inp fu n f L H a X) _;refine yL λht=>?_;have:=hW f fn r L ⟨G.v,G.arrs,G.out,G.rd,G.tk+1⟩ a X U Z o ⟨c.vl,c.al,c.v,c.a,ht⟩ ZN;exact W6
 .rw[l4 a8,l4 a8,l4 a8,l4 a8,l4 a8,s5 rfl,Z];have:=(MD J hL hB r Z U o c a7).bind (k:=λ_ u=>.ok (L,N) u) (d:=QS p fu fn G) λv ad⟨_,c2,c3⟩=>⟨o,j,c2,c3⟩;show Fin ((fc p (aG p) inp fu n f L G e).bind λvs H=>tick fu H λq=>(evB p (aG p) inp fu n g vs q).bind λ_ u=>.ok (L,N) u) _;cases Y:fc p (aG p) inp fu n f L G e with|no=>rw[Y]at this;exact this;|en _ _=>trivial;|ok vs H=>
  rw[Y]at this;show Fin (tick fu H λq=>(evB p (aG p) inp fu n g vs q).bind λ_ u=>.ok (L,N) u) _;have e:(tick fu H λq=>(evB p (aG p) inp fu n g vs q).bind λ_ u=>.ok (L,N) u)=(tick fu H λq=>evB p (aG p) inp fu n g vs q).bind λ_ u=>.ok (L,(N:Option Nat)) u:=by unfold tick;split<;>rfl
  rw[e];exact this
 .rw[l4 a8,l4 a8,l4 a8,l4 a8,l4 a8,l4 a8,s5 rfl];rcases U with rfl|⟨cv,a,rfl,U⟩;.exact⟨o,λv h=>by grind,c,l7 _⟩
  .simp only[aO]at B;show Fin (if (p.f[f]?).any (·.word)=T then(evE p (aG p) inp fu n f L G a).bind λv H=>.ok (L,S v) H else .no) _;rw[s5 ZN];refine(I f fn r L G a U o c a7).bind λx H⟨E,V,m,a4⟩=>?_;exact⟨o,λv h=>by grind,m,a4⟩
def ME(j:TS p inp fu K n)(O:TSs p inp fu K n):TSs p inp fu K (n+1):=by intro f fn b L G l W d c k;cases l with|nil=>rw[eM];exact⟨d,abc,c,l7 _⟩;|cons a l=>rw[aI]at k;rw[eM];have q:=qf a;obtain⟨m,o⟩:=W.cons;refine(j f fn b L G a m d c a7).bind λx H⟨e,s,g,a4⟩=>?_;obtain⟨i,r⟩:=x;cases r with|some v=>exact⟨e,λu h=>by grind,g,a4⟩;|none=>have:=O f fn b i H l o e g a7;show Fin (eM p (aG p) inp fu n f i H l) _;exact X9
def RB(o:TE p inp fu K n)(O:TSs p inp fu K n)(hW:TW p inp fu K n):TW p inp fu K (n+1):=by
 intro f fn d L G a l g i e c w;rw[evW];have y:=jD a;refine(o f fn d L G a g e c a7).bind λx H⟨B,E,j,q⟩=>?_;split;.exact⟨e,abc,j,q⟩
 refine(O f fn d L H l i e j a7).bind λx b⟨k,b2,A,I⟩=>?_;obtain⟨m,r⟩:=x;cases r with|some v=>exact⟨k,λu h=>by grind,A,a7⟩;|none=>refine yL λs=>?_;have:=hW f fn d m ⟨b.v,b.arrs,b.out,b.rd,b.tk+1⟩ a l g i k ⟨A.vl,A.al,A.v,A.a,s⟩ ZN;show Fin (evW p (aG p) inp fu n f m _ a l) _;exact W6
def RC(h:bN p=0)(a6:Src.qg p)(O:TSs p inp fu K n):TB p inp fu K (n+1):=by
 intro g gn a vs G b i c j;rw[evB,a];show Fin (if z vs=z gn.p then(eM p (aG p) inp fu n g (vs++List.replicate (z gn.l) 0) G gn.body).bind λr H=>.ok (r.2.getD 0) H else .no) _;rw[s5 b];refine(O g gn a _ G gn.body (WH h a6 a) ⟨by simp[b],λx I=>?_⟩ c a7).bind λx H⟨k,m,d,e⟩=>?_;.grind
 .refine⟨?_,d,e⟩;cases o:x.2 with|none=>decide;|some v=>grind
def DR(h:bN p=0)(a6:Src.qg p)(J:∀g∈p.f,2*aI g.body+2<=K):∀n:Nat,TE p inp fu K n/\TL p inp fu K n/\TB p inp fu K n/\TS p inp fu K n/\TSs p inp fu K n/\TW p inp fu K n
 |0=>by
  refine⟨λf fn c L G e _ _ _ b=>?_,λf fn c L G t l _ _ _ b=>?_,λg gn m vs G _ _ _ b=>?_,λf fn c L G s _ _ _ b=>?_,λf fn c L G l _ _ _ b=>?_,λf fn c L G a l _ _ _ _ b=>?_⟩;.have:=jD e;omega
  .omega
  .omega
  .have:=qf s;omega
  .omega
  .omega;|n+1=>by obtain⟨U,Z,i,k,d,j⟩:=DR h a6 J n;simp_all[Ry,Rz,RC,RA,ME,RB]
def aau(h:bN p=0)(a6:Src.qg p):∃n,runN p inp fu n≠.no:=by
 obtain⟨V,b,_⟩:=Src.FA h;have hl:1<=z p.f:=by unfold Src.ct at V;simp at V;exact V.1.1.1
 obtain⟨K,J⟩:∃K,∀g∈p.f,2*aI g.body+2<=K:=by
  have:∀l:List Src.Fn,∃K,∀g∈l,2*aI g.body+2<=K:=by intro l;induction l with|nil=>simp;|cons a l c=>obtain⟨K,J⟩:=c;refine⟨K+(2*aI a.body+2),λg e=>?_⟩;grind
  exact this _
 obtain⟨fn,d⟩:∃fn,p.f[z p.f-1]?=S fn:=⟨_,x9 a7⟩;have i:fn.p=[]:=by
  unfold Src.lh at b;split at b;.cases b
  .grind
 refine⟨(z p.f-1)*K+2*aI fn.body+2+fu,λu=>?_⟩;have:=(DR (inp:=inp) h a6 J ((z p.f-1)*K+2*aI fn.body+2+fu)).2.2.1 _ fn d [] (start p) ZN abc ⟨by simp[start],by simp[start],λx I=>by rw[I5 I];decide,λl hl x I=>by obtain⟨a,_,rfl⟩:=E6.1 hl;grind,LL _⟩ (l7 _);unfold runN at u;rw[u]at this;exact this
end
open Go.Asm (Str)
open Go.Src (Ex Stm Fn Prog)
def Tk{H:Type}(fu:Nat)(r:Rs H):Prop:=match r with|.ok _ G=>G.tk<=fu|.en _ G=>G.tk<=fu|.no=>True
section
variable{H β:Type}{fu:Nat}
def oz{r}{k:H->Sg->Rs β}(h:Tk fu r)(a:∀v G,G.tk<=fu->Tk fu (k v G)):Tk fu (r.bind k):=by cases r with|ok v G=>exact a v G h;|en e G=>exact h;|no=>trivial
def Ch{o}{k:H->Rs β}(a:∀x,Tk fu (k x)):Tk fu (need o k):=by cases o;trivial;exact a _
def Ci{G}{k:Sg->Rs β}(h:G.tk<=fu)(a:∀G,G.tk<=fu->Tk fu (k G)):Tk fu (tick fu G k):=by
 unfold tick;split;.grind
 .exact h
def MF{c}[Decidable c]{a b:Rs H}(d:Tk fu a)(e:Tk fu b):Tk fu (if c then a else b):=by grind
def aav{l:List H}{r:Rs β}(h:Tk fu r):Tk fu (l0 l r):=by unfold l0;split;exact h;trivial
def Vg{l}{k:H->Rs β}(h:∀a,Tk fu (k a)):Tk fu (l1 l k):=by unfold l1;split;exact h _;trivial
def Vh{l}{k:H->H->Rs β}(h:∀a b,Tk fu (k a b)):Tk fu (l2 l k):=by unfold l2;split;exact h _ _;trivial
def WI{l}{r}{k:H->Rs β}(b:Tk fu r)(h:∀a,Tk fu (k a)):Tk fu (l01 l r k):=by unfold l01;split;exact b;exact h _;trivial
end
variable{p:Prog}{fd:Nat->Str->Option (Nat×Nat)}{inp:Str}{fu:Nat}
def WJ:∀n:Nat,(∀f L G e,G.tk<=fu->Tk fu (evE p fd inp fu n f L G e))/\(∀f L G e,G.tk<=fu->Tk fu (fc p fd inp fu n f L G e))/\(∀f L G s,G.tk<=fu->Tk fu (evS p fd inp fu n f L G s))/\(∀f L G l,G.tk<=fu->Tk fu (eM p fd inp fu n f L G l))/\(∀f L G a l,G.tk<=fu->Tk fu (evW p fd inp fu n f L G a l))/\∀g vs G,G.tk<=fu->Tk fu (evB p fd inp fu n g vs G)
 |0=>by
  refine⟨λf L G e h=>?_,λf L G e h=>?_,λf L G e h=>?_,λf L G e h=>?_,λf L G a e h=>?_,λf L G h=>?_⟩;.rw[evE];trivial
  .rw[fc];trivial
  .rw[evS];trivial
  .rw[eM];trivial
  .rw[evW];trivial
  .rw[evB];trivial;|n+1=>by
  obtain⟨U,Z,j,b,c,d⟩:=WJ n;refine⟨λf L G e h=>?_,λf L G e h=>?_,λf L G e h=>?_,λf L G e h=>?_,λf L G a e h=>?_,λf L G h=>?_⟩;.obtain⟨kind,op,num,name,i⟩:=e;rw[evE];repeat' first|exact A6|assumption|exact U _ _ _ _ ‹_›|exact Z _ _ _ _ ‹_›|exact d _ _ _ ‹_›;|refine oz ?_ λ_ _ _=>?_|refine Ch λ_=>?_|refine Ci ?_ λ_ _=>?_|refine aav ?_|refine Vg λ_=>?_|refine Vh λ_ _=>?_;|refine MF ?_ ?_|split|unfold Mw|unfold Mx|unfold opV|unfold nL
  .cases e<;>rw[fc];.exact h
   .exact oz (U _ _ _ _ h) λ_ _ h=>oz (Z _ _ _ _ h) λ_ _ h=>h
  .obtain⟨kind,name,e,k,el⟩:=e;rw[evS];repeat' first|exact A6|assumption|exact U _ _ _ _ ‹_›|exact Z _ _ _ _ ‹_›|exact b _ _ _ _ ‹_›|exact c _ _ _ _ _ ‹_›|exact d _ _ _ ‹_›;|refine oz ?_ λ_ _ _=>?_|refine Ch λ_=>?_|refine Ci ?_ λ_ _=>?_|refine Vg λ_=>?_|refine Vh λ_ _=>?_|refine WI ?_ λ_=>?_;|refine MF ?_ ?_|split|unfold My|unfold yJ|unfold Mz
  .cases e<;>rw[eM];.exact h
   .refine oz (j _ _ _ _ h) λ_ _ h=>?_;split;.exact h
    grind
  .rw[evW];refine oz (U _ _ _ _ h) λ_ _ h=>?_;split;.exact h
   refine oz (b _ _ _ _ h) λ_ _ h=>?_;split;.exact h
   simp_all[Ci]
  .rw[evB];refine Ch λ_=>?_;split;.exact oz (b _ _ _ _ h) λ_ _ h=>h
   .trivial
end Go.Mn
namespace Go.Proofs.YtfdbpgoicedpcaaGreatDoor
section
open Go Go.Am Go.Asm
open Go.Src (Ex Stm fg)
open Go.Mn (Sg Rs evE fc evS eM evW evB aG l0 l1 l2 l01)
variable{p:Src.Prog}{inp:Str}{fu gV gA:Nat}{gk:Nat->Nat}
def OT{f}{b}:∀k i,aG p f b=S (k,i)->k=3->i<z p.a:=λk i h d=>by cases c:p.f[f]?with|none=>grind[aG];|some fn=>have:=Mn.Vf c h;omega
def Fc{f n g}{t}{w}(h:Mn.jC p f t n w=S g):t=S (4,g)/\g<z p.f:=by unfold Mn.jC at h;grind
def TO{n}(k:∀m,m<=n->HE p inp fu gV gA gk m)(hB:HB p inp fu gV gA gk n):HE p inp fu gV gA gk (n+1):=by
 intro f L G E x e s;by_cases l:E=0;case neg=>exact VQ l
 subst l;obtain⟨kind,op,num,i,d⟩:=x;obtain⟨r,V⟩:∃r,evE p (aG p) inp fu (n+1) f L G (.mk kind op num i d)=r:=⟨_,rfl⟩;have u:=s rfl;clear s;rw[V]at u|-;rw[evE]at V;rw[Src.szE]at e;have c:=k n (l7 _);show tr p inp fu gV gA gk f L G 0 (.mk kind op num i d) r;by_cases o:kind=1;.subst o;rw[s5 rfl]at V;cases d with|cons=>exact absurd V.symm u;|nil=>
  simp only[l0]at V;split at V;.rename_i H;obtain⟨q,rfl⟩:∃q:Nat,num=(q:Nat):=⟨num.toNat,a7⟩;rw[C0]at V;rw[<-V];exact acw
  grind
 rw[l4 o]at V;by_cases t:kind=2;.subst t;rw[s5 rfl]at V;cases d with|cons=>exact absurd V.symm u;|nil=>exact acy V u
 rw[l4 t]at V;by_cases v:kind=3;.subst v;rw[s5 rfl]at V;match d with|[]=>exact absurd V.symm u;|_::_::_=>exact absurd V.symm u;|[a]=>simp only[Src.aO]at e;exact acA c a7 V u OT
 rw[l4 v]at V;by_cases w:kind=4;.subst w;rw[s5 rfl]at V;cases j:Mn.jC p f (aG p f i) (z d) T with|none=>rw[j]at V;exact absurd V.symm u;|some g=>rw[j]at V;obtain⟨U,Z⟩:=Fc j;exact Ye (OX k hB a7 U Z V u)
 rw[l4 w]at V;by_cases y:kind=5;.subst y;rw[s5 rfl]at V;cases d with|cons=>exact absurd V.symm u;|nil=>rw[<-V];exact acz
 rw[l4 y]at V;by_cases P:kind=6;.subst P;rw[s5 rfl]at V;match d with|[]=>exact absurd V.symm u;|[_]=>exact absurd V.symm u;|_::_::_::_=>exact absurd V.symm u;|[a,b]=>simp only[Src.aO]at e;exact afu c a7 V u
 rw[l4 P]at V;by_cases A:kind=7;.subst A;rw[s5 rfl]at V;match d with|[]=>exact absurd V.symm u;|_::_::_=>exact absurd V.symm u;|[a]=>simp only[Src.aO]at e;exact acx c a7 V u
 rw[l4 A]at V;by_cases B:kind=8\/kind=9;.match d with
 |[]=>split at V<;>first|exact absurd V.symm u|(split at V<;>exact absurd V.symm u)
 |[_]=>split at V<;>first|exact absurd V.symm u|(split at V<;>exact absurd V.symm u)
 |_::_::_::_=>split at V<;>first|exact absurd V.symm u|(split at V<;>exact absurd V.symm u)
 |[a,b]=>
  simp only[Src.aO]at e;refine afv B c a7 ?_ u;rcases B with rfl|rfl;.rw[s5 rfl]at V;simp only[B3];exact V
  .rw[l4 a8,s5 rfl]at V;simp only[show¬(9:Int)=8 by decide,B1];exact V
 grind
def TP{n}(j:∀m,m<=n->HE p inp fu gV gA gk m)(hB:HB p inp fu gV gA gk n)(O:∀m,m<=n->HSs p inp fu gV gA gk m):HS p inp fu gV gA gk (n+1):=by
 intro f L G x d u;obtain⟨kind,o,e,y,el⟩:=x;obtain⟨r,V⟩:∃r,evS p (aG p) inp fu (n+1) f L G (.mk kind o e y el)=r:=⟨_,rfl⟩;rw[V]at u|-;rw[evS]at V;rw[Src.szS]at d;have c:=j n (l7 _);by_cases q:kind=1;.subst q;rw[s5 rfl]at V;match e with|[]=>exact absurd V.symm u;|_::_::_=>exact absurd V.symm u;|[a]=>simp only[Src.aO]at d;exact ML c a7 V u
 rw[l4 q]at V;by_cases s:kind=2;.subst s;rw[s5 rfl]at V;match e with|[]=>exact absurd V.symm u;|[_]=>exact absurd V.symm u;|_::_::_::_=>exact absurd V.symm u;|[a,b]=>simp only[Src.aO]at d;exact Cl c a7 V u OT
 rw[l4 s]at V;by_cases t:kind=3;.subst t;rw[s5 rfl]at V;match e with|[]=>exact absurd V.symm u;|_::_::_=>exact absurd V.symm u;|[a]=>simp only[Src.aO]at d;exact MM c a7 V u
 rw[l4 t]at V;by_cases v:kind=4;.subst v;rw[s5 rfl]at V;match e with|[]=>exact absurd V.symm u;|_::_::_=>exact absurd V.symm u;|[a]=>simp only[Src.aO]at d;exact afw c (O n (l7 _)) a7 V u
 rw[l4 v]at V;by_cases w:kind=5;.subst w;rw[s5 rfl]at V;match e with|[]=>exact absurd V.symm u;|_::_::_=>exact absurd V.symm u;|[a]=>simp only[Src.aO]at d;exact TT j O a7 V u
 rw[l4 w]at V;by_cases P:kind=6;.subst P;rw[s5 rfl]at V;cases k:Mn.jC p f (aG p f o) (z e) F with|none=>rw[k]at V;exact absurd V.symm u;|some g=>
  rw[k]at V;obtain⟨U,Z⟩:=Fc k;obtain⟨l,i⟩:∃l,(fc p (aG p) inp fu n f L G e).bind (λvs H=>Mn.tick fu H λA=>evB p (aG p) inp fu n g vs A)=l:=⟨_,rfl⟩;have Q:l.bind (λ_ B=>.ok (L,N) B)=r:=by rw[<-V,<-i];simp only[Mn.need];cases fc p (aG p) inp fu n f L G e with|no=>rfl;|en=>rfl;|ok vs H=>by_cases E:H.tk<fu<;>simp only[Rs.bind,Mn.tick,E,B3,B1]
  exact Yf (OX j hB a7 U Z i λI=>u (by rw[<-Q,I];rfl)) Q
 rw[l4 P]at V;by_cases J:kind=7;.subst J;rw[s5 rfl]at V;match e with
 |_::_::_=>exact absurd V.symm u;|[]=>rw[<-V];exact Yg;|[a]=>
  simp only[Src.aO]at d;simp only[l01]at V;split at V;.exact Yh c a7 V u
  grind
 grind
def VO:∀n:Nat,(∀m,m<=n->HE p inp fu gV gA gk m)/\(∀m,m<=n->HB p inp fu gV gA gk m)/\(∀m,m<=n->HS p inp fu gV gA gk m)
 |0=>by
  refine⟨λm a=>?_,λm a=>?_,λm a=>?_⟩<;>obtain rfl:m=0:=a7
  .intro f L G c x d u;by_cases b:c=0;.grind[evE]
   .exact VQ b
  .intro f vs G _ _ u;grind[evB]
  .intro f L G x d u;grind[evS];|n+1=>by obtain⟨U,Z,e⟩:=VO n;have O:∀m,m<=n->HSs p inp fu gV gA gk m:=λm a=>TR λq g=>e q a7;have i:=TO U (Z n (l7 _));have j:=Yc (O n (l7 _));have k:=TP U (Z n (l7 _)) O;grind
end
open Go Go.Am Go.Asm
open Go.Src (Ex Stm fg)
open Go.Mn (Sg Rs evE fc evS eM evW evB aG)
attribute[local congr]ite_cc
def VP(e:Nat)(out:Str)(tk:Nat):AV:=.agg [ag (e:Nat),bW out,ag (tk:Nat)]
def rQ(r:Rs Nat):Nat×Str×Nat:=match r with|.ok _ G=>(1,G.out,G.tk)|.en e G=>(e,G.out,G.tk)|.no=>(0,[],0)
def OU s:u8s (bM s)=S (s.map λb=>(b.toNat:Int)):=sA s
def Br(bs:List UInt8):((bs.map λb=>(b.toNat:Int)).map λn=>UInt8.ofNat n.toNat)=bs:=by induction bs with|nil=>rfl;|cons b bs a=>simp_all
def Ju{s}{a c}{b:Str}:oh s (.agg [ag a,bW b,ag c]) (.agg [ag a,bW b,ag c]):=by refine⟨[.int .i64 a,.str b,.int .i64 c],rfl,λi c l=>?_,rfl⟩;match i,l with|0,l=>cases l;exact⟨_,rfl,.d _⟩;|1,l=>cases l;exact⟨_,rfl,.d _⟩;|2,l=>cases l;exact⟨_,rfl,.d _⟩
def OV n:wM (List.replicate n 0)=List.replicate n (.d (.int .u32 0)):=by simp[wM]
def acv{o}{p}{inp}{fu n}(sm:SmM p inp fu)(hp:Src.ct p=T)(u:Mn.runN p inp fu n≠.no):cn Tryz.prog 4 o 26 [cK p,sv inp,ae fu] (·=VP (rQ (Mn.runN p inp fu n)).1 (rQ (Mn.runN p inp fu n)).2.1 (rQ (Mn.runN p inp fu n)).2.2):=by
 have b3:1<=z p.f:=by unfold Src.ct at hp;simp at hp;exact hp.1.1.1
 have H:∀a∈p.a,1<=a.2/\a.2<=4096:=by unfold Src.ct at hp;simp only[l6,z7]at hp;intro a ha;have:=hp.2.1 a ha;exact x5
 have bd:=sm.a;have az:=sm.v;have bf:=sm.f;have X:=sm.fu;refine qb 1000 4 o aP mixed Tryz.func26 rfl c8 [.cell 6 41] rfl c8 j0 b9 λO bc s0 w0 g=>?_;have h0:¬(z p.f:Int)=0:=a7;have a6:¬(fu:Int)<0:=a7;have hw:IntKind.i64.wrap ((z p.f:Int)-1)=((z p.f-1:Nat):Int):=by rw[wrap_i64]<;>omega
 rw[cI];simp only[go_sem,j6,h0,a6];refine cG aP mixed aN [1022,1024] [([3],[0],[],F),([1],[0],[],F),([2],[0],[],F),([3],[],[],F),([19],[],[],F),([20],[],[],F),([21],[],[0],F),([16,17,18,22],[],[],F),([23],[],[1],F),([24],[],[],T)] 2 rfl c9 rfl a8 ?_;simp only[go_sem];iterate 6 (refine au gdD (λ_ _ _ _ J=>by simp only[go_sem,j6]at J|-;exact J) ?_)
 (apply cw;(case hg=>exact A6);(case U=>intro fa ga oa K' J;simp only[go_sem]at J|-;exact⟨a7,a7,a7,J⟩));(refine au gdD Z4 ?_);(refine cw gdD Z4 ?_);refine cH A6 ?_;intro K' a';simp only[go_sem];refine a' _ ?_;clear a' K';obtain⟨gV,al⟩:∃gV,nxC (bm Tt 33+1) (g 1022)=gV:=⟨_,rfl⟩;simp only[go_sem,al];refine mq _ ((dX (t:=7) (b:=1023) (j:=7) (cells:=[aw (p.v.map λs=>[.str s]),aw (p.a.map arD),aw (p.f.map fnD),bW inp,ag (fu:Nat),.osl 1022 gV 1 0 (z p.v),.d .nsl,.d .nsl,ag 0,ag 0,ag 0]) c8 c8 rfl a8).trans
  (dX (t:=7) (b:=1021) (j:=6) (sz:=1) (cells:=[aw (p.v.map λs=>[.str s]),aw (p.a.map arD),aw (p.f.map fnD),bW inp,ag (fu:Nat),.osl 1022 gV 1 0 (z p.v),.d .nsl,.osl 1023 (g 1023+1) 1 0 0,ag 0,ag 0,ag 0]) c8 c8 rfl a8))
  (λm K=>∃k,m+k=z p.a/\K.f 7=aj 1024 (K.gen 1024) 0/\K.f 8=ae k/\K.f 3=aj 1003 (K.gen 1003) 0/\K.f 6=aj 1006 (K.gen 1006) 0/\K.obj 1003=S [aw (p.v.map λs=>[.str s]),aw (p.a.map arD),aw (p.f.map fnD)]/\K.obj 1006=S [ag 0,bW [],ag 0]/\K.obj 1024=S [aw (p.v.map λs=>[.str s]),aw (p.a.map arD),aw (p.f.map fnD),bW inp,ag (fu:Nat),.osl 1022 gV 1 0 (z p.v),.osl 1021 (K.gen 1021) 1 0 k,.osl 1023 (K.gen 1023) 1 0 0,ag 0,ag 0,ag 0]/\K.obj 1023=S []/\K.obj 1022=S (wM (List.replicate (z p.v) 0))/\K.gen 1022=gV/\K.obj 1021=S ((List.range k).map λj=>C.osl (2000+j) (K.gen (2000+j)) 1 0 (alM p j))/\(∀j,j<k->K.obj (2000+j)=S (wM (List.replicate (alM p j) 0)))/\∀i,1100<=i->¬(2000<=i/\i<2000+k)->K.obj i=N) (z p.a) ?_ ?_;.simp only[St.claimAt];refine⟨0,rfl,?_⟩;simp only[go_sem];refine⟨by rw[OV,QB],rfl,λj hj=>absurd hj a7,λi hi hn=>?_⟩;grind
 rintro mm fs g1 av⟨k,hm,q7,q8,q3,q6,o3,o6,W,cc,cf,h,cm,oA,bl⟩;simp only at q7 q8 q3 q6 o3 o6 W cc cf h cm oA bl;by_cases af:k<z p.a
 .have Q:(k:Int)<(z p.a:Int):=a7;have bk:(0:Int)<=(k:Int):=a7;obtain⟨a,ha⟩:=getq af;have ca:=getD_at (f:=arD) ha;obtain⟨ch,cb⟩:=H a (l8 ha);have cu:alM p k=a.2.toNat:=by unfold alM;rw[ha];rfl
  have Z:z ((List.range k).map λj=>C.osl (2000+j) (g1 (2000+j)) 1 0 (alM p j))=k:=b9;simp only[go_sem,q8,q3,o3,Q,j6];refine cG aP mixed aN [1043,1044,1021] [([7],[0,1,2],[],F),([7],[0,1],[],F),([33],[0,1],[],F),([34],[0,1],[],F),([35],[0,1],[],F),([3],[],[],F),([37],[],[],F),([8],[],[],F),([38,39],[],[],F),([40],[],[],F),([41],[],[],F),([42],[],[0],F),([43],[],[1],F),([36,44],[],[2],F),([32],[],[],F),([46],[],[],F),([47,45],[],[],T)] 3 rfl c9 rfl a8 ?_;simp only[go_sem];iterate 5 (refine au gdD (λ_ _ _ _ J=>by simp only[go_sem,q7,W]at J|-;exact J) ?_)
  iterate 2 (refine au gdD (λ_ _ _ _ J=>by simp only[go_sem,q3,o3]at J|-;exact J) ?_)
  iterate 4 (refine au gdD (λ_ _ _ _ J=>by simp only[go_sem,q8,bk,ca,arD]at J|-;exact J) ?_)
  (apply cw;(case hg=>exact A6);(case U=>intro fa ga oa K' J;simp only[go_sem]at J|-;exact⟨a7,a7,a7,a7,J⟩));(refine cw gdD Z4 ?_);(apply cw;(case hg=>exact A6);(case U=>intro fa ga oa K' J;simp only[go_sem,cm,Z]at J|-;exact⟨a7,⟨a8,a7⟩,J⟩));iterate 2 (refine au gdD (λ_ _ _ _ J=>by simp only[go_sem,W]at J|-;exact J) ?_)
  refine cH A6 ?_;intro K' a';simp only[go_sem];simp only[go_sem,W];refine a' _ ?_;clear a' K';have z1:(2000+k=1021)=False:=by simp;omega
  have q:(2000+k=1024)=False:=by simp;omega
  have z3:(2000+k=1043)=False:=by simp;omega
  have z4:(2000+k=1044)=False:=by simp;omega
  have b2:(List.replicate a.2.toNat [C.d (.int .u32 0)]).flatten=wM (List.replicate (alM p k) 0):=by rw[OV,QB,cu]
  rw[b2,<-cu,s6 (E7 Z)];simp only[go_sem,ah (k:=k) a7,q8];refine⟨mm-1,_,a7,JZ (t:=45) (id:=1043) (L:=2000+k) c8 c8 (by simp only[go_sem,z1,q,z3,z4];grind) c8 a8 a7 a7 (by rw[H6 (E7 Z),Z,K8];rfl),k+1,a7,?_⟩;have y:∀c,c<2000->(c=2000+k)=False:=λc hc=>by grind
  simp only[St.rename];simp only[go_sem,z1,z3,z4,y 1003 a8,y 1006 a8,y 1021 a8,y 1022 a8,y 1023 a8,y 1024 a8,q7,q3,q6,o3,o6,cc,cf,h];refine⟨?_,λj hj=>?_,λi hi hn=>?_⟩
  .rw[I2 _ _ (E7 Z),Z,K8,C2];refine congr (congrArg HAppend.hAppend (O6 λj hj=>?_)) ?_;.grind
   .simp
  .grind
  grind
 have Q:¬(k:Int)<(z p.a:Int):=a7;obtain rfl:k=z p.a:=a7;have B:SvM p inp fu gV (g1 1021) (λj=>g1 (2000+j)) g1 av (Mn.start p) 0:=by
  refine⟨λi=>?_,h,rfl,cm,λj _=>rfl,by simp[Mn.start],by simp[Mn.start],λj l hl=>?_⟩
  .unfold pS;by_cases e1:i=1024;.rw[s5 e1,e1,W];rfl
   rw[l4 e1];by_cases e2:i=1023;.rw[s5 e2,e2,cc];rfl
   rw[l4 e2];by_cases e3:i=1022;.rw[s5 e3,e3,cf];rfl
   rw[l4 e3];by_cases e4:2000<=i/\i<2000+z p.a;.rw[s5 e4];obtain⟨j,rfl⟩:∃j,i=2000+j:=⟨i-2000,a7⟩;rw[oA j a7,P4];obtain⟨a,ha⟩:∃a,p.a[j]?=S a:=⟨_,x9 a7⟩;simp only[Mn.start,A4,ha,A5,B6,alM]
   grind
  .simp only[Mn.start,A4]at hl;obtain⟨a,ha,rfl⟩:=F0.1 hl;simp[alM,ha]
 have E:=((VO (p:=p) (inp:=inp) (fu:=fu) (gV:=gV) (gA:=g1 1021) (gk:=λj=>g1 (2000+j)) n).2.1 n (l7 _)) (z p.f-1) [] (Mn.start p) sm a7 u (LL _) 3001 g1 av 3000 (.one (.d .nsl)) a8 a8 a8 (λi hi=>bl i a7 a7) B (.inl ⟨rfl,rfl⟩);obtain⟨r,V⟩:∃r,Mn.runN p inp fu n=r:=⟨_,rfl⟩;rw[show evB p (aG p) inp fu n (z p.f-1) [] (Mn.start p)=r from V]at E;rw[V]at u|-;simp only[go_sem,q3,q8,o3,Q,j6];refine dO aN rfl (by simp only[go_sem,q7,hw];exact E) ?_;rintro _ g2 bn⟨v,ad,e',w,A1,K1,rfl,r4⟩;have P:∀i,i<1100->g2 i=upd g1 1023 w i/\bn i=pS p inp fu gV (g1 1021) w ad e' i (av i):=λi hi=>r4 i a7;have e:bn 1024=S (rnM p inp fu gV (g1 1021) w ad e'):=(P 1024 a8).2;have G:bn 1023=S (bM ad.out):=(P 1023 a8).2;have x:bn 1006=S [ag 0,bW [],ag 0]:=by rw[(P 1006 a8).2,pS,l4 a8,l4 a8,l4 a8,l4 a7];exact o6
 have u24:g2 1024=g1 1024:=(P 1024 a8).1;have A:g2 1006=g1 1006:=(P 1006 a8).1;have u23:g2 1023=w:=(P 1023 a8).1;have cz:=OR ad.out;unfold rnM at e;by_cases he:e'=0
 .subst he;have a1:rQ r=(1,ad.out,ad.tk):=by rw[A1.ok];rfl
  rw[a1];simp only[go_sem,q7,e,u24];exact u2
 .have a1:rQ r=(e',ad.out,ad.tk):=by rw[A1.en he];rfl
  have b6:¬(e':Int)=0:=a7;rw[a1];simp only[go_sem,q7,e,u24,b6];exact u2
end Go.Proofs.YtfdbpgoicedpcaaGreatDoor
namespace Go.Emit
section
open Go.Lower (Ins Code Sig codeOf takes Eb kV Good OkI iZ)
open Go.Src (CFn ab bN sigs ct ay qg)
def inP(v d:Int)(b:Bool):Prop:=if b=T then 0<=v/\v<=d else v=0
def uQ(x:MI):Prop:=(1<=x.1/\x.1<=27)/\inP x.2.1 15 (Asm.shape x.1.toNat).1/\inP x.2.2.1 15 (Asm.shape x.1.toNat).2.1/\inP x.2.2.2 (if (Asm.shape x.1.toNat).2.2=2 then 15 else 65535) (decide ((Asm.shape x.1.toNat).2.2≠0))
def rC{op r b v}(h:op=16\/op=17)(V:0<=r/\r<=15)(e:0<=b/\b<=15)(g:0<=v/\v<=65535):uQ (op,r,b,v):=by rcases h with rfl|rfl<;>exact⟨b9,V,e,g⟩
def yW{op r v}(h:op=1\/op=2\/op=19\/op=20\/op=21\/op=25)(V:0<=r/\r<=15)(e:0<=v/\v<=65535):uQ (op,r,0,v):=by rcases h with rfl|rfl|rfl|rfl|rfl|rfl<;>exact⟨b9,V,rfl,e⟩
def aek{v}(e:0<=v/\v<=65535):uQ (18,0,0,v):=⟨b9,rfl,rfl,e⟩
def IE{op a b c}(h:4<=op/\op<=15)(g:0<=a/\a<=15)(i:0<=b/\b<=15)(j:0<=c/\c<=15):uQ (op,a,b,c):=by
 have e:Asm.shape op.toNat=(T,T,2):=by have k:4<=op.toNat/\op.toNat<=15:=a7;unfold Asm.shape;rw[l4 a7,l4 a7,s5 k]
 refine⟨⟨a7,a7⟩,?_⟩;simp only[e];exact⟨g,i,j⟩
def WW{op r}(h:op=22\/op=23\/op=24)(V:0<=r/\r<=15):uQ (op,r,0,0):=by rcases h with rfl|rfl|rfl<;>exact⟨b9,V,rfl,rfl⟩
def ael:uQ (26,0,0,0):=⟨a8,rfl,rfl,rfl⟩
def OkW(env:Int×Int->Int)(w:Nat->Wr):Prop:=jJ w/\∀n,n+z (w n).code<=60000->∀x∈close env w n,uQ x
variable{a b c d:Int}{env:Int×Int->Int}{v w:Nat->Wr}
def db(e:OkW env v)(g:OkW env w):OkW env (aD v w):=⟨nw e.1 g.1,λn i x I=>by
 rw[dr e.1 g.1]at I;simp only[aD,j7]at i;rcases C6.1 I with h|h;.exact e.2 n a7 x h
 .exact g.2 _ a7 x h⟩
def oF:OkW env gg:=⟨ny,λ_ _ _ h=>by cases h⟩
def eW(h:uQ (a,b,c,d)):OkW env (aE a b c d):=⟨eT,λn _ x I=>by simp_all[jb]⟩
def yX(h:uQ (a,b,0,env (c,d))):OkW env (aJ a b c d):=⟨kx,λn _ x I=>by simp_all[ky]⟩
variable{P:Plan}{f:Nat}{d b:Int}{fs:List CFn}
def nN{r k}(V:0<=r/\r<=15)(e:0<=(P.base[f]?).getD 0+d-k/\(P.base[f]?).getD 0+d-k<=65535):OkW env (eN P f d r k):=eW (rC (.inl rfl) V a8 e)
def tQ{r k}(V:0<=r/\r<=15)(e:0<=(P.base[f]?).getD 0+d-k/\(P.base[f]?).getD 0+d-k<=65535):OkW env (ey P f d r k):=eW (rC (.inr rfl) V a8 e)
def Ha{r n}(V:0<=r/\r<=15)(e:0<=n/\n<4294967296):OkW env (lY r n):=by
 unfold lY;split
 .have:hi16 n=n/65536:=by unfold hi16;omega
  exact db (eW (yW a8 V a7)) (eW (yW a8 V a7))
 .exact eW (yW a8 V a7)
def Be{a:Int}:∀k:Nat,0<=a/\a+k<=65535->OkW env (kU a k)|0,_=>oF|k+1,h=>db (Be k a7) (eW (rC (.inr rfl) a8 a8 a7))
def KH{a c}(h:0<=a/\a<=c/\c<=65000):OkW env (ku a c):=by
 unfold ku;split;.exact Be _ a7
 .refine y7 (λ_ _ h=>by cases h) λn e x I=>?_;simp only[j8,l5]at e;simp only[close,P5,A0,A9,D8]at I;rcases I with rfl|rfl|rfl|rfl|rfl|rfl;.exact yW a8 a8 a7
  .exact yW a8 a8 a7
  .simp_all[rC,a8]
  .simp_all[IE,a8]
  .simp_all[IE,a8]
  .exact yW a8 a8 a7
def Ed{p i}(e:0<=(P.base[f]?).getD 0/\(P.base[f]?).getD 0+d<=65535)(hd:p<=d)(g:0<=i/\i+p<=65535):∀k:Nat,k<=p->OkW env (nM P f d p i k)|0,_=>oF|k+1,h=>db (Ed e hd g k a7) (db (nN a8 a7) (eW (rC (.inr rfl) a8 a8 a7)))
structure RJ (fs:List CFn) (P:Plan) (f:Nat) (W:Int):Prop where
 b:0<=(P.base[f]?).getD 0/\(P.base[f]?).getD 0<=32768
 k:0<=(P.back[f]?).getD 0/\(P.back[f]?).getD 0<=32768
 w:W<=32768
 fs:∀y∈fs,0<=y.p/\y.p<=y.slots/\0<=y.first/\y.first+y.slots<=W
def RL(a:∀q,0<=env q/\env q<=65535){W}(H:RJ fs P f W){x}{word}{t p}(A:word=(((fs[f]?).map (·.word)).getD F))(m:takes (fs.map λx=>(x.p,x.word)) word x=S (t,p))(c:t<=d)(hd:d<=20000)(B:0<=d)(hW:Eb W x):OkW env (mK fs P f d x):=by
 obtain⟨E,G⟩:=H.b;obtain⟨Q,I⟩:=H.k;have J:=H.w;have l:(0:Int)<=1/\(1:Int)<=15:=a8;have n:(0:Int)<=2/\(2:Int)<=15:=a8;have r0:(0:Int)<=0/\(0:Int)<=15:=a8;rcases (vS m) with h|h|h|h|h|h|h|h|h|h|h|h|h;all_goals simp only[mK,h,Int.reduceEq,↓reduceIte]
 all_goals simp only[takes,h,Int.reduceEq,Q4,or_self,D8,↓reduceIte,w7,M8]at m
 .exact db (Ha l (hW.1 h)) (tQ l a7)
 .have:=hW.2.1 (.inl h);exact db (eW (rC (.inl rfl) l r0 a7)) (tQ l a7)
 .have:=hW.2.1 (.inr h);exact db (nN l a7) (eW (rC (.inr rfl) l r0 a7))
 .have:=hW.2.2.1 (.inl h);exact db (nN l a7) (db (eW (yW a8 l a7)) (db (eW (rC (.inl rfl) l l a7)) (tQ l a7)))
 .have:=hW.2.2.1 (.inr h);exact db (nN l a7) (db (eW (yW a8 l a7)) (db (nN n a7) (eW (rC (.inr rfl) n l a7))))
 .exact db (nN l a7) (db (nN n a7) (db (eW (IE (hW.2.2.2 h) l l n)) (tQ l a7)))
 .exact db (nN l a7) (db (eW (IE a8 l l r0)) (tQ l a7))
 .exact yX (aek (a _))
 .exact db (nN l a7) (yX (yW a8 l (a _)))
 .split at m;.cases m
  rw[A4,Option.map_map]at m;obtain⟨y,o,m⟩:=F0.1 m;simp only[Function.comp,M8]at m;obtain⟨K,g,i,j⟩:=H.fs y (l8 o);unfold xl;rw[o];simp only;refine db (Ed a7 a7 a7 _ a7) (db (yX (yW a8 a8 (a _))) ?_);split;.exact tQ l a7
  .exact oF
 .unfold mJ;split;.exact eW ael
  have s:=db (env:=env) (eW (rC (r:=14) (.inl rfl) a8 r0 ⟨Q,a7⟩)) (eW (WW (op:=22) (r:=14) a8 a8));simp only;rw[<-A];split;.rename_i e;rw[s5 e]at m;simp only[M8]at m;exact db (nN l a7) s
  .exact s
 .exact db (eW (WW a8 l)) (tQ l a7)
 .exact db (nN l a7) (eW (WW a8 l))
def Nc{W}(H:RJ fs P f W):OkW env (lz fs P f):=by
 obtain⟨Q,l⟩:=H.k;have m:=H.w;unfold lz;split;.exact oF
 .cases e:fs[f]?with|none=>exact oF;|some y=>obtain⟨n,g,i,j⟩:=H.fs y (l8 e);exact db (eW (rC (.inr rfl) a8 a8 a7)) (KH a7)
def Ee(a:∀q,0<=env q/\env q<=65535){W}(H:RJ fs P f W){A}{ds}{word}(g:word=(((fs[f]?).map (·.word)).getD F))(h:∀(k:Nat) x d,A[k]?=S x->ds[k]?=S d->0<=d->Eb W x.1/\d<=20000/\∃t p,takes (fs.map λx=>(x.p,x.word)) word x.1=S (t,p)/\t<=d):∀k,OkW env (iw fs P f A ds k)|0=>Nc H|k+1=>by have e:=Ee a H g h k;rw[iw];cases I:A[k]?with|none=>exact db e oF;|some x=>cases hd:ds[k]?with|none=>exact db e oF;|some d=>
 simp only;split;.rename_i i;obtain⟨U,Z,t,p,j,l⟩:=h k x d I hd i;exact db e (RL a H g j l Z i U)
 .exact db e oF
end
open Go.Lower (Ins Code Sig codeOf takes Eb kV Good OkI iZ)
open Go.Src (CFn Fn Pl ab eF bN sigs ct ay qg gV gA aI)
open Go.Asm (Str)
def aaK:∀l m w,(gV l m w).2=w+z l|[],m,w=>by simp[gV];|n::l,m,w=>by rw[gV,aaK l];grind
def aaL:∀l m w,(gA l m w).2=w+(l.map (·.2)).sum|[],m,w=>by simp[gA];|n::l,m,w=>by rw[gA,aaL l];grind
def DX o:∀l w,(eF o l w).2=w+((l.map λf=>z f.p+z f.l).sum)|[],w=>by simp[eF];|f::l,w=>by simp only[eF,DX o l,s7,H2];omega
def MP p:(ab p).words=z p.v+(p.a.map (·.2)).sum+((p.f.map λf=>z f.p+z f.l).sum):=by simp_all[ab,ay,DX,aaL,aaK]
def tL:∀l d m,(∀x∈l,x<=m)->d<=m->deepest l d<=m|[],d,m,_,hd=>hd|a::l,d,m,h,hd=>by rw[uO];have:=h a b9;exact tL l _ m (λx I=>h x aby) a7
def AY n:∀l k w,(fe n k l w).2.2<=w+z l+(l.map λo=>deepest o 0).sum
 |[],k,w=>by simp[fe];|o::l,k,w=>by
  have a:=AY n l (k+1) ((if k+1=n then w else w+1)+deepest o 0);have b:(if k+1=n then w else w+1)<=w+1:=by split<;>omega
  simp only[fe,j8,s7,H2];omega
def yQ{H:Type}(f:H->Int) g:∀l:List H,(∀x∈l,f x<=g x)->(l.map f).sum<=((l.map g).sum:Nat)|[],_=>by simp;|a::l,h=>by have:=yQ f g l λx I=>h x aby;grind
def AZ(d:jE):Prop:=(∀v∈d.ent,0<=v/\v<=(z d.code:Int))/\∀l∈d.pls,∀v∈l,0<=v/\v<=(z d.code:Int)
def Kx fs P f A ds n{a b}(h:a<=b):z (iw fs P f A ds a n).code<=z (iw fs P f A ds b n).code:=by induction h with|refl=>simp;|step _ c=>rw[iw];simp only[aD,j7];omega
def DY{H:Type}{l:List H}{k}{a x}(h:x∈l.set k a):x∈l\/x=a:=J1 h
def AZ.add{fs}{P}{d}{f}(h:AZ d):AZ (fE fs P d f):=by
 unfold fE;split
 .rename_i y ds _ _;simp only;refine⟨λv a=>?_,λl hl v a=>?_⟩
  .simp only[j7];rcases DY a with a|rfl;.have:=h.1 v a;omega
   .omega
  .simp only[j7];rcases DY hl with hl|rfl;.have:=h.2 l hl v a;omega
   .obtain⟨k,b,rfl⟩:=E6.1 a;have:=Kx fs P f (codeOf y.word y.body) ds (z d.code) (M1 (E0.1 b));omega
 .exact h
def rz fs P:∀k,AZ (sR fs P k)|0=>AZ.add ⟨λv a=>by grind,λl hl v a=>by grind⟩|k+1=>(rz fs P k).add
def MQ{d}(h:AZ d) q:0<=iy d q/\iy d q<=(z d.code):=by
 unfold iy;split;.cases hl:d.pls[q.1.toNat]?with|none=>simp;|some l=>simp only[B6];cases a:l[q.2.toNat]?with|none=>simp;|some v=>exact h.2 l (l8 hl) v (l8 a)
 .cases a:d.ent[q.1.toNat]?with|none=>simp;|some v=>exact h.1 v (l8 a)
def aaM{p}(h:bN p=0)(hn:qg p)(L:z p.v+z p.f+((p.f.map λf=>z f.p+z f.l).sum+(p.f.map λf=>aI f.body).sum)<=150)(hA:(p.a.map (·.2)).sum<=4096):(ab p).words<=32768/\0<=(dY (ab p).words (ab p).f).data/\(dY (ab p).words (ab p).f).data<=32768/\z (filled (whole (ab p).f (dY (ab p).words (ab p).f)))<=16384/\∀x∈filled (whole (ab p).f (dY (ab p).words (ab p).f)),uQ x:=by
 obtain⟨V,_,_⟩:=Src.FA h;have hl:1<=z p.f/\∀f∈p.f,z f.p<=6:=by unfold ct at V;simp only[l6,v8,z7]at V;refine⟨V.1.1.1,λf Y=>?_⟩;have:=V.2.2 f Y;unfold Src.de at this;simp only[l6,v8]at this;exact this.1.2
 obtain⟨P,A⟩:∃P,dY (ab p).words (ab p).f=P:=⟨_,rfl⟩;have hw:=MP p;have b3:=Co p;have an:=GX h;have ad:0<=(ab p).words:=by have:(ay p).2<=(ab p).words:=Src.BB _ _ _;omega
 have Z:=tM (λx:CFn=>z (cT x)) (λx=>Src.sW x.body) (λx=>Src.ZJ x.word x.body) (ab p).f;have h3:((ab p).f.map λx=>Src.sW x.body).sum=(p.f.map λf=>aI f.body).sum:=Src.FD _ _ _;have dk:P.depths=(ab p).f.map λx=>bX (cT x):=by rw[<-A];rfl
 have hd:=AY (z (ab p).f) P.depths 0 (ab p).words;have b5:=vX (z (ab p).f) P.depths 0 (ab p).words λo _=>jr o 0;have b:P.data=(fe (z (ab p).f) 0 P.depths (ab p).words).2.2:=by rw[<-A];rfl
 have m:P.base=(fe (z (ab p).f) 0 P.depths (ab p).words).2.1:=by rw[<-A];rfl
 have i:P.back=(fe (z (ab p).f) 0 P.depths (ab p).words).1:=by rw[<-A];rfl
 have cb:∀x∈(ab p).f,z (cT x)<=1000:=λx I=>by have U:=Src.ZJ x.word x.body;have Z:=Src.UA (λx:CFn=>Src.sW x.body) I;grind[cT]
 have ar:(P.depths.map λo=>deepest o 0).sum<=(((ab p).f.map λx=>z (cT x)).sum:Nat):=by rw[dk,P8];exact yQ _ _ _ λx I=>tL _ _ _ (λd hd=>((Bb h I).2 d hd).2) a7
 have cu:(z P.depths:Int)=z p.f:=by rw[dk,j6,b3]
 have G:P.data<=32768:=a7;have H:uP (ab p).f P 6:=by rw[<-A];exact Vq h hl.2
 have hW:=xR H (z (ab p).f-1) (l7 _);have cx:=KB (ab p).f 6 a7 (l7 _);have az:=Cn (ab p).f 6 (z (ab p).f) (l7 _);rw[E8]at az;have bo:z (whole (ab p).f P).code<=16384:=C4 hW.c a7;have a1:=KF H;have bd:z (filled (whole (ab p).f P))=z (whole (ab p).f P).code:=by have e:=tP (whole (ab p).f P) (whole (ab p).f P).holes (whole (ab p).f P).code λh hh=>(hW.h h hh).1;unfold filled;rw[e,nv]
 have s:∀q,0<=iy (whole (ab p).f P) q/\iy (whole (ab p).f P) q<=65535:=λq=>by have:=MQ (rz (ab p).f P (z (ab p).f-1)) q;grind[sR,ab,whole]
 have E:∀(l:List Int)(f:Nat),(∀x∈l,(ab p).words<=x/\x<=P.data)->0<=(l[f]?).getD 0/\(l[f]?).getD 0<=32768:=λl f I=>by cases hv:l[f]?with|none=>simp;|some v=>have:=I v (l8 hv);grind
 have K:∀x∈P.back,(ab p).words<=x/\x<=P.data:=by
  rw[i,b];have:∀(l:List (List Int))(k:Nat)(w:Int),∀x∈(fe (z (ab p).f) k l w).1,w<=x/\x<=(fe (z (ab p).f) k l w).2.2:=by intro l;induction l with|nil=>intro k w x I;cases I;|cons o l ih=>
   intro k w x I;have bf:=vX (z (ab p).f) (o::l) k w λo _=>jr o 0;simp only[fe]at I bf|-;rcases A0.1 I with rfl|I;.omega
   .have:=ih _ _ x I;have hb:w<=(if k+1=z (ab p).f then w else w+1):=by split<;>omega
    have:=jr o 0;omega
  exact this _ _ _
 have hA:∀f,RJ (ab p).f P f (ab p).words:=λf=>by refine⟨E _ f ZN,E _ f K,a7,λy W=>?_⟩;obtain⟨g,w,_,Z,rfl,h4⟩:=MT W;grind[Src.pJ]
 have J:=MU p;have r:∀f n,n+z (yU (iy (whole (ab p).f P)) (ab p).f P f n)<=60000->∀x∈yU (iy (whole (ab p).f P)) (ab p).f P f n,uQ x:=λf n af x I=>by unfold yU at I af;cases Y:(ab p).f[f]?with|none=>grind;|some y=>cases O:P.depths[f]?with|none=>grind;|some ds=>
  rw[Y,O]at I af;have W:=l8 Y;obtain⟨h0,ca⟩:=vY h W;have u:ds=bX (cT y):=by rw[dk,A4,Y]at O;exact(F8 O).symm
  obtain⟨hm,_⟩:=mW (λ_=>rfl) h0 ca;refine(Ee s (hA f) (word:=y.word) ZN (λk X d hk j et=>?_) _).2 n (by rw[kF]at af;exact af) x I;rw[u]at j;have B:=(Bb h W).2 d (l8 j);have:=cb y W;refine⟨Src.aej h hn W X (l8 hk),a7,?_⟩;obtain⟨t,q,U,_,h3,_⟩:=iZ ca hk;refine⟨t,q,by grind,?_⟩;rcases hm.inv.2.1 k d j with e|⟨e,_⟩;.omega
  grind
 have Q:∀k,z (toC (iy (whole (ab p).f P)) (ab p).f P k)<=16384->∀x∈toC (iy (whole (ab p).f P)) (ab p).f P k,uQ x:=by intro k;induction k with
 |zero=>
 intro hl x I;rw[toC]at hl I;simp only[j7,j8,l5]at hl;rcases C6.1 I with I|I;.rw[C8.1 I];simp[yW,a8]
 grind;|succ k ih=>grind[toC]
 grind
end Go.Emit
namespace Go.Mn
section
open Go.Asm (Str)
open Go.Mach (M applyN)
open Go.Emit (MI)
def fK(x:MI):Nat:=Asm.word x.1.toNat x.2.1.toNat x.2.2.1.toNat x.2.2.2.toNat
def Dec(okI:Nat->Nat->Nat->Nat->Bool)(x:MI):Prop:=fK x/16777216=x.1.toNat/\fK x/1048576%16=x.2.1.toNat/\fK x/65536%16=x.2.2.1.toNat/\fK x%65536=x.2.2.2.toNat/\okI x.1.toNat x.2.1.toNat x.2.2.1.toNat x.2.2.2.toNat=T
structure Cf where
 pc:Nat
 a:Nat
 b:Nat
 t:Nat
 l:Nat
 mem:Int->Nat
 rd:Nat
 out:Str
def up(mem:Int->Nat)(x:Int)(v:Nat):Int->Nat:=λy=>if y=x then v else mem y
structure Ms (D:Nat) (c:Cf) (m:M):Prop where
 fin:m.fin=0
 pc:m.pc=c.pc
 len:m.reg.length=16
 r0:m.r 0=0
 r15:m.r 15=1
 a:m.r 1=c.a
 b:m.r 2=c.b
 t:m.r 3=c.t
 l:m.r 14=c.l
 ml:m.mem.length=D
 mem:∀k:Nat,k<D->m.mem[k]?=some (c.mem k)rd:m.rd=c.rd
 out:m.out=c.out
section
variable(okI:Nat->Nat->Nat->Nat->Bool)(C:List MI)(inp:Str)(D:Nat)
def Rn(k:Nat)(c c':Cf):Prop:=∀m,Ms D c m->∃m',Ms D c' m'/\∀al,Mach.runM okI (C.map fK) inp (k+al) m=Mach.runM okI (C.map fK) inp al m'
def RE(k:Nat)(c:Cf)(e:Nat)(o:Str):Prop:=e≠0/\∀m,Ms D c m->∀al,k<=al->(Mach.runM okI (C.map fK) inp al m).fin=e/\(Mach.runM okI (C.map fK) inp al m).out=o
end
variable{c:Cf}{x:MI}{m:M}{i j e:Nat}{okI:Nat->Nat->Nat->Nat->Bool}{C:List MI}{inp:Str}{D:Nat}
theorem Rn.refl:Rn okI C inp D 0 c c:=λm h=>⟨m,h,λal=>by simp⟩
theorem Rn.trans{i j}{c c1 c2}(U:Rn okI C inp D i c c1)(Z:Rn okI C inp D j c1 c2):Rn okI C inp D (i+j) c c2:=λm h=>by obtain⟨a,b,d⟩:=U m h;obtain⟨f,g,k⟩:=Z a b;grind
theorem Rn.re{o}{c c1}(U:Rn okI C inp D i c c1)(Z:RE okI C inp D j c1 e o):RE okI C inp D (i+j) c e o:=⟨Z.1,λm h al f=>by obtain⟨a,b,d⟩:=U m h;obtain⟨q,rfl⟩:∃q,al=i+q:=⟨al-i,a7⟩;rw[d];exact Z.2 a b q a7⟩
theorem RE.mono{o}(h:RE okI C inp D i c e o)(b:i<=j):RE okI C inp D j c e o:=⟨h.1,λm a al d=>h.2 m a al a7⟩
theorem Iy{k v j}(a:k<z m.reg):(m.set k v).r j=if j=k then v else m.r j:=by grind[M.r,M.set]
theorem step1(hd:∀x∈C,Dec okI x)(a:m.fin=0)(I:C[m.pc]?=S x) al:Mach.runM okI (C.map fK) inp (1+al) m=Mach.runM okI (C.map fK) inp al (Mach.doM (C.map fK) inp {m with steps:=m.steps+1} x.1.toNat x.2.1.toNat x.2.2.1.toNat x.2.2.2.toNat):=by obtain⟨d1,b,d3,d4,d⟩:=hd x (l8 I);simp_all[U6,Mach.Lt,Mach.qP]
variable(hd:∀x∈C,Dec okI x)
include hd
theorem mI{k}(I:C[c.pc]?=S x){v a b t l}(n:(k=1/\a=v/\b=c.b/\t=c.t/\l=c.l)\/(k=2/\a=c.a/\b=v/\t=c.t/\l=c.l)\/(k=3/\a=c.a/\b=c.b/\t=v/\l=c.l)\/(k=14/\a=c.a/\b=c.b/\t=c.t/\l=v)){rd}(h:∀m,Ms D c m->∃f,Mach.doM (C.map fK) inp {m with steps:=m.steps+1} x.1.toNat x.2.1.toNat x.2.2.1.toNat x.2.2.2.toNat={({m with steps:=m.steps+1}).set k v with rd:=rd}/\f=m):Rn okI C inp D 1 c ⟨c.pc+1,a,b,t,l,c.mem,rd,c.out⟩:=λm hm=>by
 obtain⟨_,g,_⟩:=h m hm;refine⟨_,?_,λal=>step1 hd hm.fin abN al⟩;rw[g];have d:∀j,({({m with steps:=m.steps+1}:M).set k v with rd:=rd}:M).r j=if j=k then v else m.r j:=λj=>Iy (by rw[hm.len];omega);refine⟨hm.fin,by show m.pc+1=c.pc+1;rw[hm.pc],by show z (m.reg.set k v)=16;rw[F9,hm.len],?_,?_,?_,?_,?_,?_,hm.ml,hm.mem,rfl,hm.out⟩;.rw[d,l4 a7];exact hm.r0
 .rw[d,l4 a7];exact hm.r15
 .grind[hm.a]
 .grind[hm.b]
 .grind[hm.t]
 grind[hm.l]
theorem DS(I:C[c.pc]?=S x){pc}(h:∀m,Ms D c m->Mach.doM (C.map fK) inp {m with steps:=m.steps+1} x.1.toNat x.2.1.toNat x.2.2.1.toNat x.2.2.2.toNat={m with steps:=m.steps+1,pc:=pc}):Rn okI C inp D 1 c ⟨pc,c.a,c.b,c.t,c.l,c.mem,c.rd,c.out⟩:=λm hm=>by refine⟨_,?_,λal=>step1 hd hm.fin abN al⟩;rw[h m hm];exact⟨hm.fin,rfl,hm.len,hm.r0,hm.r15,hm.a,hm.b,hm.t,hm.l,hm.ml,hm.mem,hm.rd,hm.out⟩
theorem Cj(I:C[c.pc]?=S x){e}(a:e≠0)(h:∀m,Ms D c m->Mach.doM (C.map fK) inp {m with steps:=m.steps+1} x.1.toNat x.2.1.toNat x.2.2.1.toNat x.2.2.2.toNat={m with steps:=m.steps+1,fin:=e}):RE okI C inp D 1 c e c.out:=⟨a,λm hm al b=>by obtain⟨q,rfl⟩:∃q,al=1+q:=⟨al-1,a7⟩;rw[step1 hd hm.fin abN,h m hm,Mach.PA a];grind[hm.out]⟩
variable{c:Cf}{x y:Int}
theorem Av(I:C[c.pc]?=S (16,1,0,x))(h:0<=x/\x<D)(hD:D<=60000):Rn okI C inp D 1 c ⟨c.pc+1,c.mem x,c.b,c.t,c.l,c.mem,c.rd,c.out⟩:=mI hd I (k:=1) (v:=c.mem x) (.inl ⟨rfl,rfl,rfl,rfl,rfl⟩) λm a=>⟨m,by show (match m.mem[(m.r 0+x.toNat)%4294967296]?with|some x=>({m with steps:=m.steps+1}:M).set 1 x|none=>_)=_;rw[a.r0,show (0+x.toNat)%4294967296=x.toNat by omega,a.mem x.toNat a7,show ((x.toNat:Nat):Int)=x by omega,<-a.rd];rfl,rfl⟩
theorem aaw(I:C[c.pc]?=S (16,2,0,x))(h:0<=x/\x<D)(hD:D<=60000):Rn okI C inp D 1 c ⟨c.pc+1,c.a,c.mem x,c.t,c.l,c.mem,c.rd,c.out⟩:=mI hd I (k:=2) (v:=c.mem x) (.inr (.inl ⟨rfl,rfl,rfl,rfl,rfl⟩)) λm b=>⟨m,by show (match m.mem[(m.r 0+x.toNat)%4294967296]?with|some x=>({m with steps:=m.steps+1}:M).set 2 x|none=>_)=_;rw[b.r0,show (0+x.toNat)%4294967296=x.toNat by omega,b.mem x.toNat a7,show ((x.toNat:Nat):Int)=x by omega,<-b.rd];rfl,rfl⟩
theorem aax(I:C[c.pc]?=S (16,14,0,x))(h:0<=x/\x<D)(hD:D<=60000):Rn okI C inp D 1 c ⟨c.pc+1,c.a,c.b,c.t,c.mem x,c.mem,c.rd,c.out⟩:=mI hd I (k:=14) (v:=c.mem x) (.inr (.inr (.inr ⟨rfl,rfl,rfl,rfl,rfl⟩))) λm d=>⟨m,by show (match m.mem[(m.r 0+x.toNat)%4294967296]?with|some x=>({m with steps:=m.steps+1}:M).set 14 x|none=>_)=_;rw[d.r0,show (0+x.toNat)%4294967296=x.toNat by omega,d.mem x.toNat a7,show ((x.toNat:Nat):Int)=x by omega,<-d.rd];rfl,rfl⟩
theorem adW(I:C[c.pc]?=S (16,1,1,x))(h:0<=x/\x+c.a<D)(hD:D<=60000):Rn okI C inp D 1 c ⟨c.pc+1,c.mem (x+c.a),c.b,c.t,c.l,c.mem,c.rd,c.out⟩:=mI hd I (k:=1) (v:=c.mem (x+c.a)) (.inl ⟨rfl,rfl,rfl,rfl,rfl⟩) λm d=>⟨m,by show (match m.mem[(m.r 1+x.toNat)%4294967296]?with|some x=>({m with steps:=m.steps+1}:M).set 1 x|none=>_)=_;rw[d.a,show (c.a+x.toNat)%4294967296=c.a+x.toNat by omega,d.mem _ a7,show ((c.a+x.toNat:Nat):Int)=x+c.a by omega,<-d.rd];rfl,rfl⟩
theorem DT{r q v:Nat}(I:C[c.pc]?=S (17,(r:Int),(q:Int),x))(h:0<=x){X}(hD:D<=60000)(f:∀m,Ms D c m->m.r r=v/\X=m.r q+x/\X<D):Rn okI C inp D 1 c ⟨c.pc+1,c.a,c.b,c.t,c.l,up c.mem X v,c.rd,c.out⟩:=λm hm=>by
 refine⟨_,?_,λal=>step1 hd hm.fin abN al⟩;obtain⟨U,Z,n⟩:=f m hm;have e:Mach.doM (C.map fK) inp {m with steps:=m.steps+1} 17 r q x.toNat={m with steps:=m.steps+1,mem:=m.mem.set X.toNat v,pc:=m.pc+1}:=by show (if (m.r q+x.toNat)%4294967296<z m.mem then {m with steps:=m.steps+1,mem:=m.mem.set ((m.r q+x.toNat)%4294967296) (m.r r),pc:=m.pc+1}else _)=_;rw[show (m.r q+x.toNat)%4294967296=X.toNat by omega,hm.ml,s5 a7,U]
 simp only[C0];rw[show ((17:Int)).toNat=17 from rfl,e];refine⟨hm.fin,by show m.pc+1=_;rw[hm.pc],hm.len,hm.r0,hm.r15,hm.a,hm.b,hm.t,hm.l,by simp_all[hm.ml],λk g=>?_,hm.rd,hm.out⟩;show (m.mem.set X.toNat v)[k]?=S (up c.mem X v k);rw[E3];unfold up;by_cases d:X.toNat=k;.rw[s5 d,s5 (by rw[hm.ml];omega),s5 a7]
 .rw[l4 d,l4 a7];exact hm.mem k g
theorem yM(I:C[c.pc]?=S (17,1,0,x))(h:0<=x/\x<D)(hD:D<=60000):Rn okI C inp D 1 c ⟨c.pc+1,c.a,c.b,c.t,c.l,up c.mem x c.a,c.rd,c.out⟩:=DT hd (r:=1) (q:=0) I h.1 hD λm d=>⟨d.a,by simp[d.r0],h.2⟩
theorem adX(I:C[c.pc]?=S (17,0,0,x))(h:0<=x/\x<D)(hD:D<=60000):Rn okI C inp D 1 c ⟨c.pc+1,c.a,c.b,c.t,c.l,up c.mem x 0,c.rd,c.out⟩:=DT hd (r:=0) (q:=0) I h.1 hD λm d=>⟨d.r0,by simp[d.r0],h.2⟩
theorem adY(I:C[c.pc]?=S (17,14,0,x))(h:0<=x/\x<D)(hD:D<=60000):Rn okI C inp D 1 c ⟨c.pc+1,c.a,c.b,c.t,c.l,up c.mem x c.l,c.rd,c.out⟩:=DT hd (r:=14) (q:=0) I h.1 hD λm d=>⟨d.l,by simp[d.r0],h.2⟩
theorem adZ(I:C[c.pc]?=S (17,2,1,x))(h:0<=x/\x+c.a<D)(hD:D<=60000):Rn okI C inp D 1 c ⟨c.pc+1,c.a,c.b,c.t,c.l,up c.mem (x+c.a) c.b,c.rd,c.out⟩:=DT hd (r:=2) (q:=1) I h.1 hD λm d=>⟨d.b,by rw[d.a];omega,h.2⟩
theorem aea(I:C[c.pc]?=S (17,0,1,0))(h:c.a<D)(hD:D<=60000):Rn okI C inp D 1 c ⟨c.pc+1,c.a,c.b,c.t,c.l,up c.mem c.a 0,c.rd,c.out⟩:=DT hd (r:=0) (q:=1) I a8 hD λm d=>⟨d.r0,by simp[d.a],a7⟩
theorem WK(I:C[c.pc]?=S (1,1,0,x)):Rn okI C inp D 1 c ⟨c.pc+1,x.toNat,c.b,c.t,c.l,c.mem,c.rd,c.out⟩:=mI hd I (k:=1) (v:=x.toNat) (.inl ⟨rfl,rfl,rfl,rfl,rfl⟩) λm a=>⟨m,by rw[<-a.rd];rfl,rfl⟩
theorem aeb(I:C[c.pc]?=S (1,2,0,x)):Rn okI C inp D 1 c ⟨c.pc+1,c.a,x.toNat,c.t,c.l,c.mem,c.rd,c.out⟩:=mI hd I (k:=2) (v:=x.toNat) (.inr (.inl ⟨rfl,rfl,rfl,rfl,rfl⟩)) λm b=>⟨m,by rw[<-b.rd];rfl,rfl⟩
theorem aay(I:C[c.pc]?=S (2,1,0,x)):Rn okI C inp D 1 c ⟨c.pc+1,c.a%65536+x.toNat*65536,c.b,c.t,c.l,c.mem,c.rd,c.out⟩:=mI hd I (k:=1) (v:=c.a%65536+x.toNat*65536) (.inl ⟨rfl,rfl,rfl,rfl,rfl⟩) λm d=>⟨m,by rw[<-d.rd,<-d.a];rfl,rfl⟩
theorem MG{op}{r q s}(ho:4<=op/\op<=15):Mach.doM (C.map fK) inp m op r q s=match applyN op (m.r q) (m.r s)with|some x=>m.set r x|none=>{m with fin:=2}:=by
 unfold Mach.doM;repeat rw[l4 (by omega)]
 rfl
theorem aec{v}(I:C[c.pc]?=S (x,1,1,2))(h:4<=x/\x<=15)(f:applyN x.toNat c.a c.b=S v):Rn okI C inp D 1 c ⟨c.pc+1,v,c.b,c.t,c.l,c.mem,c.rd,c.out⟩:=mI hd I (k:=1) (v:=v) (.inl ⟨rfl,rfl,rfl,rfl,rfl⟩) λm d=>⟨m,by rw[MG hd a7];show (match applyN x.toNat (m.r 1) (m.r 2)with|some x=>_|none=>_)=_;rw[d.a,d.b,f,<-d.rd];rfl,rfl⟩
theorem aed(I:C[c.pc]?=S (x,1,1,2))(h:4<=x/\x<=15)(f:applyN x.toNat c.a c.b=N):RE okI C inp D 1 c 2 c.out:=Cj hd I a8 λm d=>by rw[MG hd a7];show (match applyN x.toNat (m.r 1) (m.r 2)with|some x=>_|none=>_)=_;rw[d.a,d.b,f]
theorem aaz(I:C[c.pc]?=S (15,1,1,0)):Rn okI C inp D 1 c ⟨c.pc+1,if c.a=0 then 1 else 0,c.b,c.t,c.l,c.mem,c.rd,c.out⟩:=mI hd I (k:=1) (v:=if c.a=0 then 1 else 0) (.inl ⟨rfl,rfl,rfl,rfl,rfl⟩) λm d=>⟨m,by rw[<-d.rd];show ({m with steps:=m.steps+1}:M).set 1 (if m.r 1=m.r 0 then 1 else 0)=_;rw[d.r0,d.a];rfl,rfl⟩
theorem WL(I:C[c.pc]?=S (4,1,1,15))(h:c.a<4294967295):Rn okI C inp D 1 c ⟨c.pc+1,c.a+1,c.b,c.t,c.l,c.mem,c.rd,c.out⟩:=mI hd I (k:=1) (v:=c.a+1) (.inl ⟨rfl,rfl,rfl,rfl,rfl⟩) λm d=>⟨m,by rw[<-d.rd];show ({m with steps:=m.steps+1}:M).set 1 ((m.r 1+m.r 15)%4294967296)=_;rw[d.r15,d.a,L8 a7];rfl,rfl⟩
theorem aee(I:C[c.pc]?=S (14,3,1,2)):Rn okI C inp D 1 c ⟨c.pc+1,c.a,c.b,if c.a<c.b then 1 else 0,c.l,c.mem,c.rd,c.out⟩:=mI hd I (k:=3) (v:=if c.a<c.b then 1 else 0) (.inr (.inr (.inl ⟨rfl,rfl,rfl,rfl,rfl⟩))) λm d=>⟨m,by rw[<-d.rd];show ({m with steps:=m.steps+1}:M).set 3 (if m.r 1<m.r 2 then 1 else 0)=_;rw[d.b,d.a];rfl,rfl⟩
theorem aaA(I:C[c.pc]?=S (23,1,0,0)):Rn okI C inp D 1 c ⟨c.pc+1,DO inp c.rd,c.b,c.t,c.l,c.mem,AW inp c.rd,c.out⟩:=mI hd I (k:=1) (v:=DO inp c.rd) (.inl ⟨rfl,rfl,rfl,rfl,rfl⟩) λm a=>⟨m,by show (match inp[m.rd]?with|some x=>{({m with steps:=m.steps+1}:M).set 1 x.toNat with rd:=m.rd+1}|none=>({m with steps:=m.steps+1}:M).set 1 256)=_;unfold DO AW;rw[<-a.rd];cases inp[m.rd]?<;>rfl,rfl⟩
theorem Vi(I:C[c.pc]?=S (25,1,0,x))(h:c.a<x):Rn okI C inp D 1 c ⟨c.pc+1,c.a,c.b,c.t,c.l,c.mem,c.rd,c.out⟩:=DS hd I λm d=>by show (if x.toNat<=m.r 1 then _ else {m with steps:=m.steps+1,pc:=m.pc+1})=_;rw[d.a,l4 a7,d.pc]
theorem Vj(I:C[c.pc]?=S (25,1,0,x))(h:¬c.a<x):RE okI C inp D 1 c 3 c.out:=Cj hd I a8 λm b=>by show (if x.toNat<=m.r 1 then {m with steps:=m.steps+1,fin:=3}else _)=_;rw[b.a,s5 a7]
theorem aaB(I:C[c.pc]?=S (18,0,0,x)):Rn okI C inp D 1 c ⟨x.toNat,c.a,c.b,c.t,c.l,c.mem,c.rd,c.out⟩:=DS hd I λm d=>rfl
theorem aef(I:C[c.pc]?=S (19,1,0,x)):Rn okI C inp D 1 c ⟨if c.a=0 then x.toNat else c.pc+1,c.a,c.b,c.t,c.l,c.mem,c.rd,c.out⟩:=DS hd I λm d=>by show {m with steps:=m.steps+1,pc:=if m.r 1=0 then x.toNat else m.pc+1}=_;rw[d.a,d.pc]
theorem aaC(I:C[c.pc]?=S (20,3,0,x)):Rn okI C inp D 1 c ⟨if c.t=0 then c.pc+1 else x.toNat,c.a,c.b,c.t,c.l,c.mem,c.rd,c.out⟩:=DS hd I λm d=>by show {m with steps:=m.steps+1,pc:=if m.r 3=0 then m.pc+1 else x.toNat}=_;rw[d.t,d.pc]
theorem Vk(I:C[c.pc]?=S (22,14,0,0)):Rn okI C inp D 1 c ⟨c.l,c.a,c.b,c.t,c.l,c.mem,c.rd,c.out⟩:=DS hd I λm d=>by show {m with steps:=m.steps+1,pc:=m.r 14}=_;rw[d.l]
theorem WM(I:C[c.pc]?=S (21,14,0,x))(h:c.pc<4294967295):Rn okI C inp D 1 c ⟨x.toNat,c.a,c.b,c.t,c.pc+1,c.mem,c.rd,c.out⟩:=λm hm=>by
 refine⟨_,?_,λal=>step1 hd hm.fin abN al⟩;have e:Mach.doM (C.map fK) inp {m with steps:=m.steps+1} 21 14 0 x.toNat={({m with steps:=m.steps+1}:M).set 14 ((m.pc+1)%4294967296)with pc:=x.toNat}:=rfl;show Ms D _ (Mach.doM (C.map fK) inp {m with steps:=m.steps+1} 21 14 0 x.toNat);rw[e];have d:∀j,({({m with steps:=m.steps+1}:M).set 14 ((m.pc+1)%4294967296)with pc:=x.toNat}:M).r j=if j=14 then(m.pc+1)%4294967296 else m.r j:=λj=>Iy (by simp[hm.len]);refine⟨hm.fin,rfl,by show z (m.reg.set _ _)=16;rw[F9,hm.len],?_,?_,?_,?_,?_,?_,hm.ml,hm.mem,hm.rd,hm.out⟩;.grind[hm.r0]
 .grind[hm.r15]
 .grind[hm.a]
 .grind[hm.b]
 .grind[hm.t]
 .rw[d,s5 rfl,hm.pc,L8 a7]
theorem aaD(I:C[c.pc]?=S (24,1,0,0))(h:¬65536<=z c.out):Rn okI C inp D 1 c ⟨c.pc+1,c.a,c.b,c.t,c.l,c.mem,c.rd,c.out++[UInt8.ofNat c.a]⟩:=λm hm=>by
 refine⟨_,?_,λal=>step1 hd hm.fin abN al⟩;have e:Mach.doM (C.map fK) inp {m with steps:=m.steps+1} 24 1 0 0={m with steps:=m.steps+1,out:=m.out++[UInt8.ofNat (m.r 1)],pc:=m.pc+1}:=by show (if 65536<=z m.out then _ else {m with steps:=m.steps+1,out:=m.out++[UInt8.ofNat (m.r 1)],pc:=m.pc+1})=_;rw[l4 (by grind[hm.out])]
 show Ms D _ (Mach.doM (C.map fK) inp {m with steps:=m.steps+1} 24 1 0 0);rw[e];exact⟨hm.fin,by show m.pc+1=_;rw[hm.pc],hm.len,hm.r0,hm.r15,hm.a,hm.b,hm.t,hm.l,hm.ml,hm.mem,hm.rd,by show m.out++[UInt8.ofNat (m.r 1)]=_;rw[hm.out,hm.a]⟩
theorem aaE(I:C[c.pc]?=S (24,1,0,0))(h:65536<=z c.out):RE okI C inp D 1 c 4 c.out:=Cj hd I a8 λm a=>by show (if 65536<=z m.out then {m with steps:=m.steps+1,fin:=4}else _)=_;simp_all[a.out]
theorem WN(I:C[c.pc]?=S (26,0,0,0)):RE okI C inp D 1 c 1 c.out:=Cj hd I a8 λm a=>rfl
end
section
open Go.Emit (MI Plan Wr aD gg mK lz iw close dr jJ whole sR fE nr toC yU iy placesOf cT bX uP rA deepest fe kF)
open Go.Src (CFn)
def At(C:List MI)(n:Nat)(l:List MI):Prop:=∀(j:Nat)(x:MI),l[j]?=S x->C[n+j]?=S x
variable{n:Nat}{C l:List MI}
theorem At.app{C l r}(h:At C n (l++r)):At C n l/\At C (n+z l) r:=by exact Y3
theorem At.mk{C a l b}(h:C=a++(l++b))(c:z a=n):At C n l:=λj x I=>by grind
theorem At.hd{x}(h:At C n (x::l)):C[n]?=S x:=h 0 x rfl
theorem At.tl{x}(h:At C n (x::l)):At C (n+1) l:=λj y a=>by rw[D4,U6 1 j];exact h (j+1) y a
def plc(fs:List CFn)(P:Plan)(f:Nat)(x:CFn)(n k:Nat):Nat:=n+z (iw fs P f (cT x) (bX (cT x)) k n).code
section
variable{fs:List CFn}{P:Plan}{ar:Nat}(H:uP fs P ar)(hd:∀(f:Nat)(x:CFn),fs[f]?=S x->P.depths[f]?=S (bX (cT x)))
include H hd
theorem Vl{env}:∀k,k<=z fs-1->∀f x,fs[f]?=S x->f<k\/f=z fs-1->∃c a b,toC env fs P k=a++(close env (iw fs P f (cT x) (bX (cT x)) (z (cT x))) c++b)/\z a=c/\(sR fs P k).ent[f]?=S (c:Int)/\(sR fs P k).pls[f]?=S (placesOf fs P f (cT x) (bX (cT x)) c)/\(f=z fs-1->c=1)
 |0,_,f,x,I,g=>by
  obtain rfl:f=z fs-1:=g.resolve_left a7;have o:=H.n;refine⟨1,[(1,15,0,1)],[],?_,rfl,?_,?_,λ_=>rfl⟩;.simp_all[toC,yU]
  .show (fE fs P _ _).ent[_]?=_;rw[nr I (hd _ _ I)];grind
  .show (fE fs P _ _).pls[_]?=_;rw[nr I (hd _ _ I)];grind;|k+1,p,f,x,I,g=>by
  obtain⟨y,d⟩:∃y,fs[k]?=S y:=⟨_,x9 a7⟩;have i:sR fs P (k+1)=_:=nr d (hd _ _ d);have E:=Emit.xR H k a7;have j:z (toC env fs P k)=z (sR fs P k).code:=by rw[<-Emit.yV H k a7];exact Emit.nv _ _
  by_cases e:f=k
  .subst e;rw[I]at d;cases d;refine⟨z (sR fs P f).code,toC env fs P f,[],?_,j,?_,?_,λe=>absurd e a7⟩;.simp_all[toC,yU]
   .rw[i];simp only[E3,B3];rw[s5 (by rw[E.el];omega)]
   .rw[i];simp only[E3,B3];rw[s5 (by rw[E.pl];omega)]
  .obtain⟨c,a,b,U,Z,q,r,m⟩:=Vl (env:=env) k a7 f x I a7;refine⟨c,a,b++yU env fs P k (z (toC env fs P k)),?_,Z,?_,?_,m⟩;.grind[toC]
   .grind
   grind
structure WO (C:List MI) (env:Int×Int->Int) (fs:List CFn) (P:Plan) (f:Nat) (x:CFn) (en:Nat) (pl:Nat->Nat):Prop where
 head:At C en (close env (lz fs P f) en)/\pl 0=en+(close env (lz fs P f) en).length
 ins:∀(k:Nat)(y:Lower.Ins×Int)(d:Int),(cT x)[k]?=some y->(bX (cT x))[k]?=some d->0<=d->At C (pl k) (close env (mK fs P f d y.1) (pl k))/\pl (k+1)=pl k+(close env (mK fs P f d y.1) (pl k)).length
 mono:∀k,pl k<=pl (k+1)ev:∀k,k<(cT x).length->env ((f:Int),(k:Int))=pl k
 ent:env ((f:Int),-1)=en
 le:pl (cT x).length<=C.length
theorem aaF{f}{x}(I:fs[f]?=S x):∃en pl,WO (Emit.filled (whole fs P)) (iy (whole fs P)) fs P f x en pl/\(f=z fs-1->en=1):=by
 have G:=H.n;have J:=(l9.1 I).1;obtain⟨c,a,b,U,Z,s,t,u⟩:=Vl H hd (env:=iy (whole fs P)) (z fs-1) (l7 _) f x I a7;have m:∀k,jJ (iw fs P f (cT x) (bX (cT x)) k):=λk=>(H.fits I _ k).inner;rw[<-Emit.KF H]at U;have hW:∀(k:Nat)(y:Lower.Ins×Int)(d:Int),(cT x)[k]?=S y->jJ (mK fs P f d y.1):=λk y d i=>by have L:=l8 i;exact(Emit.MS (Q:=λ_=>True) (λw X v=>⟨H.p X (l8 v),trivial⟩) λ_=>trivial).inner
 have g:∀j k,k<=j->∃r,close (iy (whole fs P)) (iw fs P f (cT x) (bX (cT x)) j) c=close (iy (whole fs P)) (iw fs P f (cT x) (bX (cT x)) k) c++r:=by intro j;induction j with|zero=>simp;|succ j A=>
  intro k i;by_cases e:k=j+1;.simp_all
  .obtain⟨r,V⟩:=A k a7;rw[iw];cases B:(cT x)[j]?with|none=>simp only;rw[dr (m j) Emit.ny,V,s9];simp;|some y=>cases o:(bX (cT x))[j]?with|none=>simp only;rw[dr (m j) Emit.ny,V,s9];simp;|some d=>
  simp only;split;.rw[dr (m j) (hW j y d B),V,s9];simp
  .rw[dr (m j) Emit.ny,V,s9];simp
 refine⟨c,plc fs P f x c,⟨⟨?_,?_⟩,λk y d i o E=>?_,λk=>?_,λk i=>?_,?_,?_⟩,u⟩;.obtain⟨r,V⟩:=g (z (cT x)) 0 a7;rw[V]at U;exact(At.mk (U.trans (by rw[s9])) Z:At _ c (close _ (iw fs P f (cT x) (bX (cT x)) 0) c))
 .rw[kF];rfl
 .have O:=(l9.1 i).1;have q:close (iy (whole fs P)) (iw fs P f (cT x) (bX (cT x)) (k+1)) c=close (iy (whole fs P)) (iw fs P f (cT x) (bX (cT x)) k) c++close (iy (whole fs P)) (mK fs P f d y.1) (plc fs P f x c k):=by rw[iw,i,o];simp only;rw[s5 E,dr (m k) (hW k y d i)];rfl
  refine⟨?_,?_⟩;.obtain⟨r,V⟩:=g (z (cT x)) (k+1) a7;rw[V,q]at U;refine At.mk (a:=a++close (iy (whole fs P)) (iw fs P f (cT x) (bX (cT x)) k) c) (b:=r++b) (U.trans b9) ?_;rw[j7,kF,Z];rfl
  .have:=congrArg z q;rw[j7,kF,kF]at this;grind[plc]
 .simp[plc,iw,aD]
 .unfold iy;simp only[Int.natCast_nonneg,B3,C0];rw[show (whole fs P).pls[f]?=_ from t];simp only[B6,placesOf,A4,List.getElem?_range i,A5];rfl
 .simp_all[iy,whole]
 simp_all[kF,plc]
end
theorem Iz n:∀l k w,∃bk:Nat->Int,bk 0=w/\bk (z l)=(fe n k l w).2.2/\∀f o,l[f]?=S o->(fe n k l w).1[f]?=S (bk f)/\(fe n k l w).2.1[f]?=S (if k+f+1=n then bk f else bk f+1)/\bk (f+1)=(if k+f+1=n then bk f else bk f+1)+deepest o 0|[],k,w=>⟨λ_=>w,rfl,rfl,λf o h=>by simp at h⟩|o::l,k,w=>by obtain⟨bk,U,Z,b⟩:=Iz n l (k+1) ((if k+1=n then w else w+1)+deepest o 0);refine⟨λf=>match f with|0=>w|f+1=>bk f,rfl,Z,λf y a=>?_⟩;cases f with|zero=>simp at a;subst a;exact⟨rfl,rfl,U⟩;|succ f=>obtain⟨c,d,e⟩:=b f y ZN;rw[show k+(f+1)+1=k+1+f+1 by omega];exact⟨c,d,e⟩
theorem DU o:∀l w,∃ft:Nat->Int,ft 0=w/\ft (z l)=(Src.eF o l w).2/\∀f fn,l[f]?=S fn->(Src.eF o l w).1[f]?=S (Src.pJ o fn (ft f))/\ft (f+1)=ft f+(z fn.p+z fn.l)|[],w=>⟨λ_=>w,rfl,rfl,λf fn h=>by simp at h⟩|g::l,w=>by obtain⟨ft,U,Z,b⟩:=DU o l (w+(z g.p+z g.l));refine⟨λf=>match f with|0=>w|f+1=>ft f,rfl,Z,λf fn a=>?_⟩;cases f with|zero=>simp at a;subst a;exact⟨rfl,U⟩;|succ f=>exact b f fn ZN
end
section
open Go.Emit (MI Plan Wr aD gg mK lz iw close dr jJ iy cT bX mW deepest kF ky jb eT kx nw ny)
open Go.Src (CFn Prog Fn ab pJ ay lP cR mD eR bR coreS cF bN ie nc sigs bG bH bQ)
open Go.Lower (Ins Code cE cEs cS cSs cAO lU takes next OkI Good)
def iP(fn:Src.Fn)(w:Int):Src.Pl:=lP (w+z fn.p) 0 fn.l (lP w 0 fn.p [])
def xP(p:Prog)(fn:Src.Fn)(w:Int):CFn:=pJ (ay p).1 fn w
structure Lay (okI:Nat->Nat->Nat->Nat->Bool) (p:Prog) (C:List MI) (env:Int×Int->Int) (D:Nat) where
 ft:Nat->Int
 bk:Nat->Int
 bs:Nat->Int
 en:Nat->Nat
 pl:Nat->Nat->Nat
 P:Plan
 snd:bN p=0
 dec:∀x∈C,Dec okI x
 hD:D<=32768
 hC:C.length<=16384
 ft0:ft 0=(ay p).2
 ftn:ft p.f.length=bk 0
 bkn:bk p.f.length=D
 fs:∀(f:Nat)(fn:Src.Fn),p.f[f]?=some fn->(ab p).f[f]?=some (xP p fn (ft f))at_:∀(f:Nat)(fn:Src.Fn),p.f[f]?=some fn->WO C env (ab p).f P f (xP p fn (ft f)) (en f) (pl f)fts:∀(f:Nat)(fn:Src.Fn),p.f[f]?=some fn->ft (f+1)=ft f+(fn.p.length+fn.l.length)base:∀(f:Nat)(fn:Src.Fn),p.f[f]?=some fn->(P.base[f]?).getD 0=bs f/\(P.back[f]?).getD 0=bk f/\bs f=(if f+1=p.f.length then bk f else bk f+1)/\bk (f+1)=bs f+deepest (bX (cT (xP p fn (ft f)))) 0
theorem jr:∀l d,d<=deepest l d/\∀x∈l,x<=deepest l d|[],d=>⟨C7 _,λ_ h=>by cases h⟩|a::l,d=>by obtain⟨U,Z⟩:=jr l (max d a);rw[Emit.uO];grind
variable{fn:Src.Fn}{f:Nat}{m:Int->Nat}{x:Ins×Int}{okI:Nat->Nat->Nat->Nat->Bool}{p:Prog}{C:List MI}{env:Int×Int->Int}{D:Nat}(Y:Lay okI p C env D)
namespace Lay
theorem ftm{i j}(h:i<=j)(b:j<=z p.f):Y.ft i<=Y.ft j:=by induction h with|refl=>simp;|@step j h a=>have:=a a7;have:=Y.fts j _ (x9 a7);grind
def bks(a:f<z p.f):Y.bk f<=Y.bs f/\Y.bs f<=Y.bk (f+1):=by obtain⟨_,_,b,c⟩:=Y.base f _ (x9 a);have d:=(jr (bX (cT (xP p (p.f[f]) (Y.ft f)))) 0).1;omega
theorem bkm{i j}(h:i<=j)(b:j<=z p.f):Y.bk i<=Y.bk j:=by induction h with|refl=>simp;|@step j h a=>have:=a a7;have:=Y.bks (f:=j) a7;grind
theorem globs:0<=Y.ft 0:=by
 have V:=(Src.FA Y.snd).1;rw[Y.ft0];unfold ay;simp only;rw[Src.PE,Src.PD];unfold Src.ct at V;simp only[l6,z7]at V;have:∀m:List (Asm.Str×Int),(∀x∈m,Src.fR x=T)->0<=(m.map (·.2)).sum:=by intro m a;induction m with|nil=>simp;|cons y m b=>have U:=b (λX c=>a X (by simp[c]));have Z:=a y b9;grind[Src.fR]
 grind
end Lay
def Lay.cd(f:Nat)(fn:Src.Fn):Lower.Code:=cT (xP p fn (Y.ft f))
def Rch(f:Nat)(fn:Src.Fn)(k:Nat)(d:Int):Prop:=0<=d/\(bX (Y.cd f fn))[k]?=S d
def mid(b:p.f[f]?=S fn):Emit.yR (λk=>((Y.cd f fn)[k]?).map Prod.snd) (Y.cd f fn) (bX (Y.cd f fn)) []/\(bX (Y.cd f fn))[0]?=S 0/\Lower.Good (sigs p.f) fn.word (λk=>((Y.cd f fn)[k]?).map Prod.snd) 0 (Y.cd f fn):=by obtain⟨c,a⟩:=Emit.vY Y.snd (l8 (Y.fs f fn b));obtain⟨U,Z⟩:=mW (λ_=>rfl) c a;exact⟨U,Z,a⟩
variable{Y}
def Rch.dp{f k}{d}(a:p.f[f]?=S fn)(h:Rch Y f fn k d):Y.bs f+d<=Y.bk (f+1)/\Y.bk (f+1)<=D/\0<=Y.bk f/\Y.bk f<=Y.bs f/\0<=Y.ft f/\Y.ft (f+1)<=Y.bk 0/\Y.bk 0<=Y.bk f/\Y.ft f<=Y.ft (f+1):=by have b:=(l9.1 a).1;obtain⟨_,_,c,e⟩:=Y.base f fn a;have g:=(jr (bX (cT (xP p fn (Y.ft f)))) 0).2 d (l8 h.2);have l:=Y.bkm (i:=f+1) a7 (l7 _);have n:=Y.bkm (i:=0) (j:=f) a7 a7;have r:=Y.ftm (i:=0) (j:=f) a7 a7;have m:=Y.ftm (i:=f+1) a7 (l7 _);have w:=Y.globs;have H:=Y.bkn;have q:=Y.ftn;have o:=Y.ftm (i:=f) (j:=f+1) a7 a7;omega
theorem Rch.ins{f k}{fn}{d a}{y}(b:p.f[f]?=S fn)(h:Rch Y f fn k d)(c:(Y.cd f fn)[k]?=S (y,a)):a=d/\At C (Y.pl f k) (close env (mK (ab p).f Y.P f d y) (Y.pl f k))/\Y.pl f (k+1)=Y.pl f k+z (close env (mK (ab p).f Y.P f d y) (Y.pl f k)):=by
 rcases ((mid Y b).1).inv.2.1 k d h.2 with e|⟨e,_⟩;.have:=h.1;omega
 .simp only[c,A5,w7]at e;obtain⟨i,j⟩:=(Y.at_ f fn b).ins k (y,a) d c h.2 h.1;grind
def Rch.nx{f k j:Nat}{d b t q}{y}(n:p.f[f]?=S fn)(h:Rch Y f fn k d)(g:(Y.cd f fn)[k]?=S (y,b))(s:takes (sigs p.f) fn.word y=S (t,q))(o:(j:Int)∈next y k):Rch Y f fn j (d-t+q)/\t<=d:=by
 obtain⟨r,_,v⟩:=mid Y n;obtain⟨rfl,_,_⟩:=h.ins n g;obtain⟨A,a,e,B,c,_,bc⟩:=Lower.iZ v g;rw[s]at e;cases e;rw[D2]at bc;obtain⟨E,G,w⟩:=bc j o;obtain rfl:E=j:=a7;rcases r.clo k b h.2 h.1 with i|i;.cases i
 .obtain⟨u,L,l⟩:=i y b g E o;rw[C0]at L;rcases r.inv.2.1 E u L with e|⟨e,_⟩;.omega
  .rw[w]at e;cases e;exact⟨⟨l,L⟩,c⟩
def Sub(Y:Lay okI p C env D)(f:Nat)(fn:Src.Fn)(n:Nat)(c:Lower.Code):Prop:=∀(j:Nat)(x:Ins×Int),c[j]?=S x->(Y.cd f fn)[n+j]?=S x
theorem Sub.app{f n}{a b}(h:Sub Y f fn n (a++b)):Sub Y f fn n a/\Sub Y f fn (n+z a) b:=by exact Y3
def Sub.hd{f n}{b:Lower.Code}(h:Sub Y f fn n (x::b)):(Y.cd f fn)[n]?=S x:=h 0 x rfl
def Sub.tl{f n}{b:Lower.Code}(h:Sub Y f fn n (x::b)):Sub Y f fn (n+1) b:=λj y a=>by rw[D4,U6 1 j];exact h (j+1) y a
structure Rl (p:Prog) (G:Sg) (mem:Int->Nat):Prop where
 v:∀(i:Nat)(x:Nat),G.v[i]?=some x->mem i=x
 a:∀(i:Nat)(l:List Nat),G.arrs[i]?=some l->∀(j:Nat)(x:Nat),l[j]?=some x->mem (ie p i+j)=x
 vl:G.v.length=p.v.length
 al:∀(i:Nat)(l:List Nat),G.arrs[i]?=some l->∃a,p.a[i]?=some a/\(l.length:Int)=a.2
def Fr(Y:Lay okI p C env D)(f:Nat)(L:List Nat)(mem:Int->Nat):Prop:=∀(i:Nat)(x:Nat),L[i]?=S x->mem (Y.ft f+i)=x
def Kp(Y:Lay okI p C env D)(f:Nat)(d:Int)(mem b:Int->Nat):Prop:=∀a:Int,(Y.ft f<=a/\a<Y.bk 0)\/(Y.bk f<=a/\a<Y.bs f+d)\/Y.bk (f+1)<=a->b a=mem a
def Ks(Y:Lay okI p C env D)(f:Nat)(mem b:Int->Nat):Prop:=∀a:Int,(Y.ft (f+1)<=a/\a<Y.bk 0)\/(Y.bk f<=a/\a<Y.bs f)\/Y.bk (f+1)<=a->b a=mem a
structure Ste (Y:Lay okI p C env D) (f:Nat) (fn:Src.Fn) (k:Nat) (d:Int) (L:List Nat) (G:Sg) (c:Cf):Prop where
 pc:c.pc=Y.pl f k
 rch:Rch Y f fn k d
 gl:Rl p G c.mem
 fr:Fr Y f L c.mem
 wl:L.length=fn.p.length+fn.l.length
 rd:c.rd=G.rd
 out:c.out=G.out
def Kp.refl{d}:Kp Y f d m m:=λ_ _=>rfl
def Kp.trans{f}{d b}{m m1 c}(U:Kp Y f d m m1)(Z:Kp Y f b m1 c)(hd:d<=b):Kp Y f d m c:=λa e=>(Z a a7).trans (U a e)
def iW{x y}{v}(h:y≠x):up m x v y=m y:=l4 h
def ta{x}{v}:up m x v x=v:=s5 rfl
theorem uN(d:p.f[f]?=S fn){G}{mem}(h:Rl p G mem):(∀(i x:Nat),G.v[i]?=S x->i<Y.ft 0)/\(∀i l,G.arrs[i]?=S l->(z p.v)<=ie p i/\ie p i+z l<=Y.ft 0/\nc p i=z l):=by
 have V:=(Src.FA Y.snd).1;have H:∀a∈p.a,1<=a.2:=by unfold Src.ct at V;simp only[l6,z7]at V;intro a b;have:=V.2.1 a b;exact x5
 have g:Y.ft 0=z p.v+(p.a.map (·.2)).sum:=by rw[Y.ft0];unfold ay;simp only;rw[Src.PE,Src.PD];simp
 have t:0<=(p.a.map (·.2)).sum:=by
  have:=Y.globs;have:∀m:List (Asm.Str×Int),(∀x∈m,1<=x.2)->0<=(m.map (·.2)).sum:=by intro m j;induction m with|nil=>simp;|cons y m k=>grind
  exact this _ H
 refine⟨λi x c=>?_,λi l c=>?_⟩;.have:=(l9.1 c).1;grind[h.vl]
 .obtain⟨a,b,hl⟩:=h.al i l c;have:=Src.xz p.a i a H b;grind[nc,ie]
def Rl.keep(e:p.f[f]?=S fn){G}{m m'}(h:Rl p G m)(b:∀a,0<=a->a<Y.ft 0->m' a=m a):Rl p G m':=by obtain⟨U,Z⟩:=uN (Y:=Y) e h;refine⟨λi x c=>(b _ a7 (U i x c)).trans (h.v i x c),λi l hl j x d=>?_,h.vl,h.al⟩;have:=Z i l hl;have:=(l9.1 d).1;exact(b _ a7 a7).trans (h.a i l hl j x d)
def Fr.keep(c:p.f[f]?=S fn){L}{m m'}(e:z L=z fn.p+z fn.l)(h:Fr Y f L m)(d:∀a,Y.ft f<=a->a<Y.ft (f+1)->m' a=m a):Fr Y f L m':=λi x b=>by have:=Y.fts f fn c;have:=(l9.1 b).1;exact(d _ a7 a7).trans (h i x b)
end
open Go.Emit (MI Plan aD gg mK aE aJ eN ey lY hi16 close dr ky jb eT kx nw ny)
open Go.Src (Prog Fn ab sigs)
open Go.Lower (Ins Code takes next)
variable{okI:Nat->Nat->Nat->Nat->Bool}{p:Prog}{C:List MI}{env:Int×Int->Int}{D:Nat}{Y:Lay okI p C env D}{inp:Asm.Str}{W:Nat}{f:Nat}{fn:Src.Fn}{k E k1:Nat}{d o d1:Int}{L:List Nat}{G ad H:Sg}{c c1 c':Cf}
theorem Ste.mv(g:p.f[f]?=S fn)(h:Ste Y f fn k d L G c)(V:Rch Y f fn E o)(n:c'.pc=Y.pl f E)(l:∀a,a<Y.bk 0->c'.mem a=c.mem a)(q:c'.rd=ad.rd)(ho:c'.out=ad.out)(m:ad.v=G.v)(b:ad.arrs=G.arrs):Ste Y f fn E o L ad c':=by have hd:=h.rch.dp g;have s:=Y.ftm (i:=0) (j:=f) a7 ZN;have e:=h.gl.keep (Y:=Y) g λa b r=>l a a7;exact⟨n,V,⟨by grind[e.v],by grind[e.a],by grind[e.vl],by grind[e.al]⟩,h.fr.keep g h.wl (λa b r=>l a a7),h.wl,q,ho⟩
variable(Y inp W f fn k E d L G c)
def XO(v:Nat)(ad:Sg):Prop:=∃j c',Rn okI C inp D j c c'/\j+Y.pl f k+G.tk*W<=Y.pl f E+ad.tk*W/\Ste Y f fn E (d+1) L ad c'/\c'.mem (Y.bs f+d)=v/\Kp Y f d c.mem c'.mem
def EO(e:Nat)(ad:Sg):Prop:=e=5\/∃j,RE okI C inp D j c e ad.out/\j+Y.pl f k+G.tk*W<=Y.pl f E+ad.tk*W
def XR(r:Rs Nat):Prop:=match r with|.ok v ad=>XO Y inp W f fn k E d L G c v ad|.en e ad=>EO Y inp W f k E G c e ad|.no=>True
def LO(vs:List Nat)(ad:Sg):Prop:=∃j c',Rn okI C inp D j c c'/\j+Y.pl f k+G.tk*W<=Y.pl f E+ad.tk*W/\Ste Y f fn E (d+z vs) L ad c'/\(∀(i:Nat)(v:Nat),vs[i]?=S v->c'.mem (Y.bs f+d+i)=v)/\Kp Y f d c.mem c'.mem
def LR(n:Nat)(r:Rs (List Nat)):Prop:=match r with|.ok vs ad=>LO Y inp W f fn k E d L G c vs ad/\z vs=n|.en e ad=>EO Y inp W f k E G c e ad|.no=>True
variable{Y inp W f fn k E d L G c}
theorem kT(g:p.f[f]?=S fn)(h:k<=E):Y.pl f k<=Y.pl f E:=by induction h with|refl=>simp;|step _ a=>exact C4 a ((Y.at_ f fn g).mono _)
theorem XO.after{j}{v}(U:Rn okI C inp D j c c1)(Z:j+Y.pl f k+G.tk*W<=Y.pl f k1+H.tk*W)(a:Kp Y f d c.mem c1.mem)(h:XO Y inp W f fn k1 E d L H c1 v ad):XO Y inp W f fn k E d L G c v ad:=by obtain⟨i,c',r,e,s,m,b⟩:=h;exact⟨j+i,c',U.trans r,a7,s,m,a.trans b (C7 _)⟩
theorem EO.after{j e}(U:Rn okI C inp D j c c1)(Z:j+Y.pl f k+G.tk*W<=Y.pl f k1+H.tk*W)(h:EO Y inp W f k1 E H c1 e ad):EO Y inp W f k E G c e ad:=by
 rcases h with h|⟨i,r,h⟩;.exact .inl h
 .exact .inr ⟨j+i,U.re r,a7⟩
theorem EO.mono{e}(g:p.f[f]?=S fn)(h:EO Y inp W f k k1 G c e ad)(a:k1<=E):EO Y inp W f k E G c e ad:=by
 rcases h with h|⟨i,r,h⟩;.exact .inl h
 .exact .inr ⟨i,r,by have:=kT (Y:=Y) g a;omega⟩
theorem XR.after{j}{r}(U:Rn okI C inp D j c c1)(Z:j+Y.pl f k+G.tk*W<=Y.pl f k1+H.tk*W)(a:Kp Y f d c.mem c1.mem)(h:XR Y inp W f fn k1 E d L H c1 r):XR Y inp W f fn k E d L G c r:=by cases r with|ok v b=>exact XO.after U Z a h;|en e b=>exact EO.after U Z h;|no=>trivial
theorem Rch.lt(g:p.f[f]?=S fn)(h:Rch Y f fn k d):k<z (Y.cd f fn):=by have:=(l9.1 h.2).1;rwa [(mid Y g).1.inv.1]at this
theorem Ste.at_(g:p.f[f]?=S fn)(h:Ste Y f fn k d L G c){y}(a:(Y.cd f fn)[k]?=S (y,o)){l}(hl:close env (mK (ab p).f Y.P f d y) (Y.pl f k)=l):At C c.pc l/\Y.pl f (k+1)=c.pc+z l:=by obtain⟨_,U,Z⟩:=h.rch.ins g a;grind[h.pc]
variable(g:p.f[f]?=S fn)
include g
theorem XO.mk{j}(ar:Ste Y f fn k o L G c){t v:Nat}(V:Rn okI C inp D j c c')(l:c'.pc=Y.pl f (k+1))(q:j+Y.pl f k<=Y.pl f (k+1))(b:c'.mem=up c.mem (Y.bs f+d) v)(r:0<=d)(i:Rch Y f fn (k+1) (d+1))(m:c'.rd=ad.rd)(ho:c'.out=ad.out)(n:ad.v=G.v)(e:ad.arrs=G.arrs)(s:ad.tk=G.tk):XO Y inp W f fn k (k+1) d L G c v ad:=by have hd:=ar.rch.dp g;have u:=i.dp g;refine⟨j,c',V,by grind,ar.mv g i l (λa e=>by rw[b];exact iW a7) m ho n e,by rw[b];exact ta,λa e=>by rw[b];exact iW a7⟩
theorem GP{n}(ar:Ste Y f fn k d L G c)(e:(Y.cd f fn)[k]?=S (⟨1,0,0,n⟩,o))(u:0<=n/\n<4294967296):XO Y inp W f fn k (k+1) d L G c n.toNat G:=by
 obtain⟨b,_⟩:=ar.rch.nx g e rfl (j:=k+1) abL;have b:Rch Y f fn (k+1) (d+1):=by rw[show d+1=d-0+1 by omega];exact b
 have hd:=ar.rch.dp g;have v:=b.dp g;have hD:=Y.hD;have m:=(Y.base f fn g).1;have r:=ar.rch.1;by_cases s:65535<n
 .obtain⟨a,i⟩:=ar.at_ g e (l:=[(1,1,0,n%65536),(2,1,0,hi16 n),(17,1,0,Y.bs f+d-0)]) (by show close env (aD (lY 1 n) (ey Y.P f d 1 0)) _=_;unfold lY ey;rw[s5 s,m];rfl);have w:hi16 n=n/65536:=by unfold hi16;omega
  refine XO.mk g ar (t:=0) ((WK Y.dec a.hd).trans ((aay Y.dec a.tl.hd).trans (yM Y.dec (c:=⟨c.pc+1+1,_,_,_,_,_,_,_⟩) a.tl.tl.hd a7 a7))) i.symm abC ?_ r b ar.rd ar.out rfl rfl rfl;grind
 .obtain⟨a,i⟩:=ar.at_ g e (l:=[(1,1,0,n%65536),(17,1,0,Y.bs f+d-0)]) (by show close env (aD (lY 1 n) (ey Y.P f d 1 0)) _=_;unfold lY ey;rw[l4 s,m];rfl);refine XO.mk g ar (t:=0) ((WK Y.dec a.hd).trans (yM Y.dec a.tl.hd a7 a7)) i.symm abC ?_ r b ar.rd ar.out rfl rfl rfl;grind
theorem MH{a}(ar:Ste Y f fn k d L G c)(e:(Y.cd f fn)[k]?=S (⟨2,a,0,0⟩,o))(s:0<=a/\a<Y.bk 0):XO Y inp W f fn k (k+1) d L G c (c.mem a) G:=by
 obtain⟨b,_⟩:=ar.rch.nx g e rfl (j:=k+1) abL;have b:Rch Y f fn (k+1) (d+1):=by rw[show d+1=d-0+1 by omega];exact b
 have hd:=ar.rch.dp g;have u:=b.dp g;have hD:=Y.hD;obtain⟨i,r⟩:=ar.at_ g e (l:=[(16,1,0,a),(17,1,0,Y.bs f+d-0)]) (by show close env (aD (aE 16 1 0 a) (ey Y.P f d 1 0)) _=_;unfold ey;rw[(Y.base f fn g).1];rfl);refine XO.mk g ar (t:=0) ((Av Y.dec i.hd a7 a7).trans (yM Y.dec i.tl.hd a7 a7)) r.symm abC ?_ (ar.rch.1) b ar.rd ar.out rfl rfl rfl;simp
theorem aaG(ar:Ste Y f fn k d L G c)(b:(Y.cd f fn)[k]?=S (⟨12,0,0,0⟩,o)):XO Y inp W f fn k (k+1) d L G c (DO inp G.rd) ⟨G.v,G.arrs,G.out,AW inp G.rd,G.tk⟩:=by
 obtain⟨a,_⟩:=ar.rch.nx g b rfl (j:=k+1) abL;have a:Rch Y f fn (k+1) (d+1):=by rw[show d+1=d-0+1 by omega];exact a
 have hd:=ar.rch.dp g;have r:=a.dp g;have hD:=Y.hD;obtain⟨e,n⟩:=ar.at_ g b (l:=[(23,1,0,0),(17,1,0,Y.bs f+d-0)]) (by show close env (aD (aE 23 1 0 0) (ey Y.P f d 1 0)) _=_;unfold ey;rw[(Y.base f fn g).1];rfl);refine XO.mk g ar (t:=0) ((aaA Y.dec e.hd).trans (yM Y.dec e.tl.hd a7 a7)) n.symm abC ?_ (ar.rch.1) a (by show AW inp c.rd=_;rw[ar.rd]) ar.out rfl rfl rfl;grind[ar.rd]
theorem IA{x}(ar:Ste Y f fn k (d+1) L G c)(e:(Y.cd f fn)[k]?=S (⟨7,0,0,0⟩,o))(i:0<=d)(I:c.mem (Y.bs f+d)=x):XO Y inp W f fn k (k+1) d L G c (if x=0 then 1 else 0) G:=by obtain⟨a,_⟩:=ar.rch.nx g e rfl (j:=k+1) abL;have hd:=ar.rch.dp g;have hD:=Y.hD;obtain⟨b,n⟩:=ar.at_ g e (l:=[(16,1,0,Y.bs f+(d+1)-1),(15,1,1,0),(17,1,0,Y.bs f+(d+1)-1)]) (by show close env (aD (eN Y.P f (d+1) 1 1) (aD (aE 15 1 1 0) (ey Y.P f (d+1) 1 1))) _=_;unfold ey eN;rw[(Y.base f fn g).1];rfl);refine XO.mk g ar (t:=0) ((Av Y.dec b.hd a7 a7).trans ((aaz Y.dec b.tl.hd).trans (yM Y.dec (c:=⟨c.pc+1+1,_,_,_,_,_,_,_⟩) b.tl.tl.hd a7 a7))) n.symm abC ?_ i (by rw[show d+1=d+1-1+1 by omega];exact a) ar.rd ar.out rfl rfl rfl;grind
theorem aeg{op}{x y}(ar:Ste Y f fn k (d+2) L G c)(e:(Y.cd f fn)[k]?=S (⟨6,op,0,0⟩,o))(m:0<=d)(I:c.mem (Y.bs f+d)=x)(n:c.mem (Y.bs f+(d+1))=y):XR Y inp W f fn k (k+1) d L G c (opV op x y G):=by
 unfold opV;split;case isFalse=>trivial
 rename_i ho;obtain⟨b,_⟩:=ar.rch.nx g e rfl (j:=k+1) abL;have hd:=ar.rch.dp g;have hD:=Y.hD;obtain⟨a,u⟩:=ar.at_ g e (l:=[(16,1,0,Y.bs f+(d+2)-2),(16,2,0,Y.bs f+(d+2)-1),(op,1,1,2),(17,1,0,Y.bs f+(d+2)-2)]) (by show close env (aD (eN Y.P f (d+2) 1 2) (aD (eN Y.P f (d+2) 2 1) (aD (aE op 1 1 2) (ey Y.P f (d+2) 1 2)))) _=_;unfold ey eN;rw[(Y.base f fn g).1];rfl);have r:=(Av (inp:=inp) (D:=D) Y.dec a.hd a7 a7).trans (aaw Y.dec a.tl.hd a7 a7);simp only[show Y.bs f+(d+2)-2=Y.bs f+d by omega,show Y.bs f+(d+2)-1=Y.bs f+(d+1) by omega,I,n]at r a;cases i:Mach.applyN op.toNat x y with|some v=>refine XO.mk g ar (t:=0) (r.trans ((aec Y.dec a.tl.tl.hd ho.1 i).trans (yM Y.dec a.tl.tl.tl.hd a7 a7))) u.symm abC rfl m (by rw[show d+1=d+2-2+1 by omega];exact b) ar.rd ar.out rfl rfl rfl;|none=>refine .inr ⟨_,r.re (RE.mono (aed Y.dec (c:=⟨c.pc+1+1,_,_,_,_,_,_,_⟩) a.tl.tl.hd ho.1 i) (l7 1))|>λh=>by rw[<-ar.out];exact h,by grind[ar.pc]⟩
theorem RD{a b}{x v:Nat}(ar:Ste Y f fn k (d+1) L G c)(n:(Y.cd f fn)[k]?=S (⟨4,a,b,0⟩,o))(s:0<=d)(I:c.mem (Y.bs f+d)=x)(y:0<=a/\a+b<=Y.bk 0):if x<b then XO Y inp W f fn k (k+1) d L G c (c.mem (a+x)) G else EO Y inp W f k (k+1) G c 3 G:=by
 obtain⟨i,_⟩:=ar.rch.nx g n rfl (j:=k+1) abL;have hd:=ar.rch.dp g;have hD:=Y.hD;obtain⟨e,w⟩:=ar.at_ g n (l:=[(16,1,0,Y.bs f+(d+1)-1),(25,1,0,b),(16,1,1,a),(17,1,0,Y.bs f+(d+1)-1)]) (by show close env (aD (eN Y.P f (d+1) 1 1) (aD (aE 25 1 0 b) (aD (aE 16 1 1 a) (ey Y.P f (d+1) 1 1)))) _=_;unfold ey eN;rw[(Y.base f fn g).1];rfl);have r:=Av (inp:=inp) (D:=D) Y.dec e.hd a7 a7;simp[show Y.bs f+(d+1)-1=Y.bs f+d by omega,I]at r e;split;.rename_i m;exact XO.mk g ar (t:=0) (r.trans ((Vi Y.dec e.tl.hd m).trans ((adW Y.dec e.tl.tl.hd ZN a7).trans (yM Y.dec e.tl.tl.tl.hd a7 a7)))) w.symm abC rfl s (by rw[show d+1=d+1-1+1 by omega];exact i) ar.rd ar.out rfl rfl rfl
 .rename_i m;exact .inr ⟨_,r.re (Vj Y.dec (c:=⟨c.pc+1,_,_,_,_,_,_,_⟩) e.tl.hd m)|>λh=>by rw[<-ar.out];exact h,by grind[ar.pc]⟩
theorem GQ{r}(ar:Ste Y f fn k d L G c)(e:(Y.cd f fn)[k]?=S (⟨8,(r:Nat),0,0⟩,o)):∃c',Rn okI C inp D 1 c c'/\1+Y.pl f k=Y.pl f (k+1)/\Ste Y f fn r d L G c'/\c'.mem=c.mem:=by
 obtain⟨b,_⟩:=ar.rch.nx g e rfl (j:=r) abL;have b:Rch Y f fn r d:=by rw[show d=d-0+0 by omega];exact b
 obtain⟨i,n⟩:=ar.at_ g e (l:=[(18,0,0,env ((f:Int),(r:Int)))]) (by show close env (aJ 18 0 f r) _=_;rw[ky]);rw[(Y.at_ f fn g).ev r (b.lt g)]at i;refine⟨_,aaB Y.dec i.hd,by grind[ar.pc],ar.mv g b (C0 _) (λa _=>rfl) ar.rd ar.out rfl rfl,rfl⟩
theorem Ck{r x}(ar:Ste Y f fn k (d+1) L G c)(e:(Y.cd f fn)[k]?=S (⟨9,(r:Nat),0,0⟩,o))(y:0<=d)(I:c.mem (Y.bs f+d)=x):∃c',Rn okI C inp D 2 c c'/\2+Y.pl f k=Y.pl f (k+1)/\Ste Y f fn (if x=0 then r else k+1) d L G c'/\c'.mem=c.mem:=by obtain⟨i,_⟩:=ar.rch.nx g e rfl (j:=if x=0 then r else k+1) (by grind[next]);have hd:=ar.rch.dp g;have hD:=Y.hD;have u:=(Y.base f fn g).1;obtain⟨m,v⟩:=ar.at_ g e (l:=[(16,1,0,Y.bs f+(d+1)-1),(19,1,0,env ((f:Int),(r:Int)))]) (by show close env (aD (eN Y.P f (d+1) 1 1) (aJ 19 1 f r)) _=_;simp_all[eN,dr,eT,kx,jb,ky]);rw[(Y.at_ f fn g).ev r (((ar.rch.nx g e rfl (j:=r) abL).1).lt g),show Y.bs f+(d+1)-1=Y.bs f+d by omega]at m;have n:=Av (inp:=inp) (D:=D) Y.dec m.hd a7 a7;rw[I]at n;have B:=ar.pc;simp only[j8,l5]at v;refine⟨_,n.trans (aef Y.dec m.tl.hd),a7,ar.mv g (by rw[show d=d+1-1+0 by omega];exact i) ?_ (λa _=>rfl) ar.rd ar.out rfl rfl,rfl⟩;grind
end Go.Mn


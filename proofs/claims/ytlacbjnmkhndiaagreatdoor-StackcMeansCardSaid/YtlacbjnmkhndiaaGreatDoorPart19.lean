/- A part of the proof; no conditions. -/
import Derived.Test.YtlacbjnmkhndiaaGreatDoorPart18
set_option linter.unusedSimpArgs false
set_option linter.unusedVariables false
set_option linter.defProp false
open List renaming length -> z
open Option renaming some -> S, none -> N
open Bool renaming true -> T, false -> F
set_option maxHeartbeats 64000000
set_option maxRecDepth 100000
namespace Go.Proofs.YtlacbjnmkhndiaaGreatDoor
section
open Go Go.Am Go.Asm
open Go.Src (Ex Stm du)
open Go.Mn (Sg Rs evE dr evS da evW evB ap)
open Go.Mach (applyN)
attribute[local congr]ite_cc
section
section
variable(p:Src.Prog)(inp:Str)(fu gV gA:Nat)(gk:Nat->Nat)
def pq(f:Nat)(L:List Nat)(G:Sg)(a:Nat)(x:Ex)(r:Rs Nat):Prop:=∀(B:Nat)(g:Nat->Nat)(ob:Obs)(X W:Nat),FrM p inp fu gV gA gk B g ob X W f L G a->
 fX Tryz.prog 178 [.one (.ptr 1024 (g 1024) 0),.one (.ptr X (g X) 0),exV x] g ob (Pf p inp fu gV gA X W f L r a G g ob)
end
variable{r:Rs Nat}{L:List Nat}{G:Sg}{g:Nat->Nat}
section
variable{p:Src.Prog}{inp:Str}{fu gV gA:Nat}{gk:Nat->Nat}
def uO{B:Nat}{ob:Obs}{X W f e:Nat}{s:St}{R:AV->(Nat->Nat)->Obs->Prop}{j rs:List AV}(h:FrM p inp fu gV gA gk B g ob X W f L G e)
 (a:∀i,i<B->s.gen i=g i/\s.obj i=ob i)(c:dY B s j rs)(d:R (pack rs) (upd g 1023 (g 1023)) (λi=>pT p inp fu gV gA X W f (g W) (g 1023) G e L N i (ob i))):bi B (SSM p X W) g ob R s j:=
 dv h (λi b=>by rw[(a i b).1,(a i b).2];exact h.same i) c d
def FrM.okm{B:Nat}{g:Nat->Nat}{ob:Obs}{X W f e:Nat}{L:List Nat}{G:Sg}(h:FrM p inp fu gV gA gk B g ob X W f L G e):OkM p inp G:=h.sv.okm h.rd
def runM{B:Nat}{ob:Obs}{X W f a w e e2:Nat}{L bd:List Nat}{b G a6:Sg}{q:Option Nat}{s:St}{l:Obs}(h:FrM p inp fu gV gA gk B g ob X W f L b a)(d:s.obj=upd l 1024 (S (rnM p inp fu gV gA w a6 e2)))(c:a6.vars=G.vars/\a6.arrs=G.arrs/\a6.out=G.out)
 (j:∀i,i<B->s.gen i=upd g 1023 w i/\l i=pT p inp fu gV gA X W f (g W) w G e bd q i (ob i)):∀i,i<B->s.gen i=upd g 1023 w i/\s.obj i=pT p inp fu gV gA X W f (g W) w a6 e2 bd q i (ob i):=λi k=>by
 obtain⟨m,n⟩:=j i k;refine⟨m,?_⟩;obtain⟨P,_⟩:=h.rds;obtain⟨o,b2,t⟩:=c;rw[d];simp only[upd];split
 .rename_i e;subst e;exact(P _ _ _ _ _ _).symm
 .rename_i e
  rw[n];unfold pT pS;rw[j8 e,j8 e,o,b2,t]
def dW.ok{r:Rs Nat}{G H:Sg}{v:Nat}(h:dW r 0 G v H 0):r=.ok v H:=by
 unfold dW at h;rw[l8 rfl]at h;cases r with
 |ok=>obtain⟨rfl,rfl,_⟩:=h;rfl
 |en=>exact absurd h.2.2.symm h.1
 |no=>exact h.elim
def dW.en{r:Rs Nat}{G H:Sg}{v e:Nat}(h:dW r 0 G v H e)(a:e≠0):r=.en e H:=by
 unfold dW at h;rw[l8 rfl]at h;cases r with
 |ok=>exact absurd h.2.2 a
 |en=>obtain⟨_,rfl,rfl⟩:=h;rfl
 |no=>exact h.elim
def dW.stay{G H:Sg}{v a e:Nat}(h:dW r a G v H e)(b:a≠0):H=G/\e=a:=by
 unfold dW at h
 rwa [j8 b]at h
def dW.mk{G H:Sg}{v:Nat}(h:r=.ok v H):dW r 0 G v H 0:=by rw[h];exact⟨rfl,rfl,rfl⟩
def dW.mke{G H:Sg}{v e:Nat}(h:r=.en e H)(a:e≠0):dW r 0 G v H e:=by rw[h];exact⟨a,rfl,rfl⟩
def dW.then{q rb:Rs Nat}{G H a6:Sg}{E d e1 e2:Nat}(a:dW q 0 G E H e1)(b:dW rb e1 H d a6 e2):(e2=0/\q=.ok E H/\rb=.ok d a6/\e1=0)\/(e2≠0/\((q=.ok E H/\rb=.en e2 a6/\e1=0)\/(q=.en e2 a6/\e1≠0))):=by
 by_cases U:e1=0
 .subst U
  by_cases c:e2=0
  .subst c;exact .inl ⟨rfl,a.ok,b.ok,rfl⟩
  .exact .inr ⟨c,.inl ⟨a.ok,b.en c,rfl⟩⟩
 .obtain⟨rfl,rfl⟩:=b.stay U
  exact .inr ⟨U,.inr ⟨a.en U,U⟩⟩
def Nl{f:Nat}{b:Nat}{x:Ex}(c:b≠0):pq p inp fu gV gA gk f L G b x r:=by
 obtain⟨k,o,a,d,e⟩:=x;intro B g ob X W h;refine cM.toR (bI B (SSM p X W) aA mixed Tryz.func178 rfl j0 [.tmp 6] rfl c9 c9 V3 (eU h) h.free λO j l m=>?_);have al:=h.nes;have V:=h.run;have hi:¬(b:Int)=0:=a7;unfold rnM at V;rw[mC];simp only[go_sem,V,al,hi];refine⟨_,ae.refl _,?_⟩;simp only[go_sem];exact uO h loM ez ⟨0,G,b,_,by unfold dW;rw[j8 c];exact⟨rfl,rfl⟩,h.okm,rfl,rfl,rfl⟩
def Ty{f:Nat}{o:Int}{n:Nat}{a:Str}{b:List Ex}:pq p inp fu gV gA gk f L G 0 (.mk 1 o n a b) (.ok n G):=by
 intro B g ob X W h;refine cM.toR (bI B (SSM p X W) aA mixed Tryz.func178 rfl j0 [.tmp 6] rfl c9 c9 V3 (eU h) h.free λO c d e=>?_);have al:=h.nes;have V:=h.run;unfold rnM at V;rw[mC];simp only[go_sem,V,al];refine⟨_,ae.refl _,?_⟩;simp only[go_sem];exact uO h loM ez ⟨n,G,0,_,⟨rfl,rfl,rfl⟩,h.okm,rfl,rfl,rfl⟩
def Wu{n f:Nat}{num:Int}{nm:Str}{a b:Ex}{o:Int}(t:HE p inp fu gV gA gk n)(A:Src.szE a<=1000000/\Src.szE b<=1000000)(V:(evE p (ap p) inp fu n f L G a).bind (λx H=>(evE p (ap p) inp fu n f L H b).bind λy a6=>Mn.opV o x y a6)=r)(u:r≠.no):pq p inp fu gV gA gk f L G 0 (.mk 6 o num nm [a,b]) r:=by
 intro B g ob X W h;refine cM.toR (bI B (SSM p X W) aA mixed Tryz.func178 rfl j0 [.tmp 6] rfl c9 c9 V3 (eU h) h.free λO bn s0 w0=>?_);have al:=h.nes;have P:=h.rds;have hB:=h.hB;have J:=h.run;unfold rnM at J;rw[mC];have bo:evE p (ap p) inp fu n f L G a≠.no:=λe=>by rw[e]at V;exact u V.symm
 simp only[go_sem,J,al,l9,w9];refine⟨aZ a,F2 (aZ a).symm,?_⟩;refine jB aa rfl t h A.1 (λ_=>bo) VM loM (by omega:B<=B+232) (λi hi=>by simp only[upd];(repeat rw[j8 (by omega)]);exact h.free i (by omega)) λE H e1 c A1 K1=>?_
 have m:e1=0->evE p (ap p) inp fu n f L H b≠.no:=λe hq=>by
  subst e;rw[A1.ok]at V;simp only[Rs.bind,hq]at V;exact u V.symm
 simp only[go_sem,al,P,l9,w9];refine⟨aZ b,F2 (aZ b).symm,?_⟩;refine mD (c:=c) (e1:=e1) (b0:=L) aa rfl t h K1 A.2 m VM loM (by omega:B<=B+232) (λi hi=>by simp only[upd];(repeat first|rw[j8 (by omega)]|rw[h.hi (by omega)]);exact h.free i (by omega)) λd a6 j I A2 l=>?_;by_cases he:j=0
 case neg=>
  have hi:¬(j:Int)=0:=a7;simp only[go_sem,al,P,rnM,hi];refine⟨_,ae.refl _,?_⟩;simp only[go_sem];refine dv (w:=I) (e':=j) (ad:=a6) (bd:=L) (r:=N) h loM ez ⟨0,a6,j,I,?_,l,rfl,rfl,rfl⟩;refine dW.mke ?_ he;exact SK
 subst he
 obtain⟨U,h2⟩:evE p (ap p) inp fu n f L G a=.ok E H/\evE p (ap p) inp fu n f L H b=.ok d a6:=by
  exact U1
 rw[U]at V;simp only[Rs.bind,h2,Mn.opV]at V;split at V
 case isFalse=>exact absurd V.symm u
 rename_i ho;obtain⟨o,rfl⟩:∃q:Nat,o=(q:Nat):=⟨o.toNat,a7⟩
 rw[B3]at V;have Q:=zO o E d a7 a7 ho.2.1 ho.2.2;unfold Lv at Q;simp only[go_sem,al,P,rnM];refine DH rfl (by simp only[go_sem,al];exact Q) ?_;rintro _ rfl;cases Z:applyN o E d with
 |some v=>
   rw[Z]at V;simp only[go_sem,al,P];refine⟨_,ae.refl _,?_⟩;simp only[go_sem];exact dv (w:=I) (e':=0) (ad:=a6) (bd:=L) (r:=N) h loM ez ⟨v,a6,0,I,dW.mk V.symm,l,rfl,rfl,rfl⟩
 |none=>
   rw[Z]at V;simp only[go_sem,al,P,rnM];refine⟨_,ae.refl _,?_⟩;simp only[go_sem];exact dv (w:=I) (e':=2) (ad:=a6) (bd:=L) (r:=N) h (runM (G:=a6) (e:=0) h rfl ⟨rfl,rfl,rfl⟩ loM) ez ⟨0,a6,2,I,dW.mke V.symm b9,l,rfl,rfl,rfl⟩
end
end
end
section
open Go Go.Am Go.Asm
open Go.Src (Ex Stm du)
open Go.Mn (Sg Rs evE dr evS da evW evB ap)
attribute[local congr]ite_cc
section
def Ls(b:Bool):ax Tryz.prog 200 [bv b] (·=iv .u32 ((if b=T then 1 else 0:Nat):Nat)):=by
 refine hdP Tryz.func200 rfl [2] λg=>?_;cases b<;>simp only[go_sem]<;>rfl
variable{L:List Nat}{G:Sg}{num o:Int}{m:Str}{r:Rs Nat}{f:Nat}{q:List Ex}
section
variable{p:Src.Prog}{inp:Str}{fu gV gA:Nat}{gk:Nat->Nat}
def Tz{n f:Nat}{a:Ex}(j:HE p inp fu gV gA gk n)(l:Src.szE a<=1000000)(V:(evE p (ap p) inp fu n f L G a).bind (λx H=>.ok (if x=0 then 1 else 0) H)=r)(u:r≠.no):pq p inp fu gV gA gk f L G 0 (.mk 7 o num m [a]) r:=by
 intro B g ob X W h;refine cM.toR (bI B (SSM p X W) aA mixed Tryz.func178 rfl j0 [.tmp 6] rfl c9 c9 V3 (eU h) h.free λO bn s0 w0=>?_);have al:=h.nes;have P:=h.rds;have hB:=h.hB;have d:=h.run;unfold rnM at d;rw[mC];have q:evE p (ap p) inp fu n f L G a≠.no:=λe=>by rw[e]at V;exact u V.symm
 simp only[go_sem,d,al,l9,w9];refine⟨aZ a,F2 (aZ a).symm,?_⟩;refine jB aa rfl j h l (λ_=>q) VM loM (by omega:B<=B+232) (λi hi=>by simp only[upd];(repeat rw[j8 (by omega)]);exact h.free i (by omega)) λE H b c A1 t=>?_;simp only[go_sem,al,P];refine DH rfl (by simp only[go_sem];exact Ls _) ?_;rintro _ rfl;simp only[go_sem];refine⟨_,ae.refl _,?_⟩;simp only[go_sem];refine dv (w:=c) (e':=b) (ad:=H) (bd:=L) (r:=N) h loM ez ⟨_,H,b,c,?_,t,rfl,rfl,rfl⟩;by_cases he:b=0
 .subst he
  refine dW.mk ?_;rw[<-V,A1.ok];show Rs.ok _ _=Rs.ok _ _;congr 1;by_cases U:E=0
  .simp[U]
  .have:¬((E:Nat):Int)=0:=a7
   simp[U,this]
 .exact UG
def Wv{n f:Nat}{a b:Ex}{k:Int}(hk:k=8\/k=9)(hE:HE p inp fu gV gA gk n)(hz:Src.szE a<=1000000/\Src.szE b<=1000000)
 (V:(evE p (ap p) inp fu n f L G a).bind (λx H=>if k=8 then(if x=0 then .ok 0 H else(evE p (ap p) inp fu n f L H b).bind Mn.kD)else if x=0 then(evE p (ap p) inp fu n f L H b).bind Mn.kD else Mn.kD x H)=r)(u:r≠.no):pq p inp fu gV gA gk f L G 0 (.mk k o num m [a,b]) r:=by
 intro B g ob X W h;refine cM.toR (bI B (SSM p X W) aA mixed Tryz.func178 rfl j0 [.tmp 6] rfl c9 c9 V3 (eU h) h.free λO K Q Z=>?_);have al:=h.nes;have P:=h.rds;have hB:=h.hB;have s:=h.run;unfold rnM at s;rw[mC];have v:evE p (ap p) inp fu n f L G a≠.no:=λe=>by rw[e]at V;exact u V.symm
 -- y second one,and y end behind it
 have j:∀(E:Nat)(H:Sg)(e1:Nat),dW (evE p (ap p) inp fu n f L G a) 0 G E H e1->(e1=0->(evE p (ap p) inp fu n f L H b).bind Mn.kD=r)->(e1=0->evE p (ap p) inp fu n f L H b≠.no)/\∀d a6 e2,dW (evE p (ap p) inp fu n f L H b) e1 H d a6 e2->dW r 0 G d a6 e2:=λE H e1 A1 hq=>by
  refine⟨λe A=>u (by rw[<-hq e,A];rfl),λd a6 e2 A2=>?_⟩;rcases A1.then A2 with⟨rfl,U,t,q⟩|⟨he,⟨U,t,q⟩|⟨U,q⟩⟩
  .refine dW.mk ?_
   have:=hq q;rw[t]at this;simp only[Rs.bind,Mn.kD]at this;split at this
   .exact this.symm
   .exact absurd this.symm u
  .exact dW.mke (by rw[<-hq q,t];rfl) he
  .exact dW.mke (by rw[<-V,U];rfl) he
 rcases hk with rfl|rfl
 .simp only[go_sem,s,al,l9,w9]
  refine⟨aZ a,F2 (aZ a).symm,?_⟩;refine jB aa rfl hE h hz.1 (λ_=>v) VM loM (by omega:B<=B+232) (λi hi=>by simp only[upd];(repeat rw[j8 (by omega)]);exact h.free i (by omega)) λE H e1 c A1 K1=>?_;by_cases l:E=0
  .subst l
   simp only[go_sem,al,P];refine⟨_,ae.refl _,?_⟩;simp only[go_sem];refine dv (w:=c) (e':=e1) (ad:=H) (bd:=L) (r:=N) h loM ez ⟨0,H,e1,c,?_,K1,rfl,rfl,rfl⟩;by_cases he:e1=0
   .subst he
    refine dW.mk ?_;rw[<-V,A1.ok];rfl
   .exact UG
  .have J:¬((E:Nat):Int)=0:=a7
   obtain⟨t1,t2⟩:=j E H e1 A1 λe=>by subst e;rw[<-V,A1.ok];simp only[Rs.bind,B1,j8 l]
   simp only[go_sem,al,P,l9,w9,J];exact ld
 .simp only[go_sem,s,al,l9,w9]
  refine⟨aZ a,F2 (aZ a).symm,?_⟩;refine jB aa rfl hE h hz.1 (λ_=>v) VM loM (by omega:B<=B+232) (λi hi=>by simp only[upd];(repeat rw[j8 (by omega)]);exact h.free i (by omega)) λE H e1 c A1 K1=>?_;by_cases l:E=0
  .subst l
   obtain⟨t1,t2⟩:=j 0 H e1 A1 λe=>by subst e;rw[<-V,A1.ok];rfl
   simp only[go_sem,al,P,l9,w9];exact ld
  .have J:¬((E:Nat):Int)=0:=a7
   simp only[go_sem,al,P,J];refine⟨_,ae.refl _,?_⟩;simp only[go_sem];refine dv (w:=c) (e':=e1) (ad:=H) (bd:=L) (r:=N) h loM ez ⟨E,H,e1,c,?_,K1,rfl,rfl,rfl⟩;by_cases he:e1=0
   .subst he
    refine dW.mk ?_;rw[A1.ok]at V;simp only[Rs.bind,j8 l,show ¬(9:Int)=8 by decide,A8,Mn.kD]at V;split at V
    .exact V.symm
    .exact absurd V.symm u
   .exact UG
def HZ{fn:Src.Fn}(hf:p.funcs[f]?=S fn)(s:Str){k i:Nat}(h:ap p f s=S (k,i)):du p fn s=((k:Int),(i:Int)):=by
 unfold ap at h;rw[hf]at h;rw[Src.zF,show Src.aQ (Src.aO p) (Src.aV fn) s=S (k,i)from h]
def TA(V:Mn.Fw (ap p f m) L G=r)(u:r≠.no):pq p inp fu gV gA gk f L G 0 (.mk 2 o num m q) r:=by
 intro B g ob X W h;refine cM.toR (bI B (SSM p X W) aA mixed Tryz.func178 rfl j0 [.tmp 6] rfl c9 c9 V3 (eU h) h.free λO Q Z w0=>?_);have al:=h.nes;have hB:=h.hB;have c:=h.run;have ar:=h.frm;have bz:=h.wds;have E:=h.vrs;have l:=h.sv.gv;obtain⟨fn,Y⟩:=h.fn;obtain⟨H,I,_⟩:=h.sm.fn fn (l6 Y);have hF:=uM p h.sm.v W7 h.sm.f f fn Y H I m;unfold Mn.Fw at V;cases j:ap p f m with
 |none=>rw[j]at V;exact absurd V.symm u
 |some t=>
   obtain⟨k,i⟩:=t;rw[j]at V;rw[HZ Y m j]at hF;rw[bK]at hF;unfold rnM at c;unfold frM at ar;rw[mC];simp only at V;simp only[go_sem,c,al];refine bY aA mixed aa [] [([0],[],[],F),([31],[],[],F),([32],[],[],F),([33],[],[],F),([1],[],[],F),([35],[],[],F),([36],[],[],F),([37],[],[],F),([5],[],[],F),([39],[],[],F),([34,38,40],[],[],F),([41],[],[],F),([30],[],[],F),([30],[],[],F),([42],[],[],F),([43],[],[],T)] 0 rfl c8 rfl b9 ?_;simp only[go_sem]
   iterate 10 (apply aj;(case hg=>first|exact x9|exact⟨_,rfl,by decide,rfl⟩);(case U=>intro s ga w e J;simp only[go_sem,c,ar,al]at J|-;exact J))
   refine aj (v:=.tup [iv .i64 (k:Nat),iv .i64 (i:Nat)]) x9 (λs ga w e J=>?_) ?_
   .exact K3
   iterate 4 (apply aj;(case hg=>first|exact x9|exact⟨_,rfl,by decide,rfl⟩);(case U=>intro s ga w e J;simp only[go_sem]at J|-;exact J))
   refine bZ x9 ?_;intro e x;simp only[go_sem];refine x _ ?_;clear x e;have y:(0:Int)<=(i:Int):=a7;by_cases U:k=1
   .subst U
    rw[l8 rfl]at V;cases hw:L[i]? with
    |none=>rw[hw]at V;exact absurd V.symm u
    |some v=>
      rw[hw]at V;have K:=(l5.1 hw).1;have n:(i:Int)<(z L:Int):=a7;have b:(wM L)[i]?=S (.d (.int .u32 (v:Nat))):=by unfold wM;rw[x8,hw];rfl
      simp only[go_sem,ar,bz,al,y,n,b];exact SZ
   .rw[j8 U]at V
    by_cases A:k=2
    .subst A
     rw[l8 rfl]at V;cases hw:G.vars[i]? with
     |none=>rw[hw]at V;exact absurd V.symm u
     |some v=>
       rw[hw]at V;have K:=(l5.1 hw).1;have b8:=h.sv.vl;have n:(i:Int)<(z p.vars:Int):=a7;have b:(wM G.vars)[i]?=S (.d (.int .u32 (v:Nat))):=by unfold wM;rw[x8,hw];rfl
       simp only[go_sem,c,E,l,al,y,n,b];exact SZ
    .rw[j8 A]at V;exact absurd V.symm u
def TC:pq p inp fu gV gA gk f L G 0 (.mk 5 o num m q) (.ok (Mn.yz inp G.rd) ⟨G.vars,G.arrs,G.out,Mn.vV inp G.rd,G.tk⟩):=by
 intro B g ob X W h;refine cM.toR (bI B (SSM p X W) aA mixed Tryz.func178 rfl j0 [.tmp 6] rfl c9 c9 V3 (eU h) h.free λO t u v=>?_);have al:=h.nes;have hB:=h.hB;have V:=h.run;have x:=h.rd;have y:=h.sm.inp;unfold rnM at V;have hw:=ac (k:=G.rd) a7;have d:IntKind.i64.wrap (((G.rd+1:Nat):Int)-1)=(G.rd:Int):=by rw[wrap_i64]<;>omega
 have bz:(0:Int)<=(G.rd:Int):=a7;rw[mC];simp only[go_sem,V,al];refine aF c8 ?_;by_cases j:G.rd<z inp
 .have l:¬(z inp:Int)<=(G.rd:Int):=a7
  obtain⟨c,Z⟩:=getq j;have H:IntKind.u32.wrap ((c.toNat:Nat):Int)=((c.toNat:Nat):Int):=by have:=c.toNat_lt;rw[IntKind.wrap_u32];omega
  have a:Mn.yz inp G.rd=c.toNat:=by unfold Mn.yz;rw[Z]
  have b:Mn.vV inp G.rd=G.rd+1:=by unfold Mn.vV;rw[Z]
  rw[a,b];simp only[go_sem,V,al,l,hw];refine aF c8 ?_;simp only[go_sem,V,al,d,bz,Z,H];refine⟨_,ae.refl _,?_⟩;simp only[go_sem];refine dv (w:=g 1023) (e':=0) (ad:=⟨G.vars,G.arrs,G.out,G.rd+1,G.tk⟩) (bd:=L) (r:=N) h (runM (G:=G) (e:=0) h rfl ⟨rfl,rfl,rfl⟩ λi hi=>?_) ez ⟨c.toNat,_,0,_,dW.mk rfl,⟨h.okm.1,h.okm.2.1,by show G.rd+1<=_;omega⟩,rfl,rfl,rfl⟩;have:=h.same i;have hk:∀k,(i=B+k)=False:=λk=>by simp;omega
  simp only[upd,hk,A8]at this|-;exact this
 .have l:(z inp:Int)<=(G.rd:Int):=a7
  have Z:inp[G.rd]?=N:=E5 a7;have a:Mn.yz inp G.rd=256:=by unfold Mn.yz;rw[Z]
  have b:Mn.vV inp G.rd=G.rd:=by unfold Mn.vV;rw[Z]
  rw[a,b];simp only[go_sem,V,al,l];refine⟨_,ae.refl _,?_⟩;simp only[go_sem];exact uO h loM ez ⟨256,G,0,_,dW.mk rfl,h.okm,rfl,rfl,rfl⟩
end
end
section
variable{L:List Nat}
section
variable{p:Src.Prog}{inp:Str}{fu gV gA:Nat}{gk:Nat->Nat}
def FrM.arr{B:Nat}{g:Nat->Nat}{ob:Obs}{X W f c i:Nat}{G:Sg}(h:FrM p inp fu gV gA gk B g ob X W f L G c)(b:i<z p.arrays):
  (∀w G e L r o,pT p inp fu gV gA X W f (g W) w G e L r (2000+i) o=S (wM ((G.arrs[i]?).getD [])))/\(2000+i=1023)=False/\(2000+i=1024)=False/\(∀k,(2000+i=B+k)=False)/\(∀k,(B+k=2000+i)=False)/\g (2000+i)=gk i/\g 1021=gA/\ob 1021=S (arM p gk)/\(arM p gk)[i]?=S (.osl (2000+i) (gk i) 1 0 (alM p i)):=by
 have U:=h.hB;have d:=h.hX;have j:=h.hW;have l:=h.sm.a;refine⟨λw G e L r o=>?_,by simp;omega,by simp;omega,λk=>by simp;omega,λk=>by simp;omega,h.sv.gk i b,h.sv.ga,h.sv.ar,?_⟩
 .unfold pT pS
  rw[j8 a7,j8 a7,j8 a7,j8 a7,j8 a7,l8 a7,show 2000+i-2000=i by omega]
 .unfold arM
  rw[x8,Qe b];rfl
def TD{n f:Nat}{G:Sg}{num o:Int}{b:Str}{a:Ex}(hE:HE p inp fu gV gA gk n)(hz:Src.szE a<=1000000){r:Rs Nat}(V:(evE p (ap p) inp fu n f L G a).bind (λj H=>Mn.Fx (ap p f b) H j)=r)(u:r≠.no)(h3:∀k i,ap p f b=S (k,i)->k=3->i<z p.arrays):pq p inp fu gV gA gk f L G 0 (.mk 3 o num b [a]) r:=by
 intro B g ob X W h;refine cM.toR (bI B (SSM p X W) aA mixed Tryz.func178 rfl j0 [.tmp 6] rfl c9 c9 V3 (eU h) h.free λO bn s0 w0=>?_);have al:=h.nes;have P:=h.rds;have hB:=h.hB;have m:=h.run;have ar:=h.frm;obtain⟨fn,Y⟩:=h.fn;obtain⟨ch,cc,_⟩:=h.sm.fn fn (l6 Y);have hF:=uM p h.sm.v W7 h.sm.f f fn Y ch cc b;rw[bK]at hF;unfold rnM at m;unfold frM at ar;rw[mC];have bo:evE p (ap p) inp fu n f L G a≠.no:=λe=>by rw[e]at V;exact u V.symm
 obtain⟨⟨kd,i⟩,b3⟩:∃q:Int×Int,du p fn b=q:=⟨_,rfl⟩
 rw[b3]at hF;simp only at hF;simp only[go_sem,m,al];refine bY aA mixed aa [] [([0],[],[],F),([63],[],[],F),([64],[],[],F),([65],[],[],F),([1],[],[],F),([67],[],[],F),([68],[],[],F),([69],[],[],F),([5],[],[],F),([71],[],[],F),([66,70,72],[],[],F),([73],[],[],F),([62],[],[],F),([62],[],[],F),([74],[],[],F),([75],[],[],T)] 0 rfl c8 rfl b9 ?_;simp only[go_sem]
 iterate 10 (apply aj;(case hg=>first|exact x9|exact⟨_,rfl,by decide,rfl⟩);(case U=>intro fa ga oa A J;simp only[go_sem,m,ar,al]at J|-;exact J))
 refine aj (v:=.tup [iv .i64 kd,iv .i64 i]) x9 (λfa ga oa A J=>?_) ?_
 .exact K3
 iterate 4 (apply aj;(case hg=>first|exact x9|exact⟨_,rfl,by decide,rfl⟩);(case U=>intro fa ga oa A J;simp only[go_sem]at J|-;exact J))
 refine bZ x9 ?_;intro A a';simp only[go_sem];refine a' _ ?_;clear a' A;simp only[go_sem,m,al,l9,w9];refine⟨aZ a,F2 (aZ a).symm,?_⟩;refine jB aa rfl hE h hz (λ_=>bo) VM loM (by omega:B<=B+232) (λi hi=>by simp only[upd];(repeat rw[j8 (by omega)]);exact h.free i (by omega)) λE H K c A1 K1=>?_;by_cases he:K=0
 case neg=>
  have hi:¬(K:Int)=0:=a7;simp only[go_sem,al,P,rnM,hi];refine⟨_,ae.refl _,?_⟩;simp only[go_sem];exact dv (w:=c) (e':=K) (ad:=H) (bd:=L) (r:=N) h loM ez ⟨0,H,K,c,dW.mke (by rw[<-V,A1.en he];rfl) he,K1,rfl,rfl,rfl⟩
 subst he;rw[A1.ok]at V;simp only[Rs.bind,Mn.Fx]at V;cases ht:ap p f b with
 |none=>rw[ht]at V;exact absurd V.symm u
 |some t=>
   obtain⟨k,j⟩:=t;rw[ht]at V;simp only at V;by_cases hk:k=3
   case neg=>rw[j8 hk]at V;exact absurd V.symm u
   subst hk;rw[l8 rfl]at V;by_cases hv:E<4294967296
   case neg=>rw[j8 hv]at V;exact absurd V.symm u
   rw[l8 hv]at V;rw[HZ Y b ht]at b3;cases b3;have hj:=h3 _ _ ht rfl;cases hl:H.arrs[j]? with
   |none=>rw[hl]at V;exact absurd V.symm u
   |some l=>
     rw[hl]at V;obtain⟨Q,q1,q2,q3,q4,q5,q6,q7,q8⟩:=h.arr hj;have bl:=K1.2.1.2 j l hl;have b2:=h.sm.az j;have cv:(0:Int)<=(j:Int):=a7;have y:(j:Int)<(z p.arrays:Int):=a7;have w1:IntKind.u64.wrap ((E:Nat):Int)=(E:Int):=by rw[IntKind.wrap_u64];omega
     have w2:IntKind.u64.wrap ((alM p j:Nat):Int)=(alM p j:Int):=by rw[IntKind.wrap_u64];omega
     simp only[Mn.need]at V;by_cases af:E<z l
     .have Z:¬(alM p j:Int)<=(E:Int):=a7
      have c1:(0:Int)<=(E:Int):=a7;have cx:(E:Int)<(alM p j:Int):=a7;obtain⟨x,I⟩:=getq af;rw[I]at V;have s:(wM l)[E]?=S (.d (.int .u32 (x:Nat))):=by unfold wM;rw[x8,I];rfl
      simp only[go_sem,al,P,rnM,Q,q1,q2,q3,q4,q5,q6,q7,q8,cv,y,w1,w2,Z,c1,cx,hl,A5,s];refine⟨_,ae.refl _,?_⟩;simp only[go_sem];exact dv (w:=c) (e':=0) (ad:=H) (bd:=L) (r:=N) h loM ez ⟨x,H,0,c,dW.mk V.symm,K1,rfl,rfl,rfl⟩
     .have Z:(alM p j:Int)<=(E:Int):=a7
      rw[E5 a7]at V;simp only[go_sem,al,P,rnM,Q,q1,q2,q3,q4,q5,q6,q7,q8,cv,y,w1,w2,Z];refine⟨_,ae.refl _,?_⟩;simp only[go_sem];exact dv (w:=c) (e':=3) (ad:=H) (bd:=L) (r:=N) h (runM (G:=H) (e:=0) h rfl ⟨rfl,rfl,rfl⟩ loM) ez ⟨0,H,3,c,dW.mke V.symm b9,K1,rfl,rfl,rfl⟩
end
end
section
section
variable(p:Src.Prog)(inp:Str)(fu gV gA:Nat)(gk:Nat->Nat)
def WaM(g:Nat->Nat)(ob:Obs)(A:Nat)(vs:List Nat)(y:AV):Prop:=(vs=[]/\y=.one (.d .nsl))\/(y=.one (.osl A (g A) 1 0 (z vs))/\ob A=S (wM vs))
def HB(n:Nat):Prop:=∀(f:Nat)(vs:List Nat)(G:Sg),SmM p inp fu->f<z p.funcs->evB p (ap p) inp fu n f vs G≠.no->G.rd<=z inp->∀(B:Nat)(g:Nat->Nat)(ob:Obs)(A:Nat)(y:AV),3000<=B->3000<=A->A<B->(∀i,B<=i->ob i=N)->SvM p inp fu gV gA gk g ob G 0->WaM g ob A vs y->
 fX Tryz.prog 50 [.one (.ptr 1024 (g 1024) 0),iv .i64 f,y] g ob (λr c Y=>∃v a b w,dW (evB p (ap p) inp fu n f vs G) 0 G v a b/\OkM p inp a/\r=iv .u32 (v:Nat)/\∀i,i≠A->c i=upd g 1023 w i/\Y i=pS p inp fu gV gA w a b i (ob i))
def CU(f:Nat)(L:List Nat)(G:Sg)(a:Str)(b:List Ex)(r:Rs Nat):Prop:=∀(B:Nat)(g:Nat->Nat)(ob:Obs)(X W:Nat),FrM p inp fu gV gA gk B g ob X W f L G 0->
 fX Tryz.prog 180 [.one (.ptr 1024 (g 1024) 0),.one (.ptr X (g X) 0),sv a,eb b] g ob (Pf p inp fu gV gA X W f L r 0 G g ob)
end
variable{L:List Nat}
section
variable{p:Src.Prog}{inp:Str}{fu gV gA:Nat}{gk:Nat->Nat}
def TF{X W f c w y e e' i:Nat}{G ad:Sg}{r:Option Nat}{o:Option (List C)}(b:z p.arrays<=900)(hX:3000<=X)(hW:3000<=W):pS p inp fu gV gA w G e i (pT p inp fu gV gA X W f c y ad e' L r i o)=pT p inp fu gV gA X W f c w G e L r i o:=by
 unfold pT;by_cases U:i=W
 .rw[l8 U,l8 U,qS b (.inl a7)]
 rw[j8 U,j8 U];by_cases a:i=X
 .rw[l8 a,l8 a,qS b (.inl a7)]
 rw[j8 a,j8 a,HV]
def Ew{l:List Ex}{e:Ex}(h:e∈l):Src.szE e<=Src.bc l:=Src.LU h
def Ia{n f gN:Nat}{G:Sg}{nm:Str}{ks:List Ex}(hE:∀m,m<=n->HE p inp fu gV gA gk m)(hB:HB p inp fu gV gA gk n)(hz:Src.bc ks<=1000000)(b3:ap p f nm=S (4,gN))(c1:gN<z p.funcs){r:Rs Nat}
 (V:(dr p (ap p) inp fu n f L G ks).bind (λvs H=>Mn.tick fu H λa6=>evB p (ap p) inp fu n gN vs a6)=r)(u:r≠.no):CU p inp fu gV gA gk f L G nm ks r:=by
 intro B g ob X W h;refine cM.toR (bI B (SSM p X W) aA mixed Tryz.func180 rfl j0 [.tmp 8] rfl c9 c9 (by simp[Tryz.ntmps180]) (eU h) h.free λO bn s0 w0=>?_);have al:=h.nes;have P:=h.rds;have c4:=h.hB;have b':=h.run;have ar:=h.frm;obtain⟨fn,Y⟩:=h.fn;obtain⟨ch,cc,_⟩:=h.sm.fn fn (l6 Y);have hF:=uM p h.sm.v W7 h.sm.f f fn Y ch cc nm;rw[HZ Y nm b3]at hF;rw[bK]at hF;unfold rnM at b';unfold frM at ar;have b6:=Src.IF ks;have b8:dr p (ap p) inp fu n f L G ks≠.no:=λe=>by rw[e]at V;exact u V.symm
 simp only[go_sem,b',al];refine bY aA mixed aa [] [([0],[],[],F),([14],[],[],F),([15],[],[],F),([16],[],[],F),([1],[],[],F),([18],[],[],F),([19],[],[],F),([20],[],[],F),([2],[],[],F),([17,21,22],[],[],F),([23],[],[],F),([13],[],[],F),([13],[],[],F),([24],[],[],F),([25],[],[],T)] 0 rfl c8 rfl b9 ?_;simp only[go_sem]
 iterate 9 (apply aj;(case hg=>first|exact x9|exact⟨_,rfl,by decide,rfl⟩);(case U=>intro fa ga oa K' J;simp only[go_sem,b',ar,al]at J|-;exact J))
 refine aj (v:=.tup [iv .i64 4,iv .i64 gN]) x9 (λfa ga oa K' J=>?_) ?_
 .simp only[go_sem]at J|-
  refine oU aa rfl hF Vy (B:=B+58) (λi hi=>by simp only[upd];(repeat rw[j8 (by omega)]);exact h.free i (by omega)) ?_;exact nn
 iterate 4 (apply aj;(case hg=>first|exact x9|exact⟨_,rfl,by decide,rfl⟩);(case U=>intro fa ga oa K' J;simp only[go_sem]at J|-;exact J))
 refine bZ x9 ?_;intro K' a';simp only[go_sem];refine a' _ ?_;clear a' K';unfold eb;simp only[go_sem]
 refine lK _ (oe (t:=11) (id:=B+41) (sz:=1) Vy) (λmm K=>∃(k:Nat)(E:List Nat)(j:Sg)(Z w:Nat),mm+k=z ks/\z E=k/\OkM p inp j/\
  ((Z=0/\∃m,m<=n/\dr p (ap p) inp fu n f L G ks=(dr p (ap p) inp fu m f L j (ks.drop k)).bind λvs ad=>.ok (E++vs) ad)\/(Z≠0/\dr p (ap p) inp fu n f L G ks=.en Z j))/\
  (∀i,i<B->K.gen i=upd g 1023 w i/\K.obj i=pT p inp fu gV gA X W f (g W) w j Z L N i (ob i))/\(∀i,B+58<=i->K.obj i=N)/\
  K.f 0=.one (.ptr 1024 (g 1024) 0)/\K.f 1=.one (.ptr X (g X) 0)/\K.f 3=.one (.d (.sl (ks.map exD)))/\K.f 10=iv .i64 gN/\K.f 12=iv .i64 k/\K.f 11=.one (.osl (B+41) (K.gen (B+41)) 1 0 k)/\K.obj (B+41)=S (wM E)) (z ks) ?_ ?_
 .refine⟨0,[],G,0,g 1023,rfl,rfl,h.okm,.inl ⟨rfl,n,l7 _,?_⟩,λi hi=>?_,λi hi=>?_,?_⟩
  .cases hq:dr p (ap p) inp fu n f L G ks with
   |ok=>rw[D3,hq];rfl
   |en=>rw[D3,hq];rfl
   |no=>exact absurd hq b8
  .have hk:∀k,(i=B+k)=False:=λk=>by simp;omega
   have:=h.same i;simp only[St.grab,upd,hk,A8]at this|-;exact this
  .simp only[St.grab,upd]
   rw[j8 a7];exact h.free i a7
  .simp only[St.grab]
   simp only[go_sem];rfl
 rintro mm fs g1 av ⟨k,E,j,Z,w,hm,cx,an,hJ,hs,bk,q0,q1,q3,A,I,q,az⟩;simp only at hs bk q0 q1 q3 A I q az;have hw:=ac (k:=k) a7;have x:av 1024=S (rnM p inp fu gV gA w j Z):=by rw[(hs 1024 a7).2];exact P.1 _ _ _ _ _ _
 have o:g1 1024=g 1024:=by rw[(hs 1024 a7).1];rfl
 by_cases af:k<z ks
 .have Q:(k:Int)<(z ks:Int):=a7
  have bf:(0:Int)<=(k:Int):=a7;obtain⟨a,ha⟩:=getq af;have cd:=getD_at (f:=exD) ha;have b:Src.szE a<=1000000:=C8 (Ew (l6 ha)) hz
  -- et c2 fuel c' argument has
  obtain⟨m',cf,cu,l⟩:∃m',m'<=n/\(Z=0->evE p (ap p) inp fu m' f L j a≠.no)/\(Z=0->dr p (ap p) inp fu n f L G ks=(evE p (ap p) inp fu m' f L j a).bind λv H=>(dr p (ap p) inp fu m' f L H (ks.drop (k+1))).bind λvs ad=>.ok ((E++[v])++vs) ad):=by
   rcases hJ with⟨rfl,m,cz,hq⟩|⟨he,_⟩
   .rw[de ha]at hq
    cases m with
    |zero=>rw[dr]at hq;exact absurd hq b8
    |succ m'=>
      rw[dr]at hq
      have cy:dr p (ap p) inp fu n f L G ks=(evE p (ap p) inp fu m' f L j a).bind λv H=>(dr p (ap p) inp fu m' f L H (ks.drop (k+1))).bind λvs ad=>.ok ((E++[v])++vs) ad:=by
       rw[hq];cases evE p (ap p) inp fu m' f L j a with
       |no=>rfl
       |en=>rfl
       |ok v H=>
         simp only[Rs.bind];cases dr p (ap p) inp fu m' f L H (ks.drop (k+1))with
         |no=>rfl
         |en=>rfl
         |ok vs ad=>simp only[u7,I5]
      exact⟨m',a7,λ_ hn=>b8 (by rw[cy,hn];rfl),λ_=>cy⟩
   .exact⟨0,a7,λe=>absurd e he,λe=>absurd e he⟩
  simp only[go_sem,q0,q1,q3,q,I,Q,bf,j6,cd];refine⟨aZ a,F2 (aZ a).symm,?_⟩;refine mD (c:=w) (e1:=Z) (b0:=L) aa rfl (hE m' cf) h an b cu (by simp only[go_sem,q0,q1,cT];rfl) hs (by omega:B<=B+58) bk λv ad e' y A1 K1=>?_;have b5:=uN E;simp only[go_sem,q0,q1,q3,q,I,hw,aW,al,P,az,b5,cx];refine⟨l7 _,⟨b9,a7⟩,?_⟩;refine ah (mm-1) a7 ⟨k+1,E++[v],ad,e',y,a7,by simp;omega,K1,?_,λi hi=>?_,λi hi=>?_,?_⟩
  .by_cases he:Z=0
   .subst he
    by_cases cm:e'=0
    .subst cm
     refine .inl ⟨rfl,m',cf,?_⟩;rw[l rfl,A1.ok];rfl
    .refine .inr ⟨cm,?_⟩
     rw[l rfl,A1.en cm];rfl
   .obtain⟨rfl,rfl⟩:=A1.stay he
    rcases hJ with⟨h0,_⟩|⟨_,hq⟩
    .exact absurd h0 he
    .exact .inr ⟨he,hq⟩
  .have hk:∀k,(i=B+k)=False:=λk=>by simp;omega
   obtain⟨a1,a2⟩:=hs i hi;simp only[upd,hk,A8]at a1|-;rw[a1,a2,zG];refine⟨?_,rfl⟩;split<;>rfl
  .simp only[upd]
   (repeat first|rw[j8 (by omega)]|rw[h.hi (by omega)])
   exact bk i hi
  .simp only[go_sem,q0,q1,q3,A,I,al,P]
   rw[s6 a7];simp[wM]
 .have Q:¬(k:Int)<(z ks:Int):=a7
  by_cases he:Z=0
  case neg=>
   have bs:dr p (ap p) inp fu n f L G ks=.en Z j:=by
    rcases hJ with⟨h0,_⟩|⟨_,hq⟩
    .exact absurd h0 he
    .exact hq
   have ca:¬(Z:Int)=0:=a7;unfold rnM at x;simp only[go_sem,q0,q1,q3,I,Q,j6,x,o,ca];refine⟨_,ae.refl _,?_⟩;simp only[go_sem];exact dv (w:=w) (e':=Z) (ad:=j) (bd:=L) (r:=N) h hs ez ⟨0,j,Z,w,dW.mke (by rw[<-V,bs];rfl) he,an,rfl,rfl,rfl⟩
  subst he
  have b4:dr p (ap p) inp fu n f L G ks=.ok E j:=by
   rcases hJ with⟨_,m,_,hq⟩|⟨h0,_⟩
   .rw[y9 a7]at hq
    cases m with
    |zero=>rw[dr]at hq;exact absurd hq b8
    |succ m=>rw[dr]at hq;rw[hq];simp only[Rs.bind,s7]
   .exact absurd rfl h0
  rw[b4]at V;simp only[Rs.bind,Mn.tick]at V;have cb:=x;unfold rnM at x;simp only[go_sem,q0,q1,q3,I,Q,j6,x,o];refine dj aa rfl (by simp only[go_sem,q0];rw[<-o];exact Bw cb h.sm.fu) ?_;rintro _ g2 bo ⟨rfl,rfl,rfl⟩;by_cases ht:j.tk<fu
  case neg=>
   rw[j8 ht]at V;rw[j8 ht];simp only[go_sem,rnM,q0,o];refine⟨_,ae.refl _,?_⟩;simp only[go_sem];exact dv (w:=w) (e':=5) (ad:=j) (bd:=L) (r:=N) h (runM (G:=j) (e:=0) h rfl ⟨rfl,rfl,rfl⟩ hs) ez ⟨0,j,5,w,dW.mke V.symm b9,an,rfl,rfl,rfl⟩
  rw[l8 ht]at V;rw[l8 ht];have c0:OkM p inp ⟨j.vars,j.arrs,j.out,j.rd,j.tk+1⟩:=an;have bl:=runM (s:=⟨fs,g2,upd av 1024 (S (rnM p inp fu gV gA w ⟨j.vars,j.arrs,j.out,j.rd,j.tk+1⟩ 0))⟩) (G:=j) (e:=0) (e2:=0) h rfl ⟨rfl,rfl,rfl⟩ hs;have cv:=h.re c0 bl (by omega:B<=B+58) (λi hi=>by simp only[upd];rw[j8 a7];exact bk i hi);simp only[go_sem,rnM,q0,A,q,o];refine dj aa rfl (by simp only[go_sem,q0,A,q];rw[<-o];exact hB gN E _ h.sm c1 (by rw[V];exact u) cv.rd (B+58) g2 _ (B+41) _ a7 a7 a7 cv.free cv.sv (.inr ⟨by rw[cx],by simp only[upd];rw[j8 a7];exact az⟩)) ?_;rintro _ g3 b7 ⟨v,ad,e',y,A2,K2,rfl,r4⟩;simp only[go_sem];refine⟨_,ae.refl _,?_⟩;simp only[go_sem];refine dv (w:=y) (e':=e') (ad:=ad) (bd:=L) (r:=N) h (λi hi=>?_) ez ⟨v,ad,e',y,?_,K2,rfl,rfl,rfl⟩
  .obtain⟨a1,a2⟩:=r4 i a7
   obtain⟨b1,b2⟩:=bl i hi;simp only at b1 b2;refine⟨show g3 i=_ from ?_,show b7 i=_ from ?_⟩
   .rw[a1]
    simp only[upd]at b1|-;split
    .rfl
    .rename_i bz;rw[b1,j8 bz]
   .rw[a2]
    exact(congrArg (pS p inp fu gV gA y ad e' i) b2).trans (TF h.sm.a h.hX.1 h.hW.1)
  .rw[V]at A2
   unfold dW at A2|-;rw[l8 rfl]at A2|-;exact A2
end
end
section
section
variable(p:Src.Prog)(inp:Str)(fu gV gA:Nat)(gk:Nat->Nat)
def qT(f:Nat)(L:List Nat)(G:Sg)(s:Stm)(r:Rs (List Nat×Option Nat)):Prop:=∀(B:Nat)(g:Nat->Nat)(ob:Obs)(X W:Nat),FrM p inp fu gV gA gk B g ob X W f L G 0->
 fX Tryz.prog 141 [.one (.ptr 1024 (g 1024) 0),.one (.ptr X (g X) 0),smV s] g ob (RunT p inp fu gV gA X W f L r 0 G g ob)
def HS(n:Nat):Prop:=∀(f:Nat)(L:List Nat)(G:Sg)(s:Stm),Src.szS s<=1000000->evS p (ap p) inp fu n f L G s≠.no->qT p inp fu gV gA gk f L G s (evS p (ap p) inp fu n f L G s)
def HSs(n:Nat):Prop:=∀(f:Nat)(L:List Nat)(G:Sg)(a:Nat)(l:List Stm),Src.aD l<=1000000->(a=0->da p (ap p) inp fu n f L G l≠.no)->∀(B:Nat)(g:Nat->Nat)(ob:Obs)(X W:Nat),FrM p inp fu gV gA gk B g ob X W f L G a->
 fX Tryz.prog 79 [.one (.ptr 1024 (g 1024) 0),.one (.ptr X (g X) 0),eS l] g ob (RunT p inp fu gV gA X W f L (da p (ap p) inp fu n f L G l) a G g ob)
end
variable{r:Rs (List Nat×Option Nat)}{G H:Sg}{L b0:List Nat}{q:Option Nat}
section
variable{p:Src.Prog}{inp:Str}{fu gV gA:Nat}{gk:Nat->Nat}
def er.ok{r:Rs (List Nat×Option Nat)}{G H:Sg}{L b0:List Nat}{q:Option Nat}(h:er r 0 G L b0 q H 0):r=.ok (b0,q) H:=by
 unfold er at h;rw[l8 rfl]at h;cases r with
 |ok x=>obtain⟨rfl,rfl,rfl,_⟩:=h;rfl
 |en=>exact absurd h.2.2.symm h.1
 |no=>exact h.elim
def er.en{r:Rs (List Nat×Option Nat)}{G H:Sg}{L b0:List Nat}{q:Option Nat}{e:Nat}(h:er r 0 G L b0 q H e)(a:e≠0):r=.en e H:=by
 unfold er at h;rw[l8 rfl]at h;cases r with
 |ok=>exact absurd h.2.2.2 a
 |en=>obtain⟨_,rfl,rfl⟩:=h;rfl
 |no=>exact h.elim
def er.mk(h:r=.ok (b0,q) H):er r 0 G L b0 q H 0:=by rw[h];exact⟨rfl,rfl,rfl,rfl⟩
def er.mke{e:Nat}(h:r=.en e H)(a:e≠0):er r 0 G L b0 q H e:=by rw[h];exact⟨a,rfl,rfl⟩
section
variable{O:Bs}{rd:Option Nat}{Φ:St->Am.Loc->List Deferred->World->Prop}
def te(a6:aY O Φ){o:Oper}{s:St}{K:St->Prop}{k:Box K}{args:Array Operand}{tys:Array TypeId}{a f B X W e1 j c:Nat}(ho:o.op=.call ⟨.value (.func a),args,tys⟩){xs:AV}{g:Nat->Nat}{ob:Obs}
 (l:∀(B:Nat)(g:Nat->Nat)(ob:Obs)(X W:Nat),FrM p inp fu gV gA gk B g ob X W f b0 H e1->fX Tryz.prog a [.one (.ptr 1024 (g 1024) 0),.one (.ptr X (g X) 0),xs] g ob (RunT p inp fu gV gA X W f b0 r e1 H g ob))(h:FrM p inp fu gV gA gk B g ob X W f L G j)(m:OkM p inp H)
 (I:args.toList.map s.ev=[.one (.ptr 1024 (g 1024) 0),.one (.ptr X (g X) 0),xs]){b:Nat}(d:∀i,i<B->s.gen i=upd g 1023 c i/\s.obj i=pT p inp fu gV gA X W f (g W) c H e1 b0 N i (ob i))(hB:B<=b)(ar:∀i,b<=i->s.obj i=N){n:Nat}{t:ff}
 (u:∀bd q ad e' w,er r e1 H b0 bd q ad e'->OkM p inp ad->K (St.put ⟨s.f,upd s.gen 1023 w,λi=>pT p inp fu gV gA X W f (g W) w ad e' bd q i (s.obj i)⟩ o.dst uv)):bm (spF Tryz.prog rd O Φ n t) o s k:=by
 have U:=h.hB;have E:=h.hX;have J:=h.hW;have e:∀i,i<B->i≠1023->s.gen i=g i:=λi v x=>by rw[(d i v).1];exact j8 x
 refine dj a6 ho (by rw[I,<-e 1024 a7 b9,<-e X a7 a7];exact l b s.gen s.obj X W (h.re m d hB ar)) ?_;rintro _ _ _ ⟨bd,q,ad,e',w,y,A,rfl,rfl,rfl⟩;rw[e W a7 a7];exact u bd q ad e' w y A
end
def Lt{n:Nat}(hS:∀m,m<n->HS p inp fu gV gA gk m):HSs p inp fu gV gA gk n:=by
 intro f L G e0 l hz u B g ob X W h;refine cM.toR (bI B (SSM p X W) aA mixed Tryz.func79 rfl j0 [] rfl c9 c9 (by simp[Tryz.ntmps79]) (eU h) h.free λO bn s0 w0=>?_);have al:=h.nes;have P:=h.rds;have hB:=h.hB;have hX:=h.hX;have bl:=Src.IG l;unfold eS;simp only[go_sem]
 refine aw (λmm K=>∃(k:Nat)(t:List Nat)(j:Sg)(Z:Nat)(Y:Option Nat)(w:Nat),mm+k=z l/\OkM p inp j/\
  ((Z=0/\Y=N/\e0=0/\∃m,m<=n/\da p (ap p) inp fu n f L G l=da p (ap p) inp fu m f t j (l.drop k))\/((Z≠0\/Y≠N)/\er (da p (ap p) inp fu n f L G l) e0 G L t Y j Z))/\
  (∀i,i<B->K.gen i=upd g 1023 w i/\K.obj i=pT p inp fu gV gA X W f (g W) w j Z t Y i (ob i))/\(∀i,B<=i->K.obj i=N)/\
  K.f 0=.one (.ptr 1024 (g 1024) 0)/\K.f 1=.one (.ptr X (g X) 0)/\K.f 2=.one (.d (.sl (l.map smD)))/\K.f 6=iv .i64 k) (z l) ?_ ?_
 .refine⟨0,L,G,e0,N,g 1023,rfl,h.okm,?_,λi hi=>h.same i,h.free,?_⟩
  .by_cases E:e0=0
   .exact .inl ⟨E,rfl,E,n,l7 _,by rw[D3]⟩
   .exact .inr ⟨.inl E,by unfold er;rw[j8 E];exact⟨rfl,rfl,rfl,rfl⟩⟩
  .exact hx
 rintro mm fs g1 av ⟨k,t,j,Z,Y,w,hm,an,hJ,I,bk,V,q1,q2,q6⟩;simp only at I bk V q1 q2 q6;have hw:=ac (k:=k) a7;have x:av 1024=S (rnM p inp fu gV gA w j Z):=by rw[(I 1024 a7).2];exact P.1 _ _ _ _ _ _
 have eX:av X=S (frM f W (g W) (z t) Y):=by rw[(I X hX.2).2];exact P.2.2.2.2.2.1 _ _ _ _ _ _
 have o:g1 1024=g 1024:=by rw[(I 1024 a7).1];rfl
 have gX:g1 X=g X:=by rw[(I X hX.2).1];exact j8 a7
 unfold rnM at x;unfold frM at eX;rcases hJ with⟨rfl,rfl,a',m,cz,J⟩|⟨hJ,A⟩
 case inr=>
  have bs:∀ar,bi B (SSM p X W) g ob (RunT p inp fu gV gA X W f L (da p (ap p) inp fu n f L G l) e0 G g ob) ⟨ar,g1,av⟩ []:=λar=>
   dv (w:=w) (e':=Z) (ad:=j) (bd:=t) (r:=Y) h I fG ⟨t,Y,j,Z,w,A,an,rfl,rfl,rfl⟩
  by_cases af:k<z l
  .have Q:(k:Int)<(z l:Int):=a7
   by_cases E:Z=0
   .obtain⟨v,rfl⟩:∃v,Y=S v:=by
     cases Y with
     |none=>rcases hJ with U|U<;>exact absurd (by first|exact E|rfl) U
     |some v=>exact⟨v,rfl⟩
    subst E;simp only[go_sem,V,q1,q2,q6,j6,Q,x,eX,o,gX,C6];exact⟨_,ae.refl _,bs _⟩
   .have ca:¬(Z:Int)=0:=a7
    simp only[go_sem,V,q1,q2,q6,j6,Q,x,eX,o,gX,ca];exact⟨_,ae.refl _,bs _⟩
  .have Q:¬(k:Int)<(z l:Int):=a7
   simp only[go_sem,V,q1,q2,q6,j6,Q,x,eX,o,gX];exact⟨_,ae.refl _,bs _⟩
 have s:=u a';rw[J]at s;by_cases af:k<z l
 case neg=>
  have Q:¬(k:Int)<(z l:Int):=a7;simp only[go_sem,V,q1,q2,q6,j6,Q,x,eX,o,gX]
  have hA:er (da p (ap p) inp fu n f L G l) e0 G L t N j 0:=by
   rw[a'];refine er.mk ?_;rw[J,y9 a7];rw[y9 a7]at s;cases m with
   |zero=>rw[da]at s;exact absurd rfl s
   |succ m=>rw[da]
  exact⟨_,ae.refl _,dv (w:=w) (e':=0) (ad:=j) (bd:=t) (r:=N) h I fG ⟨t,N,j,0,w,hA,an,rfl,rfl,rfl⟩⟩
 have Q:(k:Int)<(z l:Int):=a7;have bf:(0:Int)<=(k:Int):=a7;obtain⟨a,ha⟩:=getq af;have cd:=getD_at (f:=smD) ha;have b:Src.szS a<=1000000:=C8 (Src.LV (l6 ha)) hz;rw[de ha]at J s;cases m with
 |zero=>rw[da]at s;exact absurd rfl s
 |succ m=>
   rw[da]at J s;have bo:evS p (ap p) inp fu m f t j a≠.no:=λe=>by rw[e]at s;exact s rfl
   simp only[go_sem,V,q1,q2,q6,j6,Q,bf,x,eX,o,gX,cd,D8];refine⟨kX a,F2 (kX a).symm,?_⟩;refine te (c:=w) (e1:=0) (b0:=t) aa rfl (hS m a7 f t j a b bo) h an (by simp only[go_sem,V,q1,Ev];rfl) I (l7 B) bk λbd q ad e' y A1 K1=>?_;simp only[go_sem,q6,hw];refine ah (mm-1) a7 ⟨k+1,bd,ad,e',q,y,a7,K1,?_,λi hi=>?_,λi hi=>?_,?_⟩
   .by_cases E:e'=0
    .subst E
     rw[A1.ok]at J;cases q with
     |none=>exact .inl ⟨rfl,rfl,a',m,a7,J⟩
     |some v=>exact .inr ⟨.inr a8,by rw[a'];exact er.mk J⟩
    .rw[A1.en E]at J
     exact .inr ⟨.inl E,by rw[a'];exact er.mke J E⟩
   .obtain⟨a1,a2⟩:=I i hi
    simp only[upd]at a1|-;rw[a1,a2,zG];refine⟨?_,rfl⟩;split<;>rfl
   .simp only
    rw[h.hi hi];exact bk i hi
   .simp only[go_sem,V,q1,q2]
def SvM.congr{g g2:Nat->Nat}{ob b:Obs}{G:Sg}{e:Nat}(c:z p.arrays<=900)(h:SvM p inp fu gV gA gk g ob G e)(a:∀i,i<3000->g2 i=g i/\b i=ob i):SvM p inp fu gV gA gk g2 b G e:=by
 refine⟨λi=>?_,by rw[(a _ a7).1];exact h.gv,by rw[(a _ a7).1];exact h.ga,by rw[(a _ a7).2];exact h.ar,λk d=>by rw[(a _ a7).1];exact h.gk k d,h.vl,h.al⟩;by_cases f:i<3000
 .rw[(a i f).2,(a 1023 a7).1];exact h.fix i
 .exact(qS c (.inl a7)).symm
def Pg{B w e i:Nat}{G:Sg}{o:Option (List C)}{cells:List C}(hB:3000<=B)(d:i=1024\/i=1023\/i=1022\/(2000<=i/\i<2000+z p.arrays))(Z:pS p inp fu gV gA w G e i o=S cells):∀c∈cells,kQ B c:=by
 have a:∀l:List Nat,∀c∈wM l,kQ B c:=λl c Z=>by obtain⟨b,_,rfl⟩:=E3.1 Z;trivial
 intro c E;unfold pS at Z;split at Z
 .exact SQ
 split at Z
 .cases Z
  obtain⟨b,_,rfl⟩:=E3.1 E;trivial
 split at Z
 .cases Z;exact a _ c E
 split at Z
 .cases Z;exact a _ c E
 .omega
def Ph{n:Nat}(hS:HSs p inp fu gV gA gk n):HB p inp fu gV gA gk (n+1):=by
 intro f vs G sm b3 u b7 B g ob A y hB hA cm bk sv bz;obtain⟨fn,Y⟩:∃fn,p.funcs[f]?=S fn:=⟨_,v8 b3⟩
 obtain⟨ch,cc,l⟩:=sm.fn fn (l6 Y);obtain⟨r,V⟩:∃r,evB p (ap p) inp fu (n+1) f vs G=r:=⟨_,rfl⟩
 rw[V]at u|-;rw[evB,Y]at V;simp only[Mn.need]at V;by_cases b8:z vs=z fn.params
 case neg=>rw[j8 b8]at V;exact absurd V.symm u
 rw[l8 b8]at V;have bo:=sm.a;have cb:=getD_at (f:=fnD) Y;rw[show fnD fn=[.str fn.name,.sl (fn.params.map λs=>[.str s]),.sl (fn.locals.map λs=>[.str s]),.bool fn.word,.sl (fn.body.map smD)]from rfl]at cb;have h:(f:Int)<(z p.funcs:Int):=a7;have ca:(0:Int)<=(f:Int):=a7;have b':ob 1024=S (rnM p inp fu gV gA (g 1023) G 0):=sv.fix 1024
 obtain⟨W,H,L⟩:∃W H,(W=B+25/\H=1024/\vs=[]/\y=.one (.d .nsl))\/(W=A/\H=A/\y=.one (.osl A (g A) 1 0 (z vs))/\ob A=S (wM vs)):=by
  rcases bz with⟨U,h2⟩|⟨U,h2⟩
  .exact⟨_,_,.inl ⟨rfl,rfl,U,h2⟩⟩
  .exact⟨_,_,.inr ⟨rfl,rfl,U,h2⟩⟩
 have cu:(W=B+25/\H=1024)\/(W=A/\H=A):=by rcases L with U|U<;>omega
 have cv:3000<=W/\W<B+46/\W≠B+29/\W≠B+24:=by rcases L with U|U<;>omega
 have w1:(W=B+24)=False:=by simp;omega
 have w2:(B+24=W)=False:=by simp;omega
 have w3:(W=B+29)=False:=by simp;omega
 have w4:(B+29=W)=False:=by simp;omega
 have n1:=λk=>Lo (B:=B) (a:=1024) a7 k;have n2:=λk=>Lp (B:=B) (a:=1024) a7 k;have n3:(W=1024)=False:=by simp;omega
 have n4:(1024=W)=False:=by simp;omega
 obtain⟨ar,v⟩:∃ar:List Nat,ar=SSM p H H:=⟨_,rfl⟩
 have af:∀i∈ar,i<B:=λi hi=>by
  rw[v]at hi;exact u1
 refine cM.toR (bI B ar aA mixed Tryz.func50 rfl j0 [.tmp 6] rfl c9 c9 (by simp[Tryz.ntmps50]) af bk λO bn s0 w0=>?_)
 -- c' words,o an object,at c' a' head
 have X:∃s1,ae ⟨upd (upd (cW [.one (.ptr 1024 (g 1024) 0),iv .i64 f,y]) 6 (iv .u32 0)) 7 (iv .i64 0),g,ob⟩ s1/\s1.f 0=.one (.ptr 1024 (g 1024) 0)/\s1.f 1=iv .i64 f/\s1.f 7=iv .i64 0/\s1.f 2=.one (.osl W (s1.gen W) 1 0 (z vs))/\s1.obj W=S (wM vs)/\(∀i,i<B->i≠W->s1.gen i=g i/\s1.obj i=ob i)/\∀i,B+46<=i->s1.obj i=N:=by
  rcases L with⟨rfl,rfl,rfl,rfl⟩|⟨rfl,rfl,rfl,ho⟩
  .refine⟨_,oe (t:=2) (id:=B+25) (sz:=1) rfl,rfl,rfl,rfl,?_,?_,λi hi hn=>?_,λi hi=>?_⟩
   .simp[St.grab,upd]
   .simp[St.grab,upd,wM]
   .simp only[St.grab,upd];rw[j8 hn,j8 hn];exact⟨rfl,rfl⟩
   .simp only[St.grab,upd];rw[j8 a7];exact bk i a7
  .exact⟨_,ae.refl _,rfl,rfl,rfl,rfl,ho,λi _ _=>⟨rfl,rfl⟩,λi hi=>bk i a7⟩
 obtain⟨s1,hv,p0,p1,p7,p2,pW,ps,pf⟩:=X;simp only[go_sem];refine lK s1 hv (λm K=>∃k,m+k=z fn.locals/\K.f 0=.one (.ptr 1024 (g 1024) 0)/\K.f 1=iv .i64 f/\K.f 7=iv .i64 k/\(∀i,i<B->i≠W->K.gen i=g i/\K.obj i=ob i)/\(∀i,B+46<=i->K.obj i=N)/\K.f 2=.one (.osl W (K.gen W) 1 0 (z vs+k))/\K.obj W=S (wM (vs++List.replicate k 0))) (z fn.locals) ?_ ?_
 .exact⟨0,rfl,p0,p1,p7,ps,pf,p2,by rw[L1,s7];exact pW⟩
 clear hv p0 p1 p7 p2 pW ps pf s1;rintro m fs g1 av ⟨k,hm,q0,q1,q7,hs,az,q2,oW⟩;simp only at q0 q1 q7 hs az q2 oW;have hw:=ac (k:=k) a7;have b1:av 1024=S (rnM p inp fu gV gA (g 1023) G 0):=by rw[(hs 1024 a7 a7).2];exact b'
 have b6:=(hs 1024 a7 a7).1;unfold rnM at b1;have b0:z (vs++List.replicate k 0)=z vs+k:=a8;by_cases bs:k<z fn.locals
 .have Q:(k:Int)<(z fn.locals:Int):=a7
  have b5:=uN (vs++List.replicate k 0);simp only[go_sem,q0,q1,q2,q7,b1,b6,j6,h,ca,cb,Q,hw,aW,oW,b5,b0,w1,w2];refine⟨l7 _,⟨b9,a7⟩,?_⟩;refine ah (m-1) a7 ⟨k+1,a7,?_⟩;simp only[go_sem,q0,q1,q7];refine⟨λi hi hA=>?_,λi hi=>?_,rfl,?_⟩
  .rw[j8 hA,j8 a7,j8 hA,j8 a7]
   exact hs i hi hA
  .rw[j8 a7,j8 a7]
   exact az i hi
  .rw[s6 a7,List.replicate_succ',<-u7]
   simp[wM]
 .have Q:¬(k:Int)<(z fn.locals:Int):=a7
  obtain rfl:k=z fn.locals:=a7;simp only[go_sem,q0,q1,q2,q7,b1,b6,j6,h,ca,cb,Q,n1,n2,w3,w4];have cd:da p (ap p) inp fu n f (vs++List.replicate (z fn.locals) 0) G fn.body≠.no:=λe=>by rw[e]at V;exact u V.symm
  obtain⟨x,I⟩:∃x,nxC 169 (g1 (B+29))=x:=⟨_,rfl⟩
  have e1:upd g1 (B+29) x (B+29)=x:=l8 rfl;have e2:upd g1 (B+29) x 1024=g 1024:=(j8 a7).trans b6
  have hF:FrM p inp fu gV gA gk (B+46) (upd g1 (B+29) x) (upd av (B+29) (S (frM f W (g1 W) (z vs+z fn.locals) N))) (B+29) W f (vs++List.replicate (z fn.locals) 0) G 0:=
   ⟨a7,sm,⟨fn,Y⟩,a7,a7,a7,λi hi=>by simp only[upd];rw[j8 a7];exact az i hi,sv.congr bo λi hi=>by simp only[upd];rw[j8 a7,j8 a7];exact hs i a7 a7,by simp only[upd,w3,B1,A8,b0],by simp only[upd,w3,A8];exact oW,b7⟩
  have al:=hS f (vs++List.replicate (z fn.locals) 0) G 0 fn.body l (λ_=>cd) (B+46) _ _ (B+29) W hF;rw[e1,e2]at al;rw[I];refine dj aa rfl (by simp only[go_sem,q0];exact al) ?_;rintro _ _ _ ⟨bd,q,ad,e',w,A1,K1,rfl,rfl,rfl⟩;obtain⟨_,_,_,_,_,P,_⟩:=hF.rds;have cf:upd g1 (B+29) x W=g1 W:=j8 a7;rw[cf]at P|-;have z1:(B+29=1023)=False:=by simp;omega
  simp only[go_sem,P,frM,e1,z1];refine⟨_,ae.refl _,?_⟩;simp only[go_sem]
  have j:∀i,i<B->i≠W->upd (upd g1 (B+29) x) 1023 w i=upd g 1023 w i/\pT p inp fu gV gA (B+29) W f (g1 W) w ad e' bd q i (upd av (B+29) (S (frM f W (g1 W) (z vs+z fn.locals) N)) i)=pS p inp fu gV gA w ad e' i (ob i):=λi hi hn=>by
   obtain⟨a1,a2⟩:=hs i hi hn;refine⟨?_,?_⟩
   .simp only[upd]
    split
    .rfl
    .rw[j8 a7];exact a1
   .unfold pT
    rw[j8 hn,j8 a7];congr 1;simp only[upd];rw[j8 a7];exact a2
  have bf:∀i,i∈ar->i≠W->i=1024\/i=1023\/i=1022\/(2000<=i/\i<2000+z p.arrays):=λi hi hn=>by
   rw[v]at hi;exact u1
  have J:∀i,i∉ar->i≠1024/\i≠1023/\i≠1022/\i≠H/\¬(2000<=i/\i<2000+z p.arrays):=λi hi=>by
   rw[v]at hi;simp only[SSM,C4,A3,A9,E6,E3,D5,R7]at hi;obtain⟨⟨a1,a2,E,a4,_⟩,a6⟩:=hi;exact⟨a1,a2,E,a4,λhq=>a6 ⟨i-2000,a7,a7⟩⟩
  have bl:∀i,i∉ar->pS p inp fu gV gA w ad e' i (ob i)=ob i:=λi hi=>by
   obtain⟨a1,a2,E,_,a5⟩:=J i hi;unfold pS;rw[j8 a1,j8 a2,j8 E,j8 a5]
  refine⟨⟨λi hi hn=>?_,λi hi cells Z=>?_⟩,[iv .u32 (q.getD 0:Nat)],ez,q.getD 0,ad,e',w,?_,K1,rfl,λi cx=>⟨?_,?_⟩⟩
  .obtain⟨_,b2,_,b4,_⟩:=J i hn
   obtain⟨a1,a2⟩:=j i hi a7;exact⟨a1.trans (j8 b2),a2.trans (bl i hn)⟩
  .by_cases hW:i=W
   .have Z:pT p inp fu gV gA (B+29) W f (g1 W) w ad e' bd q i (upd av (B+29) (S (frM f W (g1 W) (z vs+z fn.locals) N)) i)=S cells:=Z
    unfold pT at Z;rw[l8 hW]at Z;cases Z;intro c Z;obtain⟨b,_,rfl⟩:=E3.1 Z;trivial
   .exact Pg hB (bf i hi hW) ((j i (af i hi) hW).2.symm.trans Z)
  .by_cases he:e'=0
   .subst he
    exact dW.mk (by rw[<-V,A1.ok];rfl)
   .exact UG
  .unfold je
   split
   .rename_i hi
    exact(j i (af i hi) (by have:=af i hi;omega)).1
   .rename_i hi
    exact(j8 (J i hi).2.1).symm
  .unfold eY
   split
   .rename_i hi
    exact(j i (af i hi) (by have:=af i hi;omega)).2
   .rename_i hi
    exact(bl i hi).symm
end
end
section
variable{B:Nat}{g:Nat->Nat}{ob:Obs}{L:List Nat}{G:Sg}{m el:List Stm}{r:Rs (List Nat×Option Nat)}
section
variable{p:Src.Prog}{inp:Str}{fu gV gA:Nat}{gk:Nat->Nat}
def Pi{X W f a w e e2 j:Nat}{y:List C}{L bd Q:List Nat}{b G a6:Sg}{q q2:Option Nat}{s:St}{l:Obs}(h:FrM p inp fu gV gA gk B g ob X W f L b a)(c:s.obj=upd l j (S y))(U:∀o,pT p inp fu gV gA X W f (g W) w a6 e2 Q q2 j o=S y)
 (d:∀i o,i≠j->pT p inp fu gV gA X W f (g W) w a6 e2 Q q2 i o=pT p inp fu gV gA X W f (g W) w G e bd q i o)(k:∀i,i<B->s.gen i=upd g 1023 w i/\l i=pT p inp fu gV gA X W f (g W) w G e bd q i (ob i)):∀i,i<B->s.gen i=upd g 1023 w i/\s.obj i=pT p inp fu gV gA X W f (g W) w a6 e2 Q q2 i (ob i):=λi m=>by
 obtain⟨n,t⟩:=k i m;refine⟨n,?_⟩;rw[c];simp only[upd];split
 .rename_i e;subst e;exact(U _).symm
 .rename_i e;rw[t,d i _ e]
def TG{X W f e e':Nat}{L bd:List Nat}{G ad:Sg}{r:Option Nat}{s:St}{R:AV->(Nat->Nat)->Obs->Prop}{j rs:List AV}(h:FrM p inp fu gV gA gk B g ob X W f L G e)
 (b:∀i,i<B->i≠1023->s.gen i=g i)(ho:∀i,i<B->s.obj i=pT p inp fu gV gA X W f (g W) (s.gen 1023) ad e' bd r i (ob i))(c:dY B s j rs)(d:∀w,R (pack rs) (upd g 1023 w) (λi=>pT p inp fu gV gA X W f (g W) w ad e' bd r i (ob i))):bi B (SSM p X W) g ob R s j:=
 dv (w:=s.gen 1023) h (λi a=>⟨by
  simp only[upd];split
  .rename_i e;rw[e]
  .rename_i e;exact b i a e,ho i a⟩) c (d _)
def FrM.frX{X W f e:Nat}(h:FrM p inp fu gV gA gk B g ob X W f L G e):ob X=S [.d (.int .i64 (f:Nat)),.osl W (g W) 1 0 (z L),.d (.bool F),.d (.int .u32 ((0:Nat):Nat))]:=h.frm
def FK{n f:Nat}{b:Str}{a:Ex}(hE:HE p inp fu gV gA gk n)(hz:Src.szE a<=1000000)(V:(evE p (ap p) inp fu n f L G a).bind (λv H=>Mn.Fy (ap p f b) L H v)=r)(u:r≠.no):qT p inp fu gV gA gk f L G (.mk 1 b [a] m el) r:=by
 intro B g ob X W h;refine cM.toR (bI B (SSM p X W) aA mixed Tryz.func141 rfl j0 [] rfl c9 c9 V9 (eU h) h.free λO bn s0 w0=>?_);have al:=h.nes;have P:=h.rds;have hB:=h.hB;have ar:=h.frX;obtain⟨fn,Y⟩:=h.fn;obtain⟨ch,cc,_⟩:=h.sm.fn fn (l6 Y);have s:=uM p h.sm.v W7 h.sm.f f fn Y ch cc b;rw[bK]at s;rw[nT];have bo:evE p (ap p) inp fu n f L G a≠.no:=λe=>by rw[e]at V;exact u V.symm
 simp only[go_sem,l9,w9];refine⟨aZ a,F2 (aZ a).symm,?_⟩;refine jB aa rfl hE h hz (λ_=>bo) VM loM (by omega:B<=B+251) (λi hi=>by simp only[upd];(repeat rw[j8 (by omega)]);exact h.free i (by omega)) λE H e1 c A1 K1=>?_;by_cases he:e1=0
 case neg=>
  exact tp
 subst he;rw[A1.ok]at V;simp only[Rs.bind,Mn.Fy]at V;cases A:ap p f b with
 |none=>rw[A]at V;exact absurd V.symm u
 |some t=>
   obtain⟨k,j⟩:=t;rw[A]at V;simp only at V;rw[HZ Y b A]at s;simp only at s;have K:(0:Int)<=(j:Int):=a7;simp only[go_sem,al,P,rnM];refine bY aA mixed aa [] [([0],[],[],F),([33],[],[],F),([34],[],[],F),([35],[],[],F),([1],[],[],F),([37],[],[],F),([38],[],[],F),([39],[],[],F),([5],[],[],F),([41],[],[],F),([36,40,42],[],[],F),([43],[],[],F),([32],[],[],F),([32],[],[],F),([44],[],[],F),([45],[],[],T)] 0 rfl c8 rfl b9 ?_;simp only[go_sem]
   iterate 10 (apply aj;(case hg=>first|exact x9|exact⟨_,rfl,by decide,rfl⟩);(case U=>intro Q ga Z x J;simp only[go_sem,rnM,frM,al,P]at J|-;exact J))
   refine aj (v:=.tup [iv .i64 (k:Nat),iv .i64 (j:Nat)]) x9 (λQ ga Z x J=>?_) ?_
   .simp only[go_sem]at J|-
    refine oU aa rfl s Vy (B:=B+251) (λi hi=>by simp only[upd];(repeat first|rw[j8 (by omega)]|rw[h.hi (by omega)]);exact h.free i (by omega)) ?_;exact nn
   iterate 4 (apply aj;(case hg=>first|exact x9|exact⟨_,rfl,by decide,rfl⟩);(case U=>intro Q ga Z x J;simp only[go_sem]at J|-;exact J))
   refine bZ x9 ?_;intro x a';simp only[go_sem];refine a' _ ?_;clear a' x;by_cases U:k=1
   .subst U
    rw[l8 rfl]at V;by_cases hi:j<z L
    case neg=>rw[j8 hi]at V;exact absurd V.symm u
    rw[l8 hi]at V;have y:(j:Int)<(z L:Int):=a7;have I:=uN L;simp only[go_sem,frM,al,P,K,y,I];refine⟨a7,?_⟩;refine⟨_,ae.refl _,?_⟩;simp only[go_sem];refine dv (w:=c) (e':=0) (ad:=H) (bd:=L.set j E) (r:=N) h (Pi (G:=H) (e:=0) (bd:=L) (q:=N) (j:=W) h rfl (λo=>?_) (λi o d=>?_) loM) fG ⟨_,N,H,0,c,er.mk V.symm,K1,rfl,rfl,rfl⟩
    .rw[P.2.2.2.2.2.2]
     simp[wM,Mu]
    .unfold pT
     rw[j8 d,j8 d,C2]
   .rw[j8 U]at V
    by_cases h2:k=2
    case neg=>rw[j8 h2]at V;exact absurd V.symm u
    subst h2;rw[l8 rfl]at V;by_cases hi:j<z H.vars
    case neg=>rw[j8 hi]at V;exact absurd V.symm u
    rw[l8 hi]at V;have b8:=K1.1;have l:=h.sv.gv;have y:(j:Int)<(z p.vars:Int):=a7;have I:=uN H.vars;simp only[go_sem,rnM,al,P,K,y,I,l];refine⟨a7,?_⟩;refine⟨_,ae.refl _,?_⟩;simp only[go_sem];refine dv (w:=c) (e':=0) (ad:=⟨H.vars.set j E,H.arrs,H.out,H.rd,H.tk⟩) (bd:=L) (r:=N) h (Pi (G:=H) (e:=0) (bd:=L) (q:=N) (j:=1022) h rfl (λo=>?_) (λi o d=>?_) loM) fG ⟨L,N,_,0,c,er.mk V.symm,⟨by simp only[C2];exact b8,K1.2.1,K1.2.2⟩,rfl,rfl,rfl⟩
    .rw[P.2.2.1]
     simp[wM,Mu]
    .unfold pT pS
     rw[j8 d,j8 d];rfl
def FL{n f:Nat}{d:Str}{a:Ex}(o:HE p inp fu gV gA gk n)(q:Src.szE a<=1000000)(V:(evE p (ap p) inp fu n f L G a).bind (λv H=>Mn.Fz L H v)=r)(u:r≠.no):qT p inp fu gV gA gk f L G (.mk 3 d [a] m el) r:=by
 intro B g ob X W h;refine cM.toR (bI B (SSM p X W) aA mixed Tryz.func141 rfl j0 [] rfl c9 c9 V9 (eU h) h.free λO y A I=>?_);have al:=h.nes;have P:=h.rds;have hB:=h.hB;rw[nT];have s:evE p (ap p) inp fu n f L G a≠.no:=λe=>by rw[e]at V;exact u V.symm
 simp only[go_sem,l9,w9];refine⟨aZ a,F2 (aZ a).symm,?_⟩;refine jB aa rfl o h q (λ_=>s) VM loM (by omega:B<=B+251) (λi hi=>by simp only[upd];(repeat rw[j8 (by omega)]);exact h.free i (by omega)) λE H e1 c A1 K1=>?_;by_cases he:e1=0
 case neg=>
  exact tp
 subst he;rw[A1.ok]at V;simp only[Rs.bind,Mn.Fz]at V;have t:=HU H.out;by_cases hl:65536<=z H.out
 .rw[l8 hl]at V
  have l:(65536:Int)<=(z H.out:Int):=a7;simp only[go_sem,al,P,rnM,l];refine⟨_,ae.refl _,?_⟩;simp only[go_sem];exact dv (w:=c) (e':=4) (ad:=H) (bd:=L) (r:=N) h (runM (G:=H) (e:=0) h rfl ⟨rfl,rfl,rfl⟩ loM) fG ⟨L,N,H,4,c,er.mke V.symm b9,K1,rfl,rfl,rfl⟩
 .rw[j8 hl]at V
  have l:¬(65536:Int)<=(z H.out:Int):=a7;have j:IntKind.u8.wrap ((E:Nat):Int)=(((UInt8.ofNat E).toNat:Nat):Int):=by rw[IntKind.wrap_u8,Mt];omega
  simp only[go_sem,al,P,rnM,l,j,t,aW];refine⟨l7 _,⟨b9,a7⟩,?_⟩;refine⟨_,ae.refl _,?_⟩;simp only[go_sem];refine TG (ad:=⟨H.vars,H.arrs,H.out++[UInt8.ofNat E],H.rd,H.tk⟩) (e':=0) (bd:=L) (r:=N) h (λi hi x=>?_) (λi hi=>?_) fG λw=>⟨L,N,_,0,w,er.mk V.symm,K1,rfl,rfl,rfl⟩
  .have hk:∀k,(i=B+k)=False:=λk=>by simp;omega
   simp only[upd,hk,x,A8]
  .have hk:∀k,(i=B+k)=False:=λk=>by simp;omega
   by_cases U:i=1024
   .subst U
    rw[P.1];simp only[upd,B1,A8,rnM,j7];rfl
   by_cases b:i=1023
   .subst b
    rw[P.2.1];simp only[upd,B1,A8,hk,U,bM,B5];rw[s6 a8];rfl
   .simp only[upd,B1,A8,hk,U,b]
    unfold pT pS;rw[j8 U,j8 b,j8 U,j8 b]
end
end
section
variable{L:List Nat}{G:Sg}{nm:Str}{th el:List Stm}{r:Rs (List Nat×Option Nat)}{n f:Nat}{ks:List Ex}
section
variable{p:Src.Prog}{inp:Str}{fu gV gA:Nat}{gk:Nat->Nat}
def xi{a b:Ex}(hE:HE p inp fu gV gA gk n)(hz:Src.szE a<=1000000/\Src.szE b<=1000000)(V:(evE p (ap p) inp fu n f L G a).bind (λj H=>(evE p (ap p) inp fu n f L H b).bind λv a6=>Mn.tW (ap p f nm) L a6 j v)=r)(u:r≠.no)(h3:∀k i,ap p f nm=S (k,i)->k=3->i<z p.arrays):qT p inp fu gV gA gk f L G (.mk 2 nm [a,b] th el) r:=by
 intro B g ob X W h;refine cM.toR (bI B (SSM p X W) aA mixed Tryz.func141 rfl j0 [] rfl c9 c9 V9 (eU h) h.free λO bn s0 w0=>?_);have al:=h.nes;have P:=h.rds;have hB:=h.hB;have b':=h.run;have ar:=h.frX;obtain⟨fn,Y⟩:=h.fn;obtain⟨ch,cc,_⟩:=h.sm.fn fn (l6 Y);have A:=uM p h.sm.v W7 h.sm.f f fn Y ch cc nm;rw[bK]at A;unfold rnM at b';rw[nT];have bo:evE p (ap p) inp fu n f L G a≠.no:=λe=>by rw[e]at V;exact u V.symm
 obtain⟨⟨kd,i⟩,b3⟩:∃q:Int×Int,du p fn nm=q:=⟨_,rfl⟩
 rw[b3]at A;simp only at A;simp only[go_sem,b',al];refine bY aA mixed aa [] [([0],[],[],F),([65],[],[],F),([66],[],[],F),([67],[],[],F),([1],[],[],F),([69],[],[],F),([70],[],[],F),([71],[],[],F),([5],[],[],F),([73],[],[],F),([68,72,74],[],[],F),([75],[],[],F),([64],[],[],F),([64],[],[],F),([76],[],[],F),([77],[],[],T)] 0 rfl c8 rfl b9 ?_;simp only[go_sem]
 iterate 10 (apply aj;(case hg=>first|exact x9|exact⟨_,rfl,by decide,rfl⟩);(case U=>intro fa ga oa K J;simp only[go_sem,b',ar,al]at J|-;exact J))
 refine aj (v:=.tup [iv .i64 kd,iv .i64 i]) x9 (λfa ga oa K J=>?_) ?_
 .simp only[go_sem]at J|-
  refine oU aa rfl A Vy (B:=B+251) (λi hi=>by simp only[upd];(repeat rw[j8 (by omega)]);exact h.free i (by omega)) ?_;exact nn
 iterate 4 (apply aj;(case hg=>first|exact x9|exact⟨_,rfl,by decide,rfl⟩);(case U=>intro fa ga oa K J;simp only[go_sem]at J|-;exact J))
 refine bZ x9 ?_;intro K a';simp only[go_sem];refine a' _ ?_;clear a' K;simp only[go_sem,l9,w9];refine⟨aZ a,F2 (aZ a).symm,?_⟩;refine jB aa rfl hE h hz.1 (λ_=>bo) VM loM (by omega:B<=B+251) (λi hi=>by simp only[upd];(repeat rw[j8 (by omega)]);exact h.free i (by omega)) λE H e1 c A1 K1=>?_
 have m:e1=0->evE p (ap p) inp fu n f L H b≠.no:=λe hq=>by
  subst e;rw[A1.ok]at V;simp only[Rs.bind,hq]at V;exact u V.symm
 simp only[go_sem,al,P,l9,w9];refine⟨aZ b,F2 (aZ b).symm,?_⟩;refine mD (c:=c) (e1:=e1) (b0:=L) aa rfl hE h K1 hz.2 m VM loM (by omega:B<=B+251) (λi hi=>by simp only[upd];(repeat first|rw[j8 (by omega)]|rw[h.hi (by omega)]);exact h.free i (by omega)) λd a6 e2 I A2 s=>?_;by_cases he:e2=0
 case neg=>
  have hi:¬(e2:Int)=0:=a7;simp only[go_sem,al,P,rnM,hi];refine⟨_,ae.refl _,?_⟩;simp only[go_sem];refine dv (w:=I) (e':=e2) (ad:=a6) (bd:=L) (r:=N) h loM fG ⟨L,N,a6,e2,I,er.mke ?_ he,s,rfl,rfl,rfl⟩;exact SK
 subst he
 obtain⟨U,h2⟩:evE p (ap p) inp fu n f L G a=.ok E H/\evE p (ap p) inp fu n f L H b=.ok d a6:=by
  exact U1
 rw[U]at V;simp only[Rs.bind,h2,Mn.tW]at V;cases ht:ap p f nm with
 |none=>rw[ht]at V;exact absurd V.symm u
 |some t=>
   obtain⟨k,j⟩:=t;rw[ht]at V;simp only at V;by_cases hk:k=3
   case neg=>rw[j8 hk]at V;exact absurd V.symm u
   subst hk;rw[l8 rfl]at V;by_cases hv:E<4294967296
   case neg=>rw[j8 hv]at V;exact absurd V.symm u
   rw[l8 hv]at V;rw[HZ Y nm ht]at b3;cases b3;have hj:=h3 _ _ ht rfl;cases hl:a6.arrs[j]? with
   |none=>rw[hl]at V;exact absurd V.symm u
   |some l=>
     rw[hl]at V;obtain⟨Q,q1,q2,q3,q4,q5,q6,q7,q8⟩:=h.arr hj;have bl:=s.2.1.2 j l hl;have b2:=h.sm.az j;have cv:(0:Int)<=(j:Int):=a7;have y:(j:Int)<(z p.arrays:Int):=a7;have w1:IntKind.u64.wrap ((E:Nat):Int)=(E:Int):=by rw[IntKind.wrap_u64];omega
     have w2:IntKind.u64.wrap ((alM p j:Nat):Int)=(alM p j:Int):=by rw[IntKind.wrap_u64];omega
     have b5:=uN l;simp only[Mn.need]at V;by_cases af:E<z l
     .rw[l8 af]at V
      have Z:¬(alM p j:Int)<=(E:Int):=a7;have c1:(0:Int)<=(E:Int):=a7;have cx:(E:Int)<(alM p j:Int):=a7;simp only[go_sem,al,P,rnM,Q,q1,q2,q3,q4,q5,q6,q7,q8,cv,y,w1,w2,Z,c1,cx,hl,A5,b5];refine⟨a7,?_⟩;refine⟨_,ae.refl _,?_⟩;simp only[go_sem];refine dv (w:=I) (e':=0) (ad:=⟨a6.vars,a6.arrs.set j (l.set E d),a6.out,a6.rd,a6.tk⟩) (bd:=L) (r:=N) h (Pi (G:=a6) (e:=0) (bd:=L) (q:=N) (j:=2000+j) h rfl (λo=>?_) (λi o hn=>?_) loM) fG ⟨L,N,_,0,I,er.mk V.symm,⟨s.1,⟨by simp only[C2];exact s.2.1.1,λi l' x=>?_⟩,s.2.2⟩,rfl,rfl,rfl⟩
      .rw[Q]
       simp only[B9,B1];rw[l8 (l5.1 hl).1];simp[wM,Mu]
      .unfold pT pS
       simp only[B9];by_cases hi:2000<=i/\i<2000+z p.arrays
       .rw[j8 (show ¬j=i-2000 by omega)];rfl
       .rw[j8 hi,j8 hi];rfl
      .simp only[B9]at x
       by_cases e:j=i
       .subst e
        rw[l8 rfl,l8 (l5.1 hl).1]at x;cases x;rw[C2];exact bl
       .rw[j8 e]at x
        exact s.2.1.2 i l' x
     .rw[j8 af]at V
      have Z:(alM p j:Int)<=(E:Int):=a7;simp only[go_sem,al,P,rnM,Q,q1,q2,q3,q4,q5,q6,q7,q8,cv,y,w1,w2,Z];refine⟨_,ae.refl _,?_⟩;simp only[go_sem];exact dv (w:=I) (e':=3) (ad:=a6) (bd:=L) (r:=N) h (runM (G:=a6) (e:=0) h rfl ⟨rfl,rfl,rfl⟩ loM) fG ⟨L,N,a6,3,I,er.mke V.symm b9,s,rfl,rfl,rfl⟩
def Ww{a:Ex}(I:HE p inp fu gV gA gk n)(x:HSs p inp fu gV gA gk n)(j:Src.szE a<=1000000/\Src.aD th<=1000000/\Src.aD el<=1000000)(V:(evE p (ap p) inp fu n f L G a).bind (λv H=>if v=0 then da p (ap p) inp fu n f L H el else da p (ap p) inp fu n f L H th)=r)(u:r≠.no):qT p inp fu gV gA gk f L G (.mk 4 nm [a] th el) r:=by
 intro B g ob X W h;refine cM.toR (bI B (SSM p X W) aA mixed Tryz.func141 rfl j0 [] rfl c9 c9 V9 (eU h) h.free λO Q U Z=>?_);have al:=h.nes;have P:=h.rds;have hB:=h.hB;rw[nT];have K:evE p (ap p) inp fu n f L G a≠.no:=λe=>by rw[e]at V;exact u V.symm
 simp only[go_sem,l9,w9];refine⟨aZ a,F2 (aZ a).symm,?_⟩;refine jB aa rfl I h j.1 (λ_=>K) VM loM (by omega:B<=B+251) (λi hi=>by simp only[upd];(repeat rw[j8 (by omega)]);exact h.free i (by omega)) λE H e1 c m A=>?_
 have bs:∀(l:List Stm),(e1=0->da p (ap p) inp fu n f L H l=r)->∀bd q ad e',er (da p (ap p) inp fu n f L H l) e1 H L bd q ad e'->er r 0 G L bd q ad e':=λl hq bd q ad e' b=>by
  by_cases d:e1=0
  .subst d
   rw[hq rfl]at b;unfold er at b|-;rw[l8 rfl]at b|-;exact b
  .unfold er at b
   rw[j8 d]at b;obtain⟨rfl,rfl,rfl,rfl⟩:=b;exact er.mke (by rw[<-V,m.en d];rfl) d
 by_cases o:E=0
 .have hq:e1=0->da p (ap p) inp fu n f L H el=r:=λe=>by subst e;rw[<-V,m.ok];simp only[Rs.bind,l8 o]
  subst o;simp only[go_sem,al,P];refine te (c:=c) (e1:=e1) (b0:=L) aa rfl (x f L H e1 el j.2.2 λe s=>u (by rw[<-hq e];exact s)) h A VG loM (by omega:B<=B+251) (λi hi=>by simp only[upd];(repeat first|rw[j8 (by omega)]|rw[h.hi (by omega)]);exact h.free i (by omega)) λbd q ad e' y b t=>?_;simp only[go_sem];refine⟨_,ae.refl _,?_⟩;simp only[go_sem];exact dv (w:=y) (e':=e') (ad:=ad) (bd:=bd) (r:=q) h loM fG ⟨bd,q,ad,e',y,bs el hq _ _ _ _ b,t,rfl,rfl,rfl⟩
 .have hq:e1=0->da p (ap p) inp fu n f L H th=r:=λe=>by subst e;rw[<-V,m.ok];simp only[Rs.bind,j8 o]
  have J:¬((E:Nat):Int)=0:=a7;simp only[go_sem,al,P,J];refine te (c:=c) (e1:=e1) (b0:=L) aa rfl (x f L H e1 th j.2.1 λe s=>u (by rw[<-hq e];exact s)) h A VG loM (by omega:B<=B+251) (λi hi=>by simp only[upd];(repeat first|rw[j8 (by omega)]|rw[h.hi (by omega)]);exact h.free i (by omega)) λbd q ad e' y b t=>?_;simp only[go_sem];refine⟨_,ae.refl _,?_⟩;simp only[go_sem];exact dv (w:=y) (e':=e') (ad:=ad) (bd:=bd) (r:=q) h loM fG ⟨bd,q,ad,e',y,bs th hq _ _ _ _ b,t,rfl,rfl,rfl⟩
section
variable{O:Bs}{rd:Option Nat}{Φ:St->Am.Loc->List Deferred->World->Prop}
def CV(a6:aY O Φ){o:Oper}{s:St}{K:St->Prop}{k:Box K}{args:Array Operand}{tys:Array TypeId}(ho:o.op=.call ⟨.value (.func 180),args,tys⟩){f B X W:Nat}{r:Rs Nat}{g:Nat->Nat}{ob:Obs}(hC:CU p inp fu gV gA gk f L G nm ks r)(h:FrM p inp fu gV gA gk B g ob X W f L G 0)
 (I:args.toList.map s.ev=[.one (.ptr 1024 (g 1024) 0),.one (.ptr X (g X) 0),sv nm,eb ks]){b:Nat}(a:∀i,i<B->s.gen i=g i/\s.obj i=ob i)(hB:B<=b)(ar:∀i,b<=i->s.obj i=N){d:Nat}{e:ff}
 (j:∀v ad e' w,dW r 0 G v ad e'->OkM p inp ad->K (St.put ⟨s.f,upd s.gen 1023 w,λi=>pT p inp fu gV gA X W f (g W) w ad e' L N i (s.obj i)⟩ o.dst (iv .u32 (v:Nat)))):bm (spF Tryz.prog rd O Φ d e) o s k:=by
 have U:=h.hB;have q:=h.hX;have t:=h.hW;refine dj a6 ho (by rw[I,<-(a 1024 a7).1,<-(a X a7).1];exact hC b s.gen s.obj X W (h.re (w:=g 1023) h.okm (λi c=>by rw[(a i c).1,(a i c).2];exact h.same i) hB ar)) ?_;rintro _ _ _ ⟨v,ad,e',w,l,m,rfl,rfl,rfl⟩;rw[(a W a7).1];exact j v ad e' w l m
end
def Pj{f:Nat}{num o:Int}{r:Rs Nat}(hC:CU p inp fu gV gA gk f L G nm ks r):pq p inp fu gV gA gk f L G 0 (.mk 4 o num nm ks) r:=by
 intro B g ob X W h;refine cM.toR (bI B (SSM p X W) aA mixed Tryz.func178 rfl j0 [.tmp 6] rfl c9 c9 V3 (eU h) h.free λO a b c=>?_);have al:=h.nes;have hB:=h.hB;have V:=h.run;unfold rnM at V;rw[mC];simp only[go_sem,V,al];refine CV aa rfl hC h VG loM (by omega:B<=B+232) (λi hi=>by simp only[upd];(repeat rw[j8 (by omega)]);exact h.free i (by omega)) λv ad e' w A K=>?_;simp only[go_sem];refine⟨_,ae.refl _,?_⟩;simp only[go_sem];exact dv (w:=w) (e':=e') (ad:=ad) (bd:=L) (r:=N) h loM ez ⟨v,ad,e',w,A,K,rfl,rfl,rfl⟩
def Pk{f:Nat}{b:Rs Nat}(hC:CU p inp fu gV gA gk f L G nm ks b)(V:b.bind (λ_ c=>.ok (L,N) c)=r):qT p inp fu gV gA gk f L G (.mk 6 nm ks th el) r:=by
 intro B g ob X W h;refine cM.toR (bI B (SSM p X W) aA mixed Tryz.func141 rfl j0 [] rfl c9 c9 V9 (eU h) h.free λO d e j=>?_);have al:=h.nes;have hB:=h.hB;rw[nT];simp only[go_sem,al];refine CV aa rfl hC h VG loM (by omega:B<=B+251) (λi hi=>by simp only[upd];(repeat rw[j8 (by omega)]);exact h.free i (by omega)) λv ad e' w A K=>?_;simp only[go_sem];refine⟨_,ae.refl _,?_⟩;simp only[go_sem];refine dv (w:=w) (e':=e') (ad:=ad) (bd:=L) (r:=N) h loM fG ⟨L,N,ad,e',w,?_,K,rfl,rfl,rfl⟩;by_cases a:e'=0
 .subst a
  exact er.mk (by rw[<-V,A.ok];rfl)
 .exact er.mke (by rw[<-V,A.en a];rfl) a
def Pm{f:Nat}:qT p inp fu gV gA gk f L G (.mk 7 nm [] th el) (.ok (L,S 0) G):=by
 intro B g d X W h;refine cM.toR (bI B (SSM p X W) aA mixed Tryz.func141 rfl j0 [] rfl c9 c9 V9 (eU h) h.free λO e j l=>?_);have al:=h.nes;have P:=h.rds;have hB:=h.hB;have ar:=h.frX;rw[nT];simp only[go_sem,al,ar,w9];refine⟨_,ae.refl _,?_⟩;simp only[go_sem];refine dv (w:=g 1023) (e':=0) (ad:=G) (bd:=L) (r:=S 0) h (λi m=>?_) fG ⟨L,S 0,G,0,g 1023,er.mk rfl,h.okm,rfl,rfl,rfl⟩;have b:∀k,(i=B+k)=False:=λk=>by simp;omega
 obtain⟨a,c⟩:=h.same i;by_cases hX:i=X
 .subst hX
  rw[P.2.2.2.2.2.1];simp only[upd,b,B1,A8]at a|-;exact⟨a,rfl⟩
 .simp only[upd,b,hX,A8]at a|-
  refine⟨a,c.trans ?_⟩;unfold pT;rw[j8 hX,j8 hX]
def Pn{a:Ex}(l:HE p inp fu gV gA gk n)(m:Src.szE a<=1000000)(V:(evE p (ap p) inp fu n f L G a).bind (λv H=>.ok (L,S v) H)=r)(u:r≠.no):qT p inp fu gV gA gk f L G (.mk 7 nm [a] th el) r:=by
 intro B g ob X W h;refine cM.toR (bI B (SSM p X W) aA mixed Tryz.func141 rfl j0 [] rfl c9 c9 V9 (eU h) h.free λO s t x=>?_);have al:=h.nes;have P:=h.rds;have hB:=h.hB;rw[nT];have o:evE p (ap p) inp fu n f L G a≠.no:=λe=>by rw[e]at V;exact u V.symm
 simp only[go_sem,l9,w9];refine⟨aZ a,F2 (aZ a).symm,?_⟩;refine jB aa rfl l h m (λ_=>o) VM loM (by omega:B<=B+251) (λi hi=>by simp only[upd];(repeat rw[j8 (by omega)]);exact h.free i (by omega)) λE H b c j q=>?_;simp only[go_sem,al,P,frM];refine⟨_,ae.refl _,?_⟩;simp only[go_sem];refine dv (w:=c) (e':=b) (ad:=H) (bd:=L) (r:=S E) h (λi hi=>?_) fG ⟨L,S E,H,b,c,?_,q,rfl,rfl,rfl⟩
 .have hk:∀k,(i=B+k)=False:=λk=>by simp;omega
  by_cases hX:i=X
  .subst hX
   rw[P.2.2.2.2.2.1];simp only[upd,hk,B1,A8];exact⟨trivial,rfl⟩
  .simp only[upd,hk,hX,A8]
   refine⟨trivial,?_⟩;unfold pT;rw[j8 hX,j8 hX]
 .by_cases d:b=0
  .subst d
   exact er.mk (by rw[<-V,j.ok];rfl)
  .exact er.mke (by rw[<-V,j.en d];rfl) d
end
end
section
section
variable{p:Src.Prog}{inp:Str}{fu gV gA:Nat}{gk:Nat->Nat}
def reM{B X W f c w I e e2:Nat}{g a:Nat->Nat}{ob av:Obs}{L Q:List Nat}{G a6:Sg}{q q2:Option Nat}(d:∀i,i<B->a i=upd g 1023 w i/\av i=pT p inp fu gV gA X W f c w G e L q i (ob i)):∀i,i<B->upd a 1023 I i=upd g 1023 I i/\pT p inp fu gV gA X W f c I a6 e2 Q q2 i (av i)=pT p inp fu gV gA X W f c I a6 e2 Q q2 i (ob i):=λi h=>by
 obtain⟨b,j⟩:=d i h;refine⟨?_,by rw[j,zG]⟩;simp only[upd]at b|-;split
 .rfl
 .rename_i k;rw[b,j8 k]
def Lu{n f:Nat}{L:List Nat}{G:Sg}{nm:Str}{a:Ex}{th el:List Stm}(hE:∀m,m<=n->HE p inp fu gV gA gk m)(hS:∀m,m<=n->HSs p inp fu gV gA gk m)(hz:Src.szE a<=1000000/\Src.aD th<=1000000){r:Rs (List Nat×Option Nat)}(V:(Mn.tick fu G λH=>evW p (ap p) inp fu n f L H a th)=r)(u:r≠.no):qT p inp fu gV gA gk f L G (.mk 5 nm [a] th el) r:=by
 intro B g ob X W h;refine cM.toR (bI B (SSM p X W) aA mixed Tryz.func141 rfl j0 [] rfl c9 c9 V9 (eU h) h.free λO bn s0 w0=>?_);have al:=h.nes;have P:=h.rds;have hB:=h.hB;have hX:=h.hX;have b':=h.run;rw[nT];simp only[go_sem,l9,w9];refine dj aa rfl (by simp only[go_sem,al];rw[show g 1024=upd g (B+5) (nxC 46 (g (B+5))) 1024 from by simp only[upd];rw[j8 a7]];exact Bw (w:=g 1023) (G:=G) (e:=0) (by simp only[go_sem,al];exact b') h.sm.fu) ?_;rintro _ g1 av ⟨rfl,rfl,rfl⟩;simp only[go_sem];have b:∀i,B+251<=i->ob i=N:=λi hi=>h.free i a7
 refine aw (λmm K=>∃(t:List Nat)(j:Sg)(Z:Nat)(Y:Option Nat)(w:Nat),OkM p inp j/\
  ((Z=0/\Y=N/\mm<=n/\evW p (ap p) inp fu mm f t j a th=r)\/((Z≠0\/Y≠N)/\er r 0 G L t Y j Z))/\
  (∀i,i<B->K.gen i=upd g 1023 w i/\K.obj i=pT p inp fu gV gA X W f (g W) w j Z t Y i (ob i))/\(∀i,B+251<=i->K.obj i=N)/\
  K.f 0=.one (.ptr 1024 (g 1024) 0)/\K.f 1=.one (.ptr X (g X) 0)/\K.f 5=.one (.ptr (B+5) (K.gen (B+5)) 0)/\K.obj (B+5)=S [.d (.int .i64 5),.d (.str nm),.d (.sl [exD a]),.d (.sl (th.map smD)),.d (.sl (el.map smD))]) n ?_ ?_
 .by_cases ht:G.tk<fu
  .unfold Mn.tick at V
   rw[l8 ht]at V;rw[l8 ht];refine⟨L,⟨G.vars,G.arrs,G.out,G.rd,G.tk+1⟩,0,N,g 1023,h.okm,.inl ⟨rfl,rfl,l7 _,V⟩,?_,λi hi=>?_,?_⟩
   .exact u0
   .simp only[upd]
    (repeat rw[j8 (by omega)])
    exact b i hi
   .simp only[go_sem,al]
  .unfold Mn.tick at V
   rw[j8 ht]at V;rw[j8 ht];refine⟨L,G,5,N,g 1023,h.okm,.inr ⟨.inl b9,er.mke V.symm b9⟩,?_,λi hi=>?_,?_⟩
   .exact u0
   .simp only[upd]
    (repeat rw[j8 (by omega)])
    exact b i hi
   .simp only[go_sem,al]
 rintro mm fs g1 av ⟨t,j,Z,Y,w,an,hJ,hs,bk,q0,q1,q5,o5⟩;simp only at hs bk q0 q1 q5 o5;have cb:av 1024=S (rnM p inp fu gV gA w j Z):=by rw[(hs 1024 a7).2];exact P.1 _ _ _ _ _ _
 have eX:av X=S (frM f W (g W) (z t) Y):=by rw[(hs X hX.2).2];exact P.2.2.2.2.2.1 _ _ _ _ _ _
 have o:g1 1024=g 1024:=by rw[(hs 1024 a7).1];rfl
 have gX:g1 X=g X:=by rw[(hs X hX.2).1];exact j8 a7
 unfold rnM at cb;unfold frM at eX;rcases hJ with⟨rfl,rfl,cz,hq⟩|⟨hJ,A⟩
 case inr=>
  have bs:∀ar,bi B (SSM p X W) g ob (RunT p inp fu gV gA X W f L r 0 G g ob) ⟨ar,g1,av⟩ []:=λar=>
   dv (w:=w) (e':=Z) (ad:=j) (bd:=t) (r:=Y) h hs fG ⟨t,Y,j,Z,w,A,an,rfl,rfl,rfl⟩
  by_cases he:Z=0
  .obtain⟨v,rfl⟩:∃v,Y=S v:=by
    cases Y with
    |none=>rcases hJ with U|U<;>exact absurd (by first|exact he|rfl) U
    |some v=>exact⟨v,rfl⟩
   subst he;simp only[go_sem,q0,q1,cb,eX,o,gX,C6];exact⟨_,ae.refl _,bs _⟩
  .have ca:¬(Z:Int)=0:=a7
   simp only[go_sem,q0,q1,cb,eX,o,gX,ca];exact⟨_,ae.refl _,bs _⟩
 cases mm with
 |zero=>rw[evW]at hq;exact absurd hq.symm u
 |succ m=>
   rw[evW]at hq;have bo:evE p (ap p) inp fu m f t j a≠.no:=λe=>by rw[e]at hq;exact u hq.symm
   simp only[go_sem,q0,q1,q5,o,gX,cb,eX,o5,D8,l9,w9];refine⟨aZ a,F2 (aZ a).symm,?_⟩;refine mD (c:=w) (e1:=0) (b0:=t) aa rfl (hE m a7) h an hz.1 (λ_=>bo) (by simp only[go_sem,q0,q1,cT];rfl) hs (by omega:B<=B+251) bk λE H e1 c A1 K1=>?_;have a1:=reM (I:=c) (a6:=H) (e2:=e1) (Q:=t) (q2:=N) hs;have az:∀i,B+251<=i->pT p inp fu gV gA X W f (g W) c H e1 t N i (av i)=N:=λi hi=>by rw[h.hi a7];exact bk i hi
   by_cases hv:E=0
   .subst hv
    simp only[go_sem];refine⟨_,ae.refl _,?_⟩;simp only[go_sem];refine dv (w:=c) (e':=e1) (ad:=H) (bd:=t) (r:=N) h a1 fG ⟨t,N,H,e1,c,?_,K1,rfl,rfl,rfl⟩;by_cases he:e1=0
    .subst he
     refine er.mk ?_;rw[<-hq,A1.ok];rfl
    .exact er.mke (by rw[<-hq,A1.en he];rfl) he
   have J:¬((E:Nat):Int)=0:=a7
   -- bz c' body comes to
   have bf:e1=0->(da p (ap p) inp fu m f t H th).bind (λx a6=>match x.2 with|some v=>.ok (x.1,S v) a6|none=>Mn.tick fu a6 λaf=>evW p (ap p) inp fu m f x.1 af a th)=r:=λe=>by
    subst e;rw[A1.ok]at hq;simp only[Rs.bind]at hq;rw[j8 hv]at hq;exact hq
   simp only[go_sem,J,q0,q1,q5,al,P,o5];refine te (c:=c) (e1:=e1) (b0:=t) aa rfl (hS m a7 f t H e1 th hz.2 λe hn=>u (by rw[<-bf e,hn];rfl)) h K1 VG a1 (by omega:B<=B+251) az λbd q ad e' y A2 K2=>?_;have bl:=reM (I:=y) (a6:=ad) (e2:=e') (Q:=bd) (q2:=q) a1;have a':∀i,B+251<=i->pT p inp fu gV gA X W f (g W) y ad e' bd q i (pT p inp fu gV gA X W f (g W) c H e1 t N i (av i))=N:=λi hi=>by rw[h.hi a7];exact az i hi
   by_cases he:e'=0
   case neg=>
    have ca:¬(e':Int)=0:=a7;simp only[go_sem,al,P,rnM,frM,q0,q1,ca,o];refine ah m a7 ⟨bd,ad,e',q,y,K2,.inr ⟨.inl he,?_⟩,bl,a',?_⟩
    .by_cases U:e1=0
     .subst U
      exact er.mke (by rw[<-bf rfl,A2.en he];rfl) he
     .unfold er at A2
      rw[j8 U]at A2;obtain⟨rfl,rfl,rfl,rfl⟩:=A2;exact er.mke (by rw[<-hq,A1.en U];rfl) U
    .exact Vw
   subst he
   have U:e1=0:=by
    by_cases U:e1=0
    .exact U
    .unfold er at A2
     rw[j8 U]at A2;exact A2.2.1.symm
   subst U;have l:=bf rfl;rw[A2.ok]at l;simp only[Rs.bind]at l;cases q with
   |some v=>
     simp only at l;simp only[go_sem,al,P,rnM,frM,q0,q1,o,gX,C6];refine ah m a7 ⟨bd,ad,0,S v,y,K2,.inr ⟨.inr a8,er.mk l.symm⟩,bl,a',?_⟩;exact Vw
   |none=>
     simp only at l;simp only[go_sem,al,P,rnM,frM,q0,q1,o,gX,D8];refine dj aa rfl (by simp only[go_sem,q0];rw[show g 1024=upd (upd g1 1023 c) 1023 y 1024 from by simp only[upd];rw[j8 a7,j8 a7];exact o.symm];exact Bw (p:=p) (inp:=inp) (fu:=fu) (gV:=gV) (gA:=gA) (w:=y) (G:=ad) (e:=0) (P.1 _ _ _ _ _ _) h.sm.fu) ?_;rintro _ g3 b7 ⟨rfl,rfl,rfl⟩;unfold Mn.tick at l;by_cases ht:ad.tk<fu
     .rw[l8 ht]at l
      rw[l8 ht];simp only[go_sem];refine ah m a7 ⟨bd,⟨ad.vars,ad.arrs,ad.out,ad.rd,ad.tk+1⟩,0,N,y,K2,.inl ⟨rfl,rfl,a7,l⟩,runM (s:=⟨_,_,_⟩) (G:=ad) (e:=0) (q:=N) (bd:=bd) h rfl ⟨rfl,rfl,rfl⟩ bl,λi hi=>?_,?_⟩
      .simp only[upd]
       rw[j8 a7];exact a' i hi
      .exact Vw
     .rw[j8 ht]at l
      rw[j8 ht];simp only[go_sem];refine ah m a7 ⟨bd,ad,5,N,y,K2,.inr ⟨.inl b9,er.mke l.symm b9⟩,runM (s:=⟨_,_,_⟩) (G:=ad) (e:=0) (q:=N) (bd:=bd) h rfl ⟨rfl,rfl,rfl⟩ bl,λi hi=>?_,?_⟩
      .simp only[upd]
       rw[j8 a7];exact a' i hi
      .exact Vw
end
end
end
end Go.Proofs.YtlacbjnmkhndiaaGreatDoor
namespace Go.Emit
section
open Go.Lower (Ins Code Sig codeOf takes)
section
def kc(env:Int×Int->Int)(n:Nat)(c:List MI)(h:Ho):List MI:=
 match c[(h.1-n).toNat]? with
 |some x=>c.set (h.1-n).toNat (x.1,x.2.1,x.2.2.1,env h.2)
 |none=>c
def close(env:Int×Int->Int)(w:Nat->Wr)(n:Nat):List MI:=(w n).holes.foldl (kc env n) (w n).code
variable{n:Nat}{a b c d:Int}{h:Ho}{w:Nat->Wr}{fs:List Src.CFn}
section
variable{env:Int×Int->Int}
def yL{c:List MI}:z (kc env n c h)=z c:=by
 unfold kc;split
 .rw[C2]
 .rfl
def ku{n:Nat}:∀(l:List Ho)(c:List MI),z (l.foldl (kc env n) c)=z c
 |[],_=>rfl
 |h::l,c=>by rw[H7,ku l,yL]
def iG:z (close env w n)=z (w n).code:=ku _ _
def DR{a b:List MI}(f:(n:Int)<=h.1)(U:h.1<(n:Int)+z a):kc env n (a++b) h=kc env n a h++b:=by
 have e:(h.1-n).toNat<z a:=a7;unfold kc;rw[F0 e,v8 e];simp only;rw[List.set_append_left _ _ e]
def AS{a b:List MI}(g:((n+z a:Nat):Int)<=h.1):kc env n (a++b) h=a++kc env (n+z a) b h:=by
 have e:z a<=(h.1-n).toNat:=a7;have f:(h.1-((n+z a:Nat):Int)).toNat=(h.1-n).toNat-z a:=a7;unfold kc;rw[D4 e,f];cases I:b[(h.1-(n:Int)).toNat-z a]? with
 |none=>rfl
 |some x=>
   simp only;rw[I6 _ _ e]
def rC{n:Nat}{b:List MI}:∀(l:List Ho)(a:List MI),(∀h∈l,(n:Int)<=h.1/\h.1<(n:Int)+z a)->l.foldl (kc env n) (a++b)=l.foldl (kc env n) a++b
 |[],_,_=>rfl
 |h::l,a,H=>by
   obtain⟨U,e⟩:=H h a8;rw[H7,H7,DR U e,rC l _ λx I=>by rw[yL];exact H x We]
def pH{n:Nat}{a:List MI}:∀(l:List Ho)(b:List MI),(∀h∈l,((n+z a:Nat):Int)<=h.1)->l.foldl (kc env n) (a++b)=a++l.foldl (kc env (n+z a)) b
 |[],_,_=>rfl
 |h::l,b,H=>by rw[H7,H7,AS (H h a8),pH l _ λx I=>H x We]
def gf(w:Nat->Wr):Prop:=∀n,∀h∈(w n).holes,(n:Int)<=h.1/\h.1<(n:Int)+z (w n).code
def Fits.inner{L M:Nat}{Q:Int×Int->Prop}(h:Fits L M Q w):gf w:=λn x I=>⟨((h n).2.2 x I).1,((h n).2.2 x I).2.1⟩
def co{v w:Nat->Wr}(e:gf v)(f:gf w):close env (ak v w) n=close env v n++close env w (n+z (v n).code):=by
 unfold close ak;simp only;rw[O9,rC _ _ (e n)];have hl:z ((v n).holes.foldl (kc env n) (v n).code)=z (v n).code:=ku _ _;rw[pH _ _ λh g=>by rw[hl];have:=(f _ h g).1;omega,hl]
def kv{v w:Nat->Wr}(f:gf v)(g:gf w):gf (ak v w):=λn h e=>by
 simp only[ak,C4,j7]at e|-;rcases e with e|e
 .have:=f n h e;omega
 .have:=g _ h e;omega
def dm:gf (ao a b c d):=λ_ _ h=>by cases h
def kw:gf dS:=λ_ _ h=>by cases h
def iu:gf (aq a b c d):=λn h e=>by
 obtain rfl:h=((n:Int),c,d):=by simpa[aq]using e
 exact⟨C5 _,by simp[aq];omega⟩
def fE:close env (ao a b c d) n=[(a,b,c,d)]:=rfl
def DS:close env dS n=[]:=rfl
def iw:close env (aq a b c d) n=[(a,b,0,env (c,d))]:=by
 unfold close aq;simp only[H7,Q3];unfold kc;simp only;rw[show ((n:Int)-(n:Int)).toNat=0 by omega];rfl
end
def eN(d:fZ)(q:Int×Int):Int:=if 0<=q.2 then(((d.pls[q.1.toNat]?).getD [])[q.2.toNat]?).getD 0 else(d.ent[q.1.toNat]?).getD 0
def DT(d:fZ)(c:List MI)(h:Ho)(e:0<=h.1):fill d c h=kc (eN d) 0 c h:=by
 unfold fill kc;rw[show (h.1-((0:Nat):Int)).toNat=h.1.toNat by omega];rfl
def pI(d:fZ):∀(l:List Ho)(c:List MI),(∀h∈l,0<=h.1)->l.foldl (fill d) c=l.foldl (kc (eN d) 0) c
 |[],_,_=>rfl
 |h::l,c,H=>by rw[H7,H7,DT d c h (H h a8),pI d l _ λx I=>H x We]
def ui(env:Int×Int->Int)(fs:List Src.CFn)(P:Plan)(f n:Nat):List MI:=
 match fs[f]?,P.depths[f]? with
 |some x,S ds=>close env (eM fs P f (bW x) ds (z (bW x))) n
 |_,_=>[]
def toC(env:Int×Int->Int)(fs:List Src.CFn)(P:Plan):Nat->List MI
 |0=>[(1,15,0,1)]++ui env fs P (z fs-1) 1
 |k+1=>toC env fs P k++ui env fs P k (z (toC env fs P k))
def wc{env:Int×Int->Int}{P:Plan}{ar:Nat}(H:qy fs P ar){d:fZ}{done:Nat->Prop}{al f:Nat}(h:nF fs d done al)(hf:f<z fs):
  (dH fs P d f).holes.foldl (kc env 0) (dH fs P d f).code=d.holes.foldl (kc env 0) d.code++ui env fs P f (z d.code):=by
 obtain⟨x,I⟩:∃x,fs[f]?=S x:=⟨_,v8 hf⟩
 obtain⟨ds,hd⟩:∃ds,P.depths[f]?=S ds:=⟨_,v8 (by rw[H.dl];exact hf)⟩
 rw[kr I hd];unfold ui;rw[I,hd];simp only;rw[O9,rC _ _ λy e=>⟨(h.h y e).1,by have:=(h.h y e).2.1;omega⟩];have hl:z (d.holes.foldl (kc env 0) d.code)=z d.code:=ku _ _;rw[pH _ _ λy e=>?_,hl,C7]
 .rfl
 .rw[hl]
  have:=((H.fits I ds (z (bW x))).inner _ y e).1;omega
def uj{env:Int×Int->Int}{fs:List Src.CFn}{P:Plan}{ar:Nat}(H:qy fs P ar):∀k,k<=z fs-1->(pg fs P k).holes.foldl (kc env 0) (pg fs P k).code=toC env fs P k
 |0,_=>by
   have i:=H.n;have e:nF fs ⟨[(1,15,0,1)],[],List.replicate (z fs) 0,List.replicate (z fs) []⟩ (λ_=>False) 1:=⟨a8,a8,(λ_ h=>by cases h),a8,a8,(λ_ h=>False.elim h)⟩
   exact wc H e (f:=z fs-1) a7
 |k+1,j=>by
   have g:=uj (env:=env) H k a7;rw[toC,<-g];rw[show (z ((pg fs P k).holes.foldl (kc env 0) (pg fs P k).code))=z (pg fs P k).code from ku _ _];exact wc H (sX H k a7) (f:=k) a7
def DU{P:Plan}{ar:Nat}(H:qy fs P ar):filled (whole fs P)=toC (eN (whole fs P)) fs P (z fs-1):=by
 have e:=sX H (z fs-1) (l7 _);unfold filled;exact(pI (whole fs P) (whole fs P).holes (whole fs P).code λh f=>(e.h h f).1).trans (uj H _ (l7 _))
end
end
end Go.Emit
namespace Go.Lower
section
section
variable{w:Int}{ps:Sig}{f:Nat}{word:Bool}
mutual
def nbE:Ex->Prop
 |.mk _ _ num _ _ kids=>(0<=num/\num<4294967296)/\DV kids
def DV:List Ex->Prop
 |[]=>True
 |e::l=>nbE e/\DV l
end
mutual
def nbS:Stm->Prop
 |.mk _ _ _ e a el=>DV e/\FV a/\FV el
def FV:List Stm->Prop
 |[]=>True
 |e::l=>nbS e/\FV l
end
def yM(w:Int)(x:Ins):Prop:=(x.op=1->0<=x.n/\x.n<4294967296)/\(x.op=2\/x.op=3->0<=x.a/\x.a<w)/\(x.op=4\/x.op=5->(1<=x.b/\x.b<=4096)/\0<=x.a/\x.a+x.b<=w)/\(x.op=6->4<=x.a/\x.a<=15)
def iV(w:Int)(c:Lower.Code):Prop:=∀y∈c,yM w y.1
def fP{c d:Lower.Code}:iV w (c++d)↔iV w c/\iV w d:=I9
def bC{x:Ins}{n:Int}{c:Lower.Code}:iV w ((x,n)::c)↔yM w x/\iV w c:=List.forall_mem_cons
def bX:iV w []:=λ_ h=>by cases h
def eu{op a b n:Int}(h:op=7\/op=8\/op=9\/10<=op):yM w ⟨op,a,b,n⟩:=⟨λe=>by simp only at e;omega,λe=>by simp only at e;omega,λe=>by simp only at e;omega,λe=>by simp only at e;omega⟩
def AT{n:Int}(h:0<=n/\n<4294967296):yM w ⟨1,0,0,n⟩:=⟨λ_=>h,λe=>by simp at e,λe=>by simp at e,λe=>by simp at e⟩
def RN{q kind op num slot size d:Int}{n:Nat}(h:okE w ps f q kind op num slot size n)(c:0<=num/\num<4294967296):iV w (one kind op num slot size d):=by
 obtain⟨_,_,_,_,_,h⟩:=h;rcases h with⟨h|h,_⟩|⟨h,a,_⟩|⟨h,U,b,a,_⟩|⟨h,_⟩|⟨h,U,b,_⟩|⟨h,_⟩|⟨h|h,_⟩
 all_goals subst h
 .exact bC.2 ⟨AT c,bX⟩
 .exact bC.2 ⟨eu b9,bX⟩
 .obtain⟨g,_,_,i⟩:=a
  exact bC.2 ⟨⟨λe=>by simp at e,λ_=>by simp only;omega,λe=>by simp at e,λe=>by simp at e⟩,bX⟩
 .obtain⟨g,_,_,i⟩:=a
  exact bC.2 ⟨⟨λe=>by simp at e,λe=>by simp at e,λ_=>by simp only;omega,λe=>by simp at e⟩,bX⟩
 .exact bC.2 ⟨eu b9,bX⟩
 .exact bC.2 ⟨⟨λe=>by simp at e,λe=>by simp at e,λe=>by simp at e,λ_=>⟨U,b⟩⟩,bX⟩
 .exact bC.2 ⟨eu b9,bX⟩
 .exact bX
 .exact bX
variable{at':Nat}{c1:Nat->Lower.Code}
def JS{d kind:Int}{c0:Lower.Code}(a:iV w c0)(U:∀r,iV w (c1 r)):iV w (jM at' d kind c0 c1):=by
 unfold jM gY;simp only;refine fP.2 ⟨a,fP.2 ⟨?_,?_⟩⟩
 .split
  .exact bC.2 ⟨eu b9,bX⟩
  .exact bX
 refine bC.2 ⟨eu b9,bC.2 ⟨AT (by split<;>decide),bC.2 ⟨eu b9,fP.2 ⟨U _,bC.2 ⟨eu b9,bC.2 ⟨eu b9,bX⟩⟩⟩⟩⟩⟩
mutual
theorem Oe:∀(e:Ex){q d:Int}{at':Nat},rE w ps f q e->nbE e->iV w (cE at' d e)
 |.mk kind op num slot size kids,q,d,at',h,a=>by
   rw[rE]at h;rw[nbE]at a;rw[cE];split
   .exact RP kids h.2 a.2
   .exact fP.2 ⟨FW kids h.2 a.2,RN h.1 a.1⟩
theorem FW:∀(l:List Ex){q d:Int}{at':Nat},rEs w ps f q l->DV l->iV w (cEs at' d l)
 |[],_,_,_,_,_=>by rw[cEs];exact bX
 |e::l,q,d,at',h,a=>by
   rw[rEs]at h;rw[cEs];exact fP.2 ⟨Oe e h.1 a.1,FW l h.2 a.2⟩
theorem RP:∀(l:List Ex){q d kind:Int}{at':Nat},rEs w ps f q l->DV l->iV w (cAO at' d kind l)
 |[],_,_,_,_,_,_=>by rw[cAO];exact bX
 |e::l,q,d,kind,at',h,a=>by
   rw[rEs]at h;rw[cAO];exact JS (Oe e h.1 a.1) λr=>FX l h.2 a.2
theorem FX:∀(l:List Ex){q d:Int}{at':Nat},rEs w ps f q l->DV l->iV w (jv at' d l)
 |[],_,_,_,_,_=>by rw[jv];exact bX
 |e::l,q,d,at',h,a=>by
   rw[rEs]at h;rw[jv];exact Oe e h.1 a.1
end
def Cj:iV w (leave word):=by
 unfold leave;split
 .exact bC.2 ⟨AT b9,bC.2 ⟨eu b9,bX⟩⟩
 .exact bC.2 ⟨eu b9,bX⟩
def Og{q kind slot size:Int}{n nt ne:Nat}(h:okS w ps f word q kind slot size n nt ne):iV w (pY word kind slot size n):=by
 obtain⟨_,_,_,_,_,h⟩:=h;rcases h with⟨h,a,_⟩|⟨h,U,d,a,_⟩|⟨h|h|h,_⟩|⟨h,_⟩|⟨h,_⟩
 all_goals subst h
 .obtain⟨b,_,_,c⟩:=a
  exact bC.2 ⟨⟨λe=>by simp at e,λ_=>by simp only;omega,λe=>by simp at e,λe=>by simp at e⟩,bX⟩
 .obtain⟨b,_,_,c⟩:=a
  exact bC.2 ⟨⟨λe=>by simp at e,λe=>by simp at e,λ_=>by simp only;omega,λe=>by simp at e⟩,bX⟩
 .exact bC.2 ⟨eu b9,bX⟩
 .exact bX
 .exact bX
 .exact bC.2 ⟨eu b9,bX⟩
 .show iV w (if n=0 then leave word else [(⟨11,0,0,0⟩,(n:Int))])
  split
  .exact Cj
  .exact bC.2 ⟨eu b9,bX⟩
def FY{c0:Lower.Code}(a:iV w c0)(U:∀r,iV w (c1 r)):iV w (gu at' c0 c1):=
 fP.2 ⟨a,bC.2 ⟨eu b9,fP.2 ⟨U _,bC.2 ⟨eu b9,bX⟩⟩⟩⟩
def RQ{c1 b:Nat->Lower.Code}{a:Bool}(U:∀r,iV w (c1 r))(c:∀r,iV w (b r)):iV w (ifC at' c1 a b):=by
 unfold ifC;split
 .exact bC.2 ⟨eu b9,fP.2 ⟨U _,bC.2 ⟨eu b9,c _⟩⟩⟩
 .exact bC.2 ⟨eu b9,U _⟩
mutual
theorem Vn:∀(e:Stm){q:Int}{at':Nat},rS w ps f word q e->nbS e->iV w (cS word at' e)
 |.mk kind slot size e b el,q,at',h,a=>by
   rw[rS]at h;rw[nbS]at a;rw[cS];split
   .exact FY (FX e h.2.1 a.1) λr=>yN b h.2.2.1 a.2.1
   refine fP.2 ⟨FW e h.2.1 a.1,?_⟩;split
   .exact RQ (λr=>yN b h.2.2.1 a.2.1) λr=>yN el h.2.2.2 a.2.2
   .exact Og h.1
theorem yN:∀(l:List Stm){q:Int}{at':Nat},rSs w ps f word q l->FV l->iV w (cSs word at' l)
 |[],_,_,_,_=>by rw[cSs];exact bX
 |e::l,q,at',h,a=>by
   rw[rSs]at h;rw[cSs];exact fP.2 ⟨Vn e h.1 a.1,yN l h.2 a.2⟩
end
def RR{l:List Stm}{q:Int}(h:rSs w ps f word q l)(a:FV l):iV w (codeOf word l):=fP.2 ⟨yN l h a,Cj⟩
end
end
end Go.Lower
namespace Go.Src
section
mutual
def DW:Ex->Prop
 |.mk _ _ num _ kids=>(0<=num/\num<4294967296)/\uk kids
def uk:List Ex->Prop
 |[]=>True
 |e::l=>DW e/\uk l
end
mutual
def DX:Stm->Prop
 |.mk _ _ e a el=>uk e/\ss a/\ss el
def ss:List Stm->Prop
 |[]=>True
 |e::l=>DX e/\ss l
end
def yO(p:Prog):Prop:=∀f∈p.funcs,ss f.body
mutual
theorem FZ(o i:Pl):∀e:Ex,DW e->Lower.nbE (di o i e)
 |.mk kind op num name kids,h=>by rw[DW]at h;rw[di,Lower.nbE];exact⟨h.1,rD o i kids h.2⟩
theorem rD(o i:Pl):∀l:List Ex,uk l->Lower.DV (aU o i l)
 |[],_=>by rw[aU];trivial
 |e::l,h=>by rw[aU];exact⟨FZ o i e h.1,rD o i l h.2⟩
end
mutual
theorem Ga(o i:Pl):∀e:Stm,DX e->Lower.nbS (coreS o i e)
 |.mk kind name e a el,h=>by rw[DX]at h;rw[coreS,Lower.nbS];exact⟨rD o i e h.1,oK o i a h.2.1,oK o i el h.2.2⟩
theorem oK(o i:Pl):∀l:List Stm,ss l->Lower.FV (bA o i l)
 |[],_=>by rw[bA];trivial
 |e::l,h=>by rw[bA];exact⟨Ga o i e h.1,oK o i l h.2⟩
end
def Vo{p:Prog}(h:aX p=0)(a:yO p){x:CFn}(I:x∈(ab p).funcs):Lower.iV (ab p).words (Emit.bW x):=by
 obtain⟨k,b⟩:=D6 I;obtain⟨f,w,U,_,rfl,_⟩:=Emit.FS I;exact Lower.RR (BL h b) (oK _ _ _ (a f U))
end
end Go.Src
namespace Go.Mn
section
open Go.Asm (Str)
open Go.Src (Ex Stm Fn Prog eW bg eL ba bD cp am okE df okS dy bj eP dg cA ja bh fJ aQ aO aV aX dw DW uk DX ss szE bc szS aD)
section
section
variable(p:Prog)(f:Nat)(fn:Src.Fn)
structure WE (e:Ex):Prop where
 r:∃q,eW q e=true
 n:okE (λa b _=>bj (ap p f) f a b) e=true
 a:okE (λa b c=>eP (ap p f) p.funcs f a b c) e=true
 t:dg p.funcs e≠0
 w:DW e
structure WEs (t:Int) (l:List Ex):Prop where
 r:∃q,bg q l=true
 n:df (λa b _=>bj (ap p f) f a b) l=true
 a:df (λa b c=>eP (ap p f) p.funcs f a b c) l=true
 ty:cA p.funcs t l=true
 t0:t≠0
 w:uk l
structure WS (s:Stm):Prop where
 r:∃q,eL q s=true
 n:okS (λa b _=>bj (ap p f) f a b) s=true
 a:okS (λa b c=>eP (ap p f) p.funcs f a b c) s=true
 t:ja p.funcs fn.word s=true
 w:DX s
structure WSs (l:List Stm):Prop where
 r:∃q,ba q l=true
 n:dy (λa b _=>bj (ap p f) f a b) l=true
 a:dy (λa b c=>eP (ap p f) p.funcs f a b c) l=true
 t:bh p.funcs fn.word l=true
 w:ss l
end
variable{name:Str}
section
variable{p:Prog}{f:Nat}{fn:Src.Fn}
def WEs.cons{t:Int}{e:Ex}{l:List Ex}(h:WEs p f t (e::l)):WE p f e/\dg p.funcs e=t/\WEs p f t l:=by
 obtain⟨⟨q,U⟩,b,c,a,g,d⟩:=h;rw[bg,s5]at U;rw[df,s5]at b c;rw[cA,s5,B4]at a;rw[uk]at d;exact⟨⟨⟨q,U.1⟩,b.1,c.1,by rw[a.1];exact g,d.1⟩,a.1,⟨⟨q,U.2⟩,b.2,c.2,a.2,g,d.2⟩⟩
def WSs.cons{e:Stm}{l:List Stm}(h:WSs p f fn (e::l)):WS p f fn e/\WSs p f fn l:=by
 obtain⟨⟨q,U⟩,a,b,c,d⟩:=h;rw[ba,s5]at U;rw[dy,s5]at a b;rw[bh,s5]at c;rw[ss]at d;exact⟨⟨⟨q,U.1⟩,a.1,b.1,c.1,d.1⟩,⟨⟨q,U.2⟩,a.2,b.2,c.2,d.2⟩⟩
def MG(hf:p.funcs[f]?=S fn){s:Str}{k i:Nat}(h:ap p f s=S (k,i)):(k=1/\i<z fn.params+z fn.locals)\/(k=2/\i<z p.vars)\/(k=3/\i<z p.arrays)\/(k=4/\i<z p.funcs):=by
 unfold ap at h;rw[hf]at h;simp only[aQ]at h;split at h
 .rename_i c
  cases h;have b:=dw c;unfold aV at b;rcases C4.1 b with b|b
  .have:=Src.De b;exact .inl ⟨this.1,a7⟩
  .have:=Src.De b;exact .inl ⟨this.1,a7⟩
 .have b:=dw h
  unfold aO at b;rcases C4.1 b with b|b
  .rcases C4.1 b with b|b
   .have:=Src.Ix b;exact .inr (.inl ⟨this.2,this.1⟩)
   .obtain⟨a,d,e⟩:=Src.Iw b;exact .inr (.inr (.inl ⟨e,(l5.1 d).1⟩))
  .exact .inr (.inr (.inr (Src.IH b)))
def NQ(h:aX p=0)(hf:p.funcs[f]?=S fn){s:Str}{n:Nat}(a:ap p f s=S (4,n)):∃g,p.funcs[n]?=S g/\Src.cn p.funcs s=S g:=by
 obtain⟨V,d,_⟩:=Src.zU h;have hl:1<=z p.funcs:=by unfold Src.dX at V;simp at V;exact V.1.1.1
 obtain⟨L,c,_⟩:=Src.zV d hl;have b:=Src.qb c hf;unfold Src.jw at b;rw[s5]at b;have e:=Src.IA (p:=p) (f:=fn) (k:=n+1) (w:=(Src.ai p).2) (W:=(Src.ai p).2+(z fn.params+z fn.locals)) V L b.1 (l6 hf) (C5 _) (C5 _);unfold ap at a;rw[hf]at a;obtain⟨_,_,i⟩:=e.fn s n a a7;exact i
def lI(h:aX p=0)(hf:p.funcs[f]?=S fn){n:Nat}{w:Bool}(U:bj (ap p f) f 4 name=T)(b:eP (ap p f) p.funcs f 4 name n=T)(c:fJ p.funcs name=w):∃g,fY p f (ap p f name) n w=S g:=by
 unfold bj at U;cases d:ap p f name with
 |none=>rw[d]at U;cases U
 |some t=>
   obtain⟨j,g⟩:=t;rw[d]at U;simp only[show ¬(4:Nat)=2 by decide,show ¬(4:Nat)=3 by decide,A8,s5,I3,B4]at U;obtain⟨rfl,e⟩:=U;obtain⟨gn,a,i⟩:=NQ h hf d;unfold eP at b;rw[d]at b;simp[e,a]at b;unfold fJ at c;rw[i]at c;simp only at c;refine⟨g,?_⟩;unfold fY;simp only;rw[l8 ⟨trivial,e,by rw[a];simp[c,b]⟩]
def FB(hf:p.funcs[f]?=S fn)(U:bj (ap p f) f 2 name=T):∃k i,ap p f name=S (k,i)/\((k=1/\i<z fn.params+z fn.locals)\/(k=2/\i<z p.vars)):=by
 unfold bj at U;cases a:ap p f name with
 |none=>rw[a]at U;cases U
 |some t=>
   obtain⟨b,i⟩:=t;rw[a]at U;simp at U;refine⟨b,i,rfl,?_⟩;rcases MG hf a with h|h|h|h<;>omega
def FC(hf:p.funcs[f]?=S fn)(U:bj (ap p f) f 3 name=T):∃i,ap p f name=S (3,i)/\i<z p.arrays:=by
 unfold bj at U;cases a:ap p f name with
 |none=>rw[a]at U;cases U
 |some t=>
   obtain⟨b,i⟩:=t;rw[a]at U;simp at U;subst U;refine⟨i,rfl,?_⟩;rcases MG hf a with h|h|h|h<;>omega
def NR{A:Type}{l:List A}(h:z l=1):∃a,l=[a]:=List.length_eq_one_iff.1 h
def NS{A:Type}{l:List A}(h:z l=2):∃a b,l=[a,b]:=by
 match l,h with
 |[a,b],_=>exact⟨a,b,rfl⟩
def WE.cases(h:aX p=0)(hf:p.funcs[f]?=S fn){kind op num:Int}{kids:List Ex}(W:WE p f (.mk kind op num name kids)):
  (kind=1/\kids=[]/\0<=num/\num<4294967296)\/(kind=2/\kids=[]/\∃k i,ap p f name=S (k,i)/\((k=1/\i<z fn.params+z fn.locals)\/(k=2/\i<z p.vars)))\/
  (kind=3/\(∃a,kids=[a]/\WE p f a)/\∃i,ap p f name=S (3,i)/\i<z p.arrays)\/(kind=4/\WEs p f 1 kids/\∃g,fY p f (ap p f name) (z kids) T=S g)\/(kind=5/\kids=[])\/
  (kind=6/\(4<=op/\op<=15)/\∃a b,kids=[a,b]/\WE p f a/\WE p f b)\/(kind=7/\∃a,kids=[a]/\WE p f a)\/((kind=8\/kind=9)/\∃a b,kids=[a,b]/\WE p f a/\WE p f b/\dg p.funcs a=2/\dg p.funcs b=2):=by
 obtain⟨⟨q,U⟩,e,m,c,u⟩:=W;rw[eW]at U;rw[okE]at e m;rw[dg]at c;rw[DW]at u;simp only[s5,B4]at U e m;obtain⟨j,d,v⟩:=U;have r:∀t,cA p.funcs t kids=T->t≠0->WEs p f t kids:=λt H I=>⟨⟨_,v⟩,e.2,m.2,H,I,u.2⟩
 unfold bD at d;by_cases w:kind=1
 .subst w
  simp at d;exact .inl ⟨rfl,by first|exact d.2|exact G4.1 d.2,u.1⟩
 by_cases x:kind=2
 .subst x
  simp at d;have l:=e.1;simp only[B1]at l;exact .inr (.inl ⟨rfl,by first|exact d.2|exact G4.1 d.2,FB hf l⟩)
 by_cases n:kind=3
 .subst n
  simp at d;have l:=e.1;simp at l c;obtain⟨a,rfl⟩:=NR d.2;exact .inr (.inr (.inl ⟨rfl,⟨a,rfl,(r 1 c b9).cons.1⟩,FC hf l⟩))
 by_cases o:kind=4
 .subst o
  have l:=e.1;have B:=m.1;simp at l B c;exact .inr (.inr (.inr (.inl ⟨rfl,r 1 c.2 b9,lI h hf l B c.1⟩)))
 by_cases y:kind=5
 .subst y
  simp at d;exact .inr (.inr (.inr (.inr (.inl ⟨rfl,by first|exact d.2|exact G4.1 d.2⟩))))
 by_cases P:kind=6
 .subst P
  simp at d c;obtain⟨a,b,rfl⟩:=NS d.2;obtain⟨A,_,s⟩:=(r 1 c.1 b9).cons;exact .inr (.inr (.inr (.inr (.inr (.inl ⟨rfl,d.1.1.1,a,b,rfl,A,s.cons.1⟩)))))
 by_cases E:kind=7
 .subst E
  simp at d c;obtain⟨a,rfl⟩:=NR d.2;exact .inr (.inr (.inr (.inr (.inr (.inr (.inl ⟨rfl,a,rfl,(r 2 c b9).cons.1⟩))))))
 by_cases G:kind=8\/kind=9
 .simp[w,x,n,o,y,P,E,G]at d
  rw[j8 a7,j8 a7,j8 n,j8 o,j8 P]at c;obtain⟨a,b,rfl⟩:=NS d.2;obtain⟨A,J,s⟩:=(r 2 (by simpa using c) b9).cons;exact .inr (.inr (.inr (.inr (.inr (.inr (.inr ⟨G,a,b,rfl,A,s.cons.1,J,s.cons.2.1⟩))))))
 .simp[w,x,n,o,y,P,E,G]at d
def WS.cases(h:aX p=0)(hf:p.funcs[f]?=S fn){kind:Int}{e:List Ex}{s el:List Stm}(W:WS p f fn (.mk kind name e s el)):
  (kind=1/\(∃a,e=[a]/\WE p f a)/\∃k i,ap p f name=S (k,i)/\((k=1/\i<z fn.params+z fn.locals)\/(k=2/\i<z p.vars)))\/
  (kind=2/\(∃a b,e=[a,b]/\WE p f a/\WE p f b)/\∃i,ap p f name=S (3,i)/\i<z p.arrays)\/(kind=3/\∃a,e=[a]/\WE p f a)\/(kind=4/\(∃a,e=[a]/\WE p f a)/\WSs p f fn s/\WSs p f fn el)\/
  (kind=5/\(∃a,e=[a]/\WE p f a)/\WSs p f fn s)\/(kind=6/\WEs p f 1 e/\∃g,fY p f (ap p f name) (z e) F=S g)\/(kind=7/\(e=[]\/(fn.word=T/\∃a,e=[a]/\WE p f a))):=by
 obtain⟨⟨q,U⟩,c,m,u,t⟩:=W;rw[eL]at U;rw[okS]at c m;rw[ja]at u;rw[DX]at t;simp only[s5,B4]at U c m u;obtain⟨⟨j,d,v⟩,G,O⟩:=U;obtain⟨⟨⟨x,w⟩,bs⟩,r,b2⟩:=u;have n:WEs p f (if kind=4\/kind=5 then 2 else 1) e:=⟨⟨_,v⟩,c.1.1.2,m.1.1.2,bs,by split<;>decide,t.1⟩
 have y:WSs p f fn s:=⟨⟨_,G⟩,c.1.2,m.1.2,r,t.2.1⟩
 have Q:WSs p f fn el:=⟨⟨_,O⟩,c.2,m.2,b2,t.2.2⟩
 have o:z e=1->∃a,e=[a]/\WE p f a:=λhl=>by
  obtain⟨a,rfl⟩:=NR hl;exact⟨a,rfl,n.cons.1⟩
 unfold cp at d;by_cases A:kind=1
 .subst A
  simp at d;have l:=c.1.1.1;simp at l;exact .inl ⟨rfl,o d.2.1,FB hf l⟩
 by_cases E:kind=2
 .subst E
  simp at d;have l:=c.1.1.1;simp at l;obtain⟨a,b,rfl⟩:=NS d.2.1;exact .inr (.inl ⟨rfl,⟨a,b,rfl,n.cons.1,n.cons.2.2.cons.1⟩,FC hf l⟩)
 by_cases H:kind=3
 .subst H
  simp at d;exact .inr (.inr (.inl ⟨rfl,o d.2.1⟩))
 by_cases I:kind=4
 .subst I
  simp at d;exact .inr (.inr (.inr (.inl ⟨rfl,o d.2,y,Q⟩)))
 by_cases J:kind=5
 .subst J
  simp at d;exact .inr (.inr (.inr (.inr (.inl ⟨rfl,o d.2.1,y⟩))))
 by_cases P:kind=6
 .subst P
  have l:=c.1.1.1;have B:=m.1.1.1;simp at l B x n;exact .inr (.inr (.inr (.inr (.inr (.inl ⟨rfl,n,lI h hf l B x⟩)))))
 by_cases K:kind=7
 .subst K
  simp at d w;refine .inr (.inr (.inr (.inr (.inr (.inr ⟨rfl,?_⟩)))));by_cases V:z e=0
  .exact .inl (G4.1 V)
  .have L:0<z e:=a7
   exact .inr ⟨by first|exact w L|exact w (N2.1 L)|(simp_all),o (by omega)⟩
 .simp[A,E,H,I,J,P,K]at d
end
end
end
section
open Go.Asm (Str)
open Go.Src (Ex Stm Fn Prog dg aX szE bc szS aD)
open Go.Mach (applyN rW)
section
structure lJ (p:Prog) (fu:Nat) (G:Sg):Prop where
 vl:G.vars.length=p.vars.length
 al:G.arrs.length=p.arrays.length
 v:∀x∈G.vars,x<4294967296
 a:∀l∈G.arrs,∀x∈l,x<4294967296
 t:G.tk<=fu
structure tX (fn:Src.Fn) (L:List Nat):Prop where
 l:L.length=fn.params.length+fn.locals.length
 w:∀x∈L,x<4294967296
def Fin{A:Type}(r:Rs A)(Q:A->Sg->Prop):Prop:=match r with|.ok v G=>Q v G|.en _ _=>True|.no=>False
def Fin.bind{A β:Type}{r:Rs A}{k:A->Sg->Rs β}{Q:A->Sg->Prop}{d:β->Sg->Prop}(h:Fin r Q)(a:∀v G,Q v G->Fin (k v G) d):Fin (r.bind k) d:=by
 cases r with
 |ok v G=>exact a v G h
 |en _ _=>trivial
 |no=>exact h.elim
def Fin.imp{A:Type}{r:Rs A}{Q d:A->Sg->Prop}(h:Fin r Q)(a:∀v G,Q v G->d v G):Fin r d:=by
 cases r with
 |ok v G=>exact a v G h
 |en _ _=>trivial
 |no=>exact h
def tY{fu:Nat}{β:Type}{G:Sg}{k:Sg->Rs β}{Q:β->Sg->Prop}(h:G.tk<fu->Fin (k ⟨G.vars,G.arrs,G.out,G.rd,G.tk+1⟩) Q):Fin (tick fu G k) Q:=by
 unfold tick;split
 .rename_i hl;exact h hl
 .trivial
def JI(inp:Str)(k:Nat):yz inp k<4294967296:=by
 unfold yz;split
 .rename_i x _;have:=x.toNat_lt;omega
 .decide
def AL{op x y v:Nat}(ho:op=14\/op=15)(h:applyN op x y=S v):v<=1:=by
 rcases ho with rfl|rfl
 .have h:S (if x<y then 1 else 0)=S v:=h
  cases h;split<;>decide
 .have h:S (if x=y then 1 else 0)=S v:=h
  cases h;split<;>decide
variable{n:Nat}{t:Option (Nat×Nat)}
section
variable{p:Prog}{inp:Str}{fu K:Nat}
section
variable{f:Nat}{fn:Src.Fn}{L:List Nat}{G:Sg}
variable(p fu)in
def QE(G:Sg)(e:Ex)(v:Nat)(ad:Sg):Prop:=v<4294967296/\(dg p.funcs e=2->v<=1)/\lJ p fu ad/\G.tk<=ad.tk
variable(p fu)in
def QS(fn:Src.Fn)(G:Sg)(x:List Nat×Option Nat)(ad:Sg):Prop:=tX fn x.1/\(∀v,x.2=S v->v<4294967296)/\lJ p fu ad/\G.tk<=ad.tk
end
variable(p inp fu K)
def TE(n:Nat):Prop:=∀(f:Nat)(fn:Src.Fn),p.funcs[f]?=S fn->∀(L:List Nat)(G:Sg)(e:Ex),WE p f e->tX fn L->lJ p fu G->f*K+2*szE e+(fu-G.tk)<=n->Fin (evE p (ap p) inp fu n f L G e) (QE p fu G e)
def TL(n:Nat):Prop:=∀(f:Nat)(fn:Src.Fn),p.funcs[f]?=S fn->∀(L:List Nat)(G:Sg)(t:Int)(l:List Ex),WEs p f t l->tX fn L->lJ p fu G->f*K+2*bc l+1+(fu-G.tk)<=n->Fin (dr p (ap p) inp fu n f L G l) (λvs ad=>z vs=z l/\(∀x∈vs,x<4294967296)/\lJ p fu ad/\G.tk<=ad.tk)
def TS(n:Nat):Prop:=∀(f:Nat)(fn:Src.Fn),p.funcs[f]?=S fn->∀(L:List Nat)(G:Sg)(s:Stm),WS p f fn s->tX fn L->lJ p fu G->f*K+2*szS s+(fu-G.tk)<=n->Fin (evS p (ap p) inp fu n f L G s) (QS p fu fn G)
def TSs(n:Nat):Prop:=∀(f:Nat)(fn:Src.Fn),p.funcs[f]?=S fn->∀(L:List Nat)(G:Sg)(l:List Stm),WSs p f fn l->tX fn L->lJ p fu G->f*K+2*aD l+1+(fu-G.tk)<=n->Fin (da p (ap p) inp fu n f L G l) (QS p fu fn G)
def TW(n:Nat):Prop:=∀(f:Nat)(fn:Src.Fn),p.funcs[f]?=S fn->∀(L:List Nat)(G:Sg)(a:Ex)(l:List Stm),WE p f a->WSs p f fn l->tX fn L->lJ p fu G->f*K+2*(szE a+aD l)+1+(fu-G.tk)<=n->Fin (evW p (ap p) inp fu n f L G a l) (QS p fu fn G)
def TB(n:Nat):Prop:=∀(g:Nat)(gn:Src.Fn),p.funcs[g]?=S gn->∀(vs:List Nat)(G:Sg),z vs=z gn.params->(∀x∈vs,x<4294967296)->lJ p fu G->g*K+2*aD gn.body+2+(fu-G.tk)<=n->Fin (evB p (ap p) inp fu n g vs G) (λv ad=>v<4294967296/\lJ p fu ad/\G.tk<=ad.tk)
variable{p inp fu K}
def qv:∀e:Ex,1<=szE e
 |.mk ..=>by rw[szE];omega
def Cc:∀e:Stm,1<=szS e
 |.mk ..=>by rw[szS];omega
def NT(h:aX p=0)(j:Src.yO p){g:Nat}{gn:Src.Fn}(hg:p.funcs[g]?=S gn):WSs p g gn gn.body:=by
 obtain⟨V,k,a⟩:=Src.zU h;have hl:1<=z p.funcs:=by unfold Src.dX at V;simp at V;exact V.1.1.1
 obtain⟨L,c,b⟩:=Src.zV k hl;have t:=l6 hg;have d:=Src.qb c hg;have e:=Src.qb b hg;rw[C7]at d e;unfold Src.jw at d;rw[s5]at d;unfold Src.xN at e;have i:ap p g=Src.aQ (Src.aO p) (Src.aV gn):=by funext s;unfold ap;rw[hg]
 refine⟨⟨1,?_⟩,by rw[i];exact d.2,by rw[i];exact e,?_,j gn t⟩
 .unfold Src.dX at V
  simp only[s5,y8]at V;have:=V.2.2 gn t;unfold Src.fp at this;simp only[s5]at this;exact this.2.2
 .unfold Src.qd at a
  split at a
  .cases a
  .split at a
   .cases a
   .rename_i l
    have:(p.funcs.all λf=>Src.bh p.funcs f.word f.body)=T:=by simpa using l
    rw[y8]at this;exact this gn t
def xd{f n g:Nat}{w:Bool}(h:fY p f t n w=S g):g<f/\∃gn,p.funcs[g]?=S gn/\z gn.params=n:=by
 unfold fY at h;split at h
 .rename_i k d
  split at h
  .rename_i Z
   cases h;obtain⟨rfl,c,a⟩:=Z;refine⟨c,?_⟩;cases b:p.funcs[g]? with
   |none=>rw[b]at a;cases a
   |some gn=>
     rw[b]at a;simp only[Sk,s5,I3]at a;exact⟨gn,rfl,a.2⟩
  .cases h
 .cases h
def FD(J:∀g∈p.funcs,2*aD g.body+2<=K){n f g:Nat}{fn:Src.Fn}(e:TL p inp fu K n)(hB:TB p inp fu K n)(hf:p.funcs[f]?=S fn){L:List Nat}{G:Sg}{w:Bool}{l:List Ex}(Z:fY p f t (z l) w=S g)(W:WEs p f 1 l)(i:tX fn L)(c:lJ p fu G)(j:f*K+2*bc l+1+(fu-G.tk)<=n):
  Fin ((dr p (ap p) inp fu n f L G l).bind λvs H=>tick fu H λa6=>evB p (ap p) inp fu n g vs a6) (λv ad=>v<4294967296/\lJ p fu ad/\G.tk<=ad.tk):=by
 obtain⟨s,gn,d,O⟩:=xd Z;refine(e f fn hf L G 1 l W i c j).bind λvs H⟨U,k,b,u⟩=>tY λm=>?_;have x:=J gn (l6 d);have o:(g+1)*K<=f*K:=K9 _ a7;rw[E7,P6]at o;have:=hB g gn d vs ⟨H.vars,H.arrs,H.out,H.rd,H.tk+1⟩ a7 k ⟨b.vl,b.al,b.v,b.a,m⟩ VL
 exact this.imp λv ad this=>by
  obtain⟨q,r,E⟩:=this;exact⟨q,r,by simp only at E;omega⟩
def JJ(h:aX p=0)(J:∀g∈p.funcs,2*aD g.body+2<=K)(u:TE p inp fu K n)(hL:TL p inp fu K n)(hB:TB p inp fu K n):TE p inp fu K (n+1):=by
 intro f fn r L G e W q c B;obtain⟨kind,op,num,name,I⟩:=e;rw[szE]at B;rw[evE];have az:=qv;rcases W.cases h r with⟨rfl,rfl,U⟩|⟨rfl,rfl,k,i,U,m⟩|⟨rfl,⟨a,rfl,U⟩,i,m,Z⟩|⟨rfl,U,g,m⟩|⟨rfl,rfl⟩|⟨rfl,U,a,b,rfl,m,Z⟩|⟨rfl,a,rfl,U⟩|⟨hk,a,b,rfl,U,m,t1,t2⟩
 .rw[l8 rfl]
  unfold l0;simp only;rw[l8 U];exact⟨a7,λj=>by rw[dg]at j;simp at j,c,l7 _⟩
 .rw[j8 b9,l8 rfl]
  unfold l0 Fw;simp only[U];have j:∀v:Nat,dg p.funcs (.mk 2 op num name [])=2->v<=1:=λv j=>by rw[dg]at j;simp at j
  rcases m with⟨rfl,m⟩|⟨rfl,m⟩
  .rw[l8 rfl]
   have O:L[i]?=S (L[i]'(by have:=q.l;omega)):=v8 _;rw[O];exact⟨q.w _ (I8 _),j _,c,l7 _⟩
  .rw[j8 b9,l8 rfl]
   have O:G.vars[i]?=S (G.vars[i]'(by have:=c.vl;omega)):=v8 _;rw[O];exact⟨c.v _ (I8 _),j _,c,l7 _⟩
 .rw[j8 b9,j8 b9,l8 rfl]
  simp only[bc]at B;refine(u f fn r L G a U q c a7).bind λx H⟨s,A,E,o⟩=>?_;unfold Fx;simp only[m,B1];rw[l8 s];have O:H.arrs[i]?=S (H.arrs[i]'(by have:=E.al;omega)):=v8 _;rw[O];show Fin (match (H.arrs[i]'(by have:=E.al;omega))[x]? with|some v=>.ok v H|none=>.en 3 H) _;split
  .rename_i v Q
   exact⟨E.a _ (I8 _) _ (l6 Q),λj=>by rw[dg]at j;simp at j;split at j<;>simp at j,E,o⟩
  .trivial
 .rw[j8 b9,j8 b9,j8 b9,l8 rfl,m]
  have:=FD J hL hB r m U q c a7;show Fin ((dr p (ap p) inp fu n f L G I).bind λvs H=>tick fu H λX=>evB p (ap p) inp fu n g vs X) _
  exact this.imp λv ad this=>by
   exact⟨this.1,λj=>by rw[dg]at j;simp at j;split at j<;>simp at j,this.2⟩
 .rw[j8 b9,j8 b9,j8 b9,j8 b9,l8 rfl]
  exact⟨JI _ _,λj=>by rw[dg]at j;simp at j,⟨c.vl,c.al,c.v,c.a,c.t⟩,l7 _⟩
 .rw[j8 b9,j8 b9,j8 b9,j8 b9,j8 b9,l8 rfl]
  simp only[bc]at B;have p1:=az a;refine(u f fn r L G a m q c a7).bind λx H⟨s,A,E,o⟩=>?_;refine(u f fn r L H b Z q E a7).bind λy X⟨V,b2,Y,b4⟩=>?_;unfold opV;rw[l8 ⟨U,s,V⟩];split
  .rename_i v Q
   refine⟨rW s V Q,λj=>?_,Y,a7⟩;rw[dg]at j;simp at j
   have:op=14\/op=15:=by
    split at j
    .split at j
     .assumption
     .simp at j
    .simp at j
   exact AL a7 Q
  .trivial
 .rw[j8 b9,j8 b9,j8 b9,j8 b9,j8 b9,j8 b9,l8 rfl]
  simp only[bc]at B;refine(u f fn r L G a U q c a7).bind λx H⟨s,A,E,o⟩=>?_;exact⟨by split<;>decide,λ_=>by split<;>decide,E,o⟩
 .simp only[bc]at B
  have p1:=az a
  have hb:=λH(E:lJ p fu H)(o:G.tk<=H.tk)=>(u f fn r L H b m q E a7).bind (k:=kD) (d:=QE p fu G (.mk kind op num name [a,b])) λy X⟨V,b2,Y,b4⟩=>by
   unfold kD;rw[l8 (b2 t2)];exact⟨V,λ_=>b2 t2,Y,a7⟩
  rcases hk with rfl|rfl
  .rw[j8 b9,j8 b9,j8 b9,j8 b9,j8 b9,j8 b9,j8 b9,l8 rfl]
   refine(u f fn r L G a U q c a7).bind λx H⟨s,A,E,o⟩=>?_;split
   .exact⟨b9,λ_=>by decide,E,o⟩
   .exact hb H E o
  .rw[j8 b9,j8 b9,j8 b9,j8 b9,j8 b9,j8 b9,j8 b9,j8 b9,l8 rfl]
   refine(u f fn r L G a U q c a7).bind λx H⟨s,A,E,o⟩=>?_;split
   .exact hb H E o
   .unfold kD
    rw[l8 (A t1)];exact⟨s,λ_=>A t1,E,o⟩
def JK(g:TE p inp fu K n)(i:TL p inp fu K n):TL p inp fu K (n+1):=by
 intro f fn d L G t l W e c j;cases l with
 |nil=>rw[dr];exact⟨rfl,(λ_ h=>by cases h),c,l7 _⟩
 |cons a l=>
   rw[bc]at j;rw[dr];have s:=qv a;obtain⟨k,_,m⟩:=W.cons;refine(g f fn d L G a k e c a7).bind λx H⟨o,u,E,v⟩=>?_;refine(i f fn d L H t l m e E a7).bind λvs w⟨q,b2,r,A⟩=>?_;refine⟨by simp[q],λy b=>?_,r,a7⟩;rcases A3.1 b with rfl|b
   .exact o
   .exact b2 y b
def pE{l:List Nat}{i v:Nat}(h:∀x∈l,x<4294967296)(a:v<4294967296):∀x∈l.set i v,x<4294967296:=λx I=>by
 rcases Je I with I|rfl
 .exact h x I
 .exact a
def JL(h:aX p=0)(J:∀g∈p.funcs,2*aD g.body+2<=K)(V:TE p inp fu K n)(hL:TL p inp fu K n)(hB:TB p inp fu K n)(o:TSs p inp fu K n)(hW:TW p inp fu K n):TS p inp fu K (n+1):=by
 intro f fn r L G s W m c I;obtain⟨kind,name,e,X,el⟩:=s;rw[szS]at I;rw[evS];have az:=qv;have j:∀v:Nat,(N:Option Nat)=S v->v<4294967296:=λv h=>by cases h
 rcases W.cases h r with⟨rfl,⟨a,rfl,U⟩,k,i,u,O⟩|⟨rfl,⟨a,b,rfl,U,u⟩,i,O,h4⟩|⟨rfl,a,rfl,U⟩|⟨rfl,⟨a,rfl,U⟩,u,O⟩|⟨rfl,⟨a,rfl,U⟩,u⟩|⟨rfl,U,g,u⟩|⟨rfl,U⟩
 .rw[l8 rfl]
  simp only[bc]at I;refine(V f fn r L G a U m c a7).bind λx H⟨B,Y,E,a4⟩=>?_;unfold Fy;simp only[u];rcases O with⟨rfl,O⟩|⟨rfl,O⟩
  .rw[l8 rfl,l8 (by have:=m.l;omega)]
   exact⟨⟨by rw[C2];exact m.l,pE m.w B⟩,j,E,a4⟩
  .rw[j8 b9,l8 rfl,l8 (by have:=E.vl;omega)]
   exact⟨m,j,⟨by simp only[C2];exact E.vl,E.al,pE E.v B,E.a,E.t⟩,a4⟩
 .rw[j8 b9,l8 rfl]
  simp only[bc]at I;have p1:=az a;refine(V f fn r L G a U m c a7).bind λx H⟨B,Y,E,a4⟩=>?_;refine(V f fn r L H b u m E a7).bind λy q⟨b1,b2,Q,b4⟩=>?_;unfold tW;simp only[O,B1];rw[l8 B];have hi:q.arrs[i]?=S (q.arrs[i]'(by have:=Q.al;omega)):=v8 _;rw[hi];show Fin (if x<_ then _ else .en 3 q) _;split
  .refine⟨m,j,⟨Q.vl,by simp only[C2];exact Q.al,Q.v,λl hl=>?_,Q.t⟩,by show G.tk<=q.tk;omega⟩
   rcases Je hl with hl|rfl
   .exact Q.a l hl
   .exact pE (Q.a _ (I8 _)) b1
  .trivial
 .rw[j8 b9,j8 b9,l8 rfl]
  simp only[bc]at I;refine(V f fn r L G a U m c a7).bind λx H⟨B,Y,E,a4⟩=>?_;unfold Fz;split
  .trivial
  .exact⟨m,j,⟨E.vl,E.al,E.v,E.a,E.t⟩,a4⟩
 .rw[j8 b9,j8 b9,j8 b9,l8 rfl]
  simp only[bc]at I;have p1:=az a;refine(V f fn r L G a U m c a7).bind λx H⟨B,Y,E,a4⟩=>?_
  have bs:∀l,WSs p f fn l->2*aD l+1<=2*(szE a+aD X+aD el)->Fin (da p (ap p) inp fu n f L H l) (QS p fu fn G):=λl hl hz=>by
   have:=o f fn r L H l hl m E a7;exact US
  split
  .exact bs el O a7
  .exact bs X u a7
 .rw[j8 b9,j8 b9,j8 b9,j8 b9,l8 rfl]
  simp only[bc]at I;show Fin (tick fu G λH=>evW p (ap p) inp fu n f L H a X) _;refine tY λht=>?_;have:=hW f fn r L ⟨G.vars,G.arrs,G.out,G.rd,G.tk+1⟩ a X U u m ⟨c.vl,c.al,c.v,c.a,ht⟩ VL;exact T9
 .rw[j8 b9,j8 b9,j8 b9,j8 b9,j8 b9,l8 rfl,u]
  have:=(FD J hL hB r u U m c a7).bind (k:=λ_ A=>.ok (L,N) A) (d:=QS p fu fn G) λv ad⟨_,c2,c3⟩=>⟨m,j,c2,c3⟩
  show Fin ((dr p (ap p) inp fu n f L G e).bind λvs H=>tick fu H λq=>(evB p (ap p) inp fu n g vs q).bind λ_ A=>.ok (L,N) A) _;cases Z:dr p (ap p) inp fu n f L G e with
  |no=>rw[Z]at this;exact this
  |en _ _=>trivial
  |ok vs H=>
    rw[Z]at this;show Fin (tick fu H λq=>(evB p (ap p) inp fu n g vs q).bind λ_ A=>.ok (L,N) A) _;have e:(tick fu H λq=>(evB p (ap p) inp fu n g vs q).bind λ_ A=>.ok (L,N) A)=(tick fu H λq=>evB p (ap p) inp fu n g vs q).bind λ_ A=>.ok (L,(N:Option Nat)) A:=by unfold tick;split<;>rfl
    rw[e];exact this
 .rw[j8 b9,j8 b9,j8 b9,j8 b9,j8 b9,j8 b9,l8 rfl]
  rcases U with rfl|⟨bz,a,rfl,U⟩
  .exact⟨m,λv h=>by cases h;decide,c,l7 _⟩
  .simp only[bc]at I
   show Fin (if (p.funcs[f]?).any (·.word)=T then(evE p (ap p) inp fu n f L G a).bind λv H=>.ok (L,S v) H else .no) _;rw[l8 (by rw[r];exact bz)];refine(V f fn r L G a U m c a7).bind λx H⟨B,Y,E,a4⟩=>?_;exact⟨m,λv h=>by cases h;exact B,E,a4⟩
def FE(i:TS p inp fu K n)(o:TSs p inp fu K n):TSs p inp fu K (n+1):=by
 intro f fn b L G l W d c j;cases l with
 |nil=>rw[da];exact⟨d,(λ_ h=>by cases h),c,l7 _⟩
 |cons a l=>
   rw[aD]at j;rw[da];have s:=Cc a;obtain⟨k,m⟩:=W.cons;refine(i f fn b L G a k d c a7).bind λx H⟨e,q,E,a4⟩=>?_;obtain⟨g,r⟩:=x;cases r with
   |some v=>exact⟨e,λu h=>by cases h;exact q _ rfl,E,a4⟩
   |none=>
     have:=o f fn b g H l m e E a7;show Fin (da p (ap p) inp fu n f g H l) _;exact US
def JM(q:TE p inp fu K n)(o:TSs p inp fu K n)(hW:TW p inp fu K n):TW p inp fu K (n+1):=by
 intro f fn e L G a l i j g c y;rw[evW];have A:=qv a;refine(q f fn e L G a i g c a7).bind λx H⟨B,I,E,s⟩=>?_;split
 .exact⟨g,(λ_ h=>by cases h),E,s⟩
 refine(o f fn e L H l j g E a7).bind λx b⟨k,b2,d,J⟩=>?_;obtain⟨m,r⟩:=x;cases r with
 |some v=>exact⟨k,λu h=>by cases h;exact b2 _ rfl,d,a7⟩
 |none=>
   refine tY λw=>?_;have:=hW f fn e m ⟨b.vars,b.arrs,b.out,b.rd,b.tk+1⟩ a l i j k ⟨d.vl,d.al,d.v,d.a,w⟩ VL;show Fin (evW p (ap p) inp fu n f m _ a l) _;exact T9
def JN(h:aX p=0)(m:Src.yO p)(o:TSs p inp fu K n):TB p inp fu K (n+1):=by
 intro g gn a vs G b d c k;rw[evB,a];show Fin (if z vs=z gn.params then(da p (ap p) inp fu n g (vs++List.replicate (z gn.locals) 0) G gn.body).bind λr H=>.ok (r.2.getD 0) H else .no) _;rw[l8 b];refine(o g gn a _ G gn.body (NT h m a) ⟨by simp[b],λx I=>?_⟩ c a7).bind λx H⟨l,e,E,i⟩=>?_
 .rcases C4.1 I with I|I
  .exact d x I
  .rw[F1 I];decide
 .refine⟨?_,E,i⟩
  cases j:x.2 with
  |none=>decide
  |some v=>exact e v j
def yC(h:aX p=0)(m:Src.yO p)(J:∀g∈p.funcs,2*aD g.body+2<=K):∀n:Nat,TE p inp fu K n/\TL p inp fu K n/\TB p inp fu K n/\TS p inp fu K n/\TSs p inp fu K n/\TW p inp fu K n
 |0=>by
   refine⟨λf fn c L G e _ _ _ b=>?_,λf fn c L G t l _ _ _ b=>?_,λg gn q vs G _ _ _ b=>?_,λf fn c L G s _ _ _ b=>?_,λf fn c L G l _ _ _ b=>?_,λf fn c L G a l _ _ _ _ b=>?_⟩
   .have:=qv e;omega
   .omega
   .omega
   .have:=Cc s;omega
   .omega
   .omega
 |n+1=>by
   obtain⟨U,i,j,o,d,k⟩:=yC h m J n;exact⟨JJ h J U i j,JK U i,JN h m d,JL h J U i j d k,FE o d,JM U d k⟩
def Rr(h:aX p=0)(m:Src.yO p):∃n,runN p inp fu n≠.no:=by
 obtain⟨V,c,_⟩:=Src.zU h;have hl:1<=z p.funcs:=by unfold Src.dX at V;simp at V;exact V.1.1.1
 obtain⟨K,J⟩:∃K,∀g∈p.funcs,2*aD g.body+2<=K:=by
  have:∀l:List Src.Fn,∃K,∀g∈l,2*aD g.body+2<=K:=by
   intro l
   induction l with
   |nil=>exact⟨0,λ_ h=>by cases h⟩
   |cons a l i=>
     obtain⟨K,J⟩:=i;refine⟨K+(2*aD a.body+2),λg d=>?_⟩;rcases A3.1 d with rfl|d
     .omega
     .have:=J g d;omega
  exact this _
 obtain⟨fn,e⟩:∃fn,p.funcs[z p.funcs-1]?=S fn:=⟨_,v8 a7⟩
 have b:fn.params=[]:=by
  unfold Src.iZ at c;split at c
  .cases c
  .rw[NA,e]at c
   simp only at c;split at c
   .rename_i Z;exact Z.2.2.1
   .cases c
 refine⟨(z p.funcs-1)*K+2*aD fn.body+2+fu,λu=>?_⟩
 have:=(yC (inp:=inp) (fu:=fu) h m J ((z p.funcs-1)*K+2*aD fn.body+2+fu)).2.2.1 _ fn e [] (start p) (by rw[b];rfl) (λ_ h=>by cases h) ⟨by simp[start],by simp[start],λx I=>by rw[F1 I];decide,λl hl x I=>by
  obtain⟨a,_,rfl⟩:=E3.1 hl;rw[F1 I];decide,L0 _⟩ (l7 _)
 unfold runN at u;rw[u]at this;exact this
end
end
end
end Go.Mn
namespace Go.Proofs.YtlacbjnmkhndiaaGreatDoor
section
open Go Go.Am Go.Asm
open Go.Src (Ex Stm du)
open Go.Mn (Sg Rs evE dr evS da evW evB ap l0 l1 l2 l01)
section
section
variable{p:Src.Prog}{inp:Str}{fu gV gA:Nat}{gk:Nat->Nat}
def HW{f:Nat}{b:Str}:∀k i,ap p f b=S (k,i)->k=3->i<z p.arrays:=λk i h c=>by
 cases a:p.funcs[f]? with
 |none=>unfold ap at h;rw[a]at h;cases h
 |some fn=>
   have:=Mn.MG a h;omega
def zH{f n g:Nat}{t:Option (Nat×Nat)}{w:Bool}(h:Mn.fY p f t n w=S g):t=S (4,g)/\g<z p.funcs:=by
 unfold Mn.fY at h;split at h
 .rename_i k c
  split at h
  .rename_i Z
   cases h;obtain⟨rfl,d,a⟩:=Z;refine⟨rfl,?_⟩;cases b:p.funcs[g]? with
   |none=>rw[b]at a;cases a
   |some gn=>exact(l5.1 b).1
  .cases h
 .cases h
def Lq{n:Nat}(j:∀m,m<=n->HE p inp fu gV gA gk m)(hB:HB p inp fu gV gA gk n):HE p inp fu gV gA gk (n+1):=by
 intro f L G B x e s;by_cases k:B=0
 case neg=>exact Nl k
 subst k;obtain⟨kind,op,num,i,d⟩:=x;obtain⟨r,V⟩:∃r,evE p (ap p) inp fu (n+1) f L G (.mk kind op num i d)=r:=⟨_,rfl⟩
 have u:=s rfl;clear s;rw[V]at u|-;rw[evE]at V;rw[Src.szE]at e;have c:=j n (l7 _);show pq p inp fu gV gA gk f L G 0 (.mk kind op num i d) r;by_cases l:kind=1
 .subst l
  rw[l8 rfl]at V;cases d with
  |cons=>exact absurd V.symm u
  |nil=>
    simp only[l0]at V;split at V
    .rename_i H
     obtain⟨q,rfl⟩:∃q:Nat,num=(q:Nat):=⟨num.toNat,a7⟩
     rw[B3]at V;rw[<-V];exact Ty
    .exact absurd V.symm u
 rw[j8 l]at V;by_cases o:kind=2
 .subst o
  rw[l8 rfl]at V;cases d with
  |cons=>exact absurd V.symm u
  |nil=>exact TA V u
 rw[j8 o]at V;by_cases t:kind=3
 .subst t
  rw[l8 rfl]at V
  match d with
  |[]=>exact absurd V.symm u
  |_::_::_=>exact absurd V.symm u
  |[a]=>
    simp only[Src.bc]at e;exact TD c a7 V u HW
 rw[j8 t]at V;by_cases v:kind=4
 .subst v
  rw[l8 rfl]at V;cases Z:Mn.fY p f (ap p f i) (z d) T with
  |none=>rw[Z]at V;exact absurd V.symm u
  |some g=>
    rw[Z]at V;obtain⟨U,E⟩:=zH Z;exact Pj (Ia j hB a7 U E V u)
 rw[j8 v]at V;by_cases w:kind=5
 .subst w
  rw[l8 rfl]at V;cases d with
  |cons=>exact absurd V.symm u
  |nil=>
    rw[<-V];exact TC
 rw[j8 w]at V;by_cases P:kind=6
 .subst P
  rw[l8 rfl]at V
  match d with
  |[]=>exact absurd V.symm u
  |[_]=>exact absurd V.symm u
  |_::_::_::_=>exact absurd V.symm u
  |[a,b]=>
    simp only[Src.bc]at e;exact Wu c a7 V u
 rw[j8 P]at V;by_cases y:kind=7
 .subst y
  rw[l8 rfl]at V
  match d with
  |[]=>exact absurd V.symm u
  |_::_::_=>exact absurd V.symm u
  |[a]=>
    simp only[Src.bc]at e;exact Tz c a7 V u
 rw[j8 y]at V;by_cases A:kind=8\/kind=9
 .match d with
  |[]=>split at V<;>first|exact absurd V.symm u|(split at V<;>exact absurd V.symm u)
  |[_]=>split at V<;>first|exact absurd V.symm u|(split at V<;>exact absurd V.symm u)
  |_::_::_::_=>split at V<;>first|exact absurd V.symm u|(split at V<;>exact absurd V.symm u)
  |[a,b]=>
    simp only[Src.bc]at e;refine Wv A c a7 ?_ u;rcases A with rfl|rfl
    .rw[l8 rfl]at V
     simp only[B1];exact V
    .rw[j8 b9,l8 rfl]at V
     simp only[show ¬(9:Int)=8 by decide,A8];exact V
 .rw[j8 a7,j8 a7]at V
  exact absurd V.symm u
def Lr{n:Nat}(j:∀m,m<=n->HE p inp fu gV gA gk m)(hB:HB p inp fu gV gA gk n)(o:∀m,m<=n->HSs p inp fu gV gA gk m):HS p inp fu gV gA gk (n+1):=by
 intro f L G x d u;obtain⟨kind,l,e,A,el⟩:=x;obtain⟨r,V⟩:∃r,evS p (ap p) inp fu (n+1) f L G (.mk kind l e A el)=r:=⟨_,rfl⟩
 rw[V]at u|-;rw[evS]at V;rw[Src.szS]at d;have c:=j n (l7 _);by_cases q:kind=1
 .subst q
  rw[l8 rfl]at V
  match e with
  |[]=>exact absurd V.symm u
  |_::_::_=>exact absurd V.symm u
  |[a]=>
    simp only[Src.bc]at d;exact FK c a7 V u
 rw[j8 q]at V;by_cases s:kind=2
 .subst s
  rw[l8 rfl]at V
  match e with
  |[]=>exact absurd V.symm u
  |[_]=>exact absurd V.symm u
  |_::_::_::_=>exact absurd V.symm u
  |[a,b]=>
    simp only[Src.bc]at d;exact xi c a7 V u HW
 rw[j8 s]at V;by_cases t:kind=3
 .subst t
  rw[l8 rfl]at V
  match e with
  |[]=>exact absurd V.symm u
  |_::_::_=>exact absurd V.symm u
  |[a]=>
    simp only[Src.bc]at d;exact FL c a7 V u
 rw[j8 t]at V;by_cases v:kind=4
 .subst v
  rw[l8 rfl]at V
  match e with
  |[]=>exact absurd V.symm u
  |_::_::_=>exact absurd V.symm u
  |[a]=>
    simp only[Src.bc]at d;exact Ww c (o n (l7 _)) a7 V u
 rw[j8 v]at V;by_cases w:kind=5
 .subst w
  rw[l8 rfl]at V
  match e with
  |[]=>exact absurd V.symm u
  |_::_::_=>exact absurd V.symm u
  |[a]=>
    simp only[Src.bc]at d;exact Lu j o a7 V u
 rw[j8 w]at V;by_cases P:kind=6
 .subst P
  rw[l8 rfl]at V;cases Z:Mn.fY p f (ap p f l) (z e) F with
  |none=>rw[Z]at V;exact absurd V.symm u
  |some g=>
    rw[Z]at V;obtain⟨U,B⟩:=zH Z;obtain⟨k,i⟩:∃k,(dr p (ap p) inp fu n f L G e).bind (λvs H=>Mn.tick fu H λE=>evB p (ap p) inp fu n g vs E)=k:=⟨_,rfl⟩
    have Q:k.bind (λ_ I=>.ok (L,N) I)=r:=by
     rw[<-V,<-i];simp only[Mn.need];cases dr p (ap p) inp fu n f L G e with
     |no=>rfl
     |en=>rfl
     |ok vs H=>
       by_cases J:H.tk<fu<;>simp only[Rs.bind,Mn.tick,J,B1,A8]
    exact Pk (Ia j hB a7 U B i λK=>u (by rw[<-Q,K];rfl)) Q
 rw[j8 P]at V;by_cases y:kind=7
 .subst y
  rw[l8 rfl]at V
  match e with
  |_::_::_=>exact absurd V.symm u
  |[]=>
    simp only[l01]at V;rw[<-V];exact Pm
  |[a]=>
    simp only[Src.bc]at d;simp only[l01]at V;split at V
    .exact Pn c a7 V u
    .exact absurd V.symm u
 .rw[j8 y]at V
  exact absurd V.symm u
def Nj:∀n:Nat,(∀m,m<=n->HE p inp fu gV gA gk m)/\(∀m,m<=n->HB p inp fu gV gA gk m)/\(∀m,m<=n->HS p inp fu gV gA gk m)
 |0=>by
   refine⟨λm a=>?_,λm a=>?_,λm a=>?_⟩<;>obtain rfl:m=0:=a7
   .intro f L G e x g u
    by_cases c:e=0
    .exact absurd (by rw[evE]) (u c)
    .exact Nl c
   .intro f vs G _ _ u
    exact absurd (by rw[evB]) u
   .intro f L G x g u
    exact absurd (by rw[evS]) u
 |n+1=>by
   obtain⟨U,b,d⟩:=Nj n;have o:∀m,m<=n->HSs p inp fu gV gA gk m:=λm a=>Lt λq l=>d q a7;have i:=Lq U (b n (l7 _));have j:=Ph (o n (l7 _));have k:=Lr U (b n (l7 _)) o;refine⟨λm a=>?_,λm a=>?_,λm a=>?_⟩<;>rcases Nat.lt_or_eq_of_le a with a|rfl
   .exact U m a7
   .exact i
   .exact b m a7
   .exact j
   .exact d m a7
   .exact k
end
end
end
section
open Go Go.Am Go.Asm
open Go.Src (Ex Stm du)
open Go.Mn (Sg Rs evE dr evS da evW evB ap)
attribute[local congr]ite_cc
def Nk(e:Nat)(out:Str)(tk:Nat):AV:=.agg [.d (.int .i64 (e:Nat)),.d (.str out),.d (.int .i64 (tk:Nat))]
def nV(r:Rs Nat):Nat×Str×Nat:=match r with|.ok _ G=>(1,G.out,G.tk)|.en e G=>(e,G.out,G.tk)|.no=>(0,[],0)
def HX(s:Str):u8s (bM s)=S (s.map λb=>((b.toNat:Nat):Int)):=oN s
def wx(bs:List UInt8):((bs.map λb=>((b.toNat:Nat):Int)).map λn=>UInt8.ofNat n.toNat)=bs:=by
 induction bs with
 |nil=>rfl
 |cons b bs a=>rw[l9,l9,a];simp
def CT{s:St}{a c:Int}{b:Str}:kR s (.agg [.d (.int .i64 a),.d (.str b),.d (.int .i64 c)]) (.agg [.d (.int .i64 a),.d (.str b),.d (.int .i64 c)]):=by
 refine⟨[.int .i64 a,.str b,.int .i64 c],rfl,λi c l=>?_,rfl⟩
 match i,l with
 |0,l=>cases l;exact⟨_,rfl,.d _⟩
 |1,l=>cases l;exact⟨_,rfl,.d _⟩
 |2,l=>cases l;exact⟨_,rfl,.d _⟩
def HY(n:Nat):wM (List.replicate n 0)=List.replicate n (.d (.int .u32 0)):=by simp[wM]
def Tx{o:cF}{p:Src.Prog}{inp:Str}{fu n:Nat}(sm:SmM p inp fu)(hp:Src.dX p=T)(u:Mn.runN p inp fu n≠.no):
  bP Tryz.prog 1 o 23 [bS p,sv inp,iv .i64 fu] (·=Nk (nV (Mn.runN p inp fu n)).1 (nV (Mn.runN p inp fu n)).2.1 (nV (Mn.runN p inp fu n)).2.2):=by
 have b3:1<=z p.funcs:=by unfold Src.dX at hp;simp at hp;exact hp.1.1.1
 have an:∀a∈p.arrays,1<=a.2/\a.2<=4096:=by
  unfold Src.dX at hp;simp only[s5,y8]at hp;intro a ha;have:=hp.2.1 a ha;exact xc
 have bd:=sm.a;have bz:=sm.v;have b0:=sm.f;have Y:=sm.fu;refine qp 1000 1 o aA mixed Tryz.func23 rfl j0 [.cell 6 53] rfl c9 c9 (by simp[Tryz.ntmps23]) λO bn s0 w0 g=>?_;have h0:¬(z p.funcs:Int)=0:=a7;have a6:¬(fu:Int)<0:=a7;have hw:IntKind.i64.wrap ((z p.funcs:Int)-1)=((z p.funcs-1:Nat):Int):=by rw[wrap_i64]<;>omega
 rw[bK];simp only[go_sem,j6,h0,a6];refine bY aA mixed aE [1022,1024] [([3],[0],[],F),([1],[0],[],F),([2],[0],[],F),([3],[],[],F),([19],[],[],F),([20],[],[],F),([21],[],[0],F),([16,17,18,22],[],[],F),([23],[],[1],F),([24],[],[],T)] 2 rfl c8 rfl b9 ?_;simp only[go_sem,j6]
 iterate 6 (apply aj;(case hg=>first|exact x9|exact⟨_,rfl,by decide,rfl⟩);(case U=>intro fa ga oa K' J;simp only[go_sem,j6]at J|-;exact J))
 (apply bF;(case hg=>exact x9);(case U=>intro fa ga oa K' J;simp only[go_sem,j6]at J|-;exact⟨a7,a7,a7,J⟩))
 (apply aj;(case hg=>first|exact x9|exact⟨_,rfl,by decide,rfl⟩);(case U=>intro fa ga oa K' J;simp only[go_sem]at J|-;exact J))
 (apply bF;(case hg=>first|exact x9|exact⟨_,rfl,by decide,rfl⟩);(case U=>intro fa ga oa K' J;simp only[go_sem]at J|-;exact J))
 refine bZ x9 ?_;intro K' a';simp only[go_sem];refine a' _ ?_;clear a' K';obtain⟨gV,H⟩:∃gV,nxC (aW Tt 29+1) (g 1022)=gV:=⟨_,rfl⟩
 simp only[go_sem,H]
 refine lK _ ((ej (t:=7) (o:=1024) (b:=1023) (j:=7) (sz:=1) (off:=0) (cells:=[.d (.sl (p.vars.map λs=>[.str s])),.d (.sl (p.arrays.map arD)),.d (.sl (p.funcs.map fnD)),.d (.str inp),.d (.int .i64 (fu:Nat)),.osl 1022 gV 1 0 (z p.vars),.d .nsl,.d .nsl,.d (.int .i64 0),.d (.int .i64 0),.d (.int .i64 0)]) Vy Vy rfl b9).trans
  (ej (t:=7) (o:=1024) (b:=1021) (j:=6) (sz:=1) (off:=0) (cells:=[.d (.sl (p.vars.map λs=>[.str s])),.d (.sl (p.arrays.map arD)),.d (.sl (p.funcs.map fnD)),.d (.str inp),.d (.int .i64 (fu:Nat)),.osl 1022 gV 1 0 (z p.vars),.d .nsl,.osl 1023 (g 1023+1) 1 0 0,.d (.int .i64 0),.d (.int .i64 0),.d (.int .i64 0)]) VN VN rfl b9))
  (λm K=>∃k,m+k=z p.arrays/\K.f 7=.one (.ptr 1024 (K.gen 1024) 0)/\K.f 8=iv .i64 k/\K.f 3=.one (.ptr 1003 (K.gen 1003) 0)/\K.f 6=.one (.ptr 1006 (K.gen 1006) 0)/\K.obj 1003=S [.d (.sl (p.vars.map λs=>[.str s])),.d (.sl (p.arrays.map arD)),.d (.sl (p.funcs.map fnD))]/\K.obj 1006=S [.d (.int .i64 0),.d (.str []),.d (.int .i64 0)]/\
    K.obj 1024=S [.d (.sl (p.vars.map λs=>[.str s])),.d (.sl (p.arrays.map arD)),.d (.sl (p.funcs.map fnD)),.d (.str inp),.d (.int .i64 (fu:Nat)),.osl 1022 gV 1 0 (z p.vars),.osl 1021 (K.gen 1021) 1 0 k,.osl 1023 (K.gen 1023) 1 0 0,.d (.int .i64 0),.d (.int .i64 0),.d (.int .i64 0)]/\K.obj 1023=S []/\K.obj 1022=S (wM (List.replicate (z p.vars) 0))/\K.gen 1022=gV/\
    K.obj 1021=S ((List.range k).map λj=>C.osl (2000+j) (K.gen (2000+j)) 1 0 (alM p j))/\(∀j,j<k->K.obj (2000+j)=S (wM (List.replicate (alM p j) 0)))/\∀i,1100<=i->¬(2000<=i/\i<2000+k)->K.obj i=N) (z p.arrays) ?_ ?_
 .simp only[St.claimAt]
  refine⟨0,rfl,?_⟩;simp only[go_sem];refine⟨by rw[HY,PW],rfl,λj hj=>absurd hj a7,λi hi hn=>?_⟩
  (repeat rw[j8 (by omega)])
 rintro mm fs g1 av ⟨k,hm,q7,q8,q3,q6,B,o6,bl,cf,cu,q,cv,oA,bk⟩;simp only at q7 q8 q3 q6 B o6 bl cf cu q cv oA bk;have bs:=ac (k:=k) a7;by_cases af:k<z p.arrays
 .have Q:(k:Int)<(z p.arrays:Int):=a7
  have bf:(0:Int)<=(k:Int):=a7;obtain⟨a,ha⟩:=getq af;have cd:=getD_at (f:=arD) ha;obtain⟨c0,cc⟩:=an a (l6 ha);have b2:alM p k=a.2.toNat:=by unfold alM;rw[ha];rfl
  have X:z ((List.range k).map λj=>C.osl (2000+j) (g1 (2000+j)) 1 0 (alM p j))=k:=a8;simp only[go_sem,q7,q8,q3,B,Q,bf,j6];refine bY aA mixed aE [1043,1044,1021] [([7],[0,1,2],[],F),([7],[0,1],[],F),([33],[0,1],[],F),([34],[0,1],[],F),([35],[0,1],[],F),([3],[],[],F),([37],[],[],F),([8],[],[],F),([38,39],[],[],F),([40],[],[],F),([41],[],[],F),([42],[],[0],F),([43],[],[1],F),([36,44],[],[2],F),([32],[],[],F),([46],[],[],F),([47,45],[],[],T)] 3 rfl c8 rfl b9 ?_;simp only[go_sem]
  iterate 5 (apply aj;(case hg=>first|exact x9|exact⟨_,rfl,by decide,rfl⟩);(case U=>intro fa ga oa K' J;simp only[go_sem,q7,bl]at J|-;exact J))
  iterate 2 (apply aj;(case hg=>first|exact x9|exact⟨_,rfl,by decide,rfl⟩);(case U=>intro fa ga oa K' J;simp only[go_sem,q3,B]at J|-;exact J))
  iterate 4 (apply aj;(case hg=>first|exact x9|exact⟨_,rfl,by decide,rfl⟩);(case U=>intro fa ga oa K' J;simp only[go_sem,q8,bf,Q,j6,cd,arD]at J|-;exact J))
  (apply bF;(case hg=>exact x9);(case U=>intro fa ga oa K' J;simp only[go_sem]at J|-;exact⟨a7,a7,a7,a7,J⟩))
  (apply bF;(case hg=>first|exact x9|exact⟨_,rfl,by decide,rfl⟩);(case U=>intro fa ga oa K' J;simp only[go_sem]at J|-;exact J))
  (apply bF;(case hg=>exact x9);(case U=>intro fa ga oa K' J;simp only[go_sem,cv,X]at J|-;exact⟨a7,⟨b9,a7⟩,J⟩))
  iterate 2 (apply aj;(case hg=>first|exact x9|exact⟨_,rfl,by decide,rfl⟩);(case U=>intro fa ga oa K' J;simp only[go_sem,q7,bl]at J|-;exact J))
  refine bZ x9 ?_;intro K' a';simp only[go_sem];simp only[go_sem,bl];refine a' _ ?_;clear a' K';have z1:(2000+k=1021)=False:=by simp;omega
  have x:(2000+k=1024)=False:=by simp;omega
  have z3:(2000+k=1043)=False:=by simp;omega
  have z4:(2000+k=1044)=False:=by simp;omega
  have b4:(List.replicate a.2.toNat [C.d (.int .u32 0)]).flatten=wM (List.replicate (alM p k) 0):=by rw[HY,PW,b2]
  rw[b4,<-b2,s6 (F2 X)];simp only[go_sem,bs,q8];refine⟨mm-1,_,a7,Dq (t:=45) (id:=1043) (L:=2000+k) (o:=1021) (j:=k) (sz:=1) (off:=0) (len:=alM p k) (W:=1) (G:=0) (I:=k+1) (cs:=wM (List.replicate (alM p k) 0)) (cells:=((List.range k).map λj=>C.osl (2000+j) (g1 (2000+j)) 1 0 (alM p j))++[.osl 1043 (nxC (aW Tt 29+1) (g1 1043)) 1 0 (alM p k)]) Vy Vy (by simp only[go_sem,z1,x,z3,z4];exact bk _ a7 a7) Vy b9 a7 a7 (by rw[D4 (F2 X),X,J5];simp only[go_sem]),k+1,a7,?_⟩;have y:∀c,c<2000->(c=2000+k)=False:=λc Z=>by simp;omega
  simp only[St.rename];simp only[go_sem,z1,x,z3,z4,y 1003 b9,y 1006 b9,y 1021 b9,y 1022 b9,y 1023 b9,y 1024 b9,q7,q3,q6,B,o6,bl,cf,cu,q];refine⟨?_,λj hj=>?_,λi hi hn=>?_⟩
  .rw[I6 _ _ (F2 X),X,J5,B5]
   refine congr (congrArg HAppend.hAppend (Qj λj hj=>?_)) ?_
   .have:=D5.1 hj
    rw[j8 a7,j8 a7,j8 a7,j8 a7]
   .simp
  .rw[j8 a7]
   by_cases e:j=k
   .rw[l8 e,e]
   .rw[j8 e,j8 a7,j8 a7,j8 a7,j8 a7,j8 a7]
    exact oA j a7
  ·(repeat rw[j8 (by omega)])
   exact bk i hi a7
 have Q:¬(k:Int)<(z p.arrays:Int):=a7;obtain rfl:k=z p.arrays:=a7
 have al:SvM p inp fu gV (g1 1021) (λj=>g1 (2000+j)) g1 av (Mn.start p) 0:=by
  refine⟨λi=>?_,q,rfl,cv,λj _=>rfl,by simp[Mn.start],by simp[Mn.start],λj l hl=>?_⟩
  .unfold pS
   by_cases e1:i=1024
   .rw[l8 e1,e1,bl];rfl
   rw[j8 e1];by_cases e2:i=1023
   .rw[l8 e2,e2,cf];rfl
   rw[j8 e2];by_cases e3:i=1022
   .rw[l8 e3,e3,cu];rfl
   rw[j8 e3];by_cases e4:2000<=i/\i<2000+z p.arrays
   .rw[l8 e4]
    obtain⟨j,rfl⟩:∃j,i=2000+j:=⟨i-2000,a7⟩
    rw[oA j a7,O6];obtain⟨a,ha⟩:∃a,p.arrays[j]?=S a:=⟨_,v8 a7⟩
    simp only[Mn.start,x8,ha,z7,A5,alM]
   .rw[j8 e4]
  .simp only[Mn.start,x8]at hl
   obtain⟨a,ha,rfl⟩:=G1.1 hl;simp[alM,ha]
 have hB:=(Nj (p:=p) (inp:=inp) (fu:=fu) (gV:=gV) (gA:=g1 1021) (gk:=λj=>g1 (2000+j)) n).2.1 n (l7 _);have cb:∀i,3001<=i->av i=N:=λi hi=>bk i a7 a7;have ar:=hB (z p.funcs-1) [] (Mn.start p) sm a7 u (L0 _) 3001 g1 av 3000 (.one (.d .nsl)) b9 b9 b9 cb al (.inl ⟨rfl,rfl⟩);obtain⟨r,V⟩:∃r,Mn.runN p inp fu n=r:=⟨_,rfl⟩
 rw[show evB p (ap p) inp fu n (z p.funcs-1) [] (Mn.start p)=r from V]at ar;rw[V]at u|-;simp only[go_sem,q3,q8,B,Q,j6];refine dj aE rfl (by simp only[go_sem,q7,hw,j6];exact ar) ?_;rintro _ g2 bo ⟨v,ad,e',w,A1,K1,rfl,r4⟩;have P:∀i,i<1100->g2 i=upd g1 1023 w i/\bo i=pS p inp fu gV (g1 1021) w ad e' i (av i):=λi hi=>r4 i a7;have h:bo 1024=S (rnM p inp fu gV (g1 1021) w ad e'):=(P 1024 b9).2;have az:bo 1023=S (bM ad.out):=(P 1023 b9).2;have A:bo 1006=S [.d (.int .i64 0),.d (.str []),.d (.int .i64 0)]:=by rw[(P 1006 b9).2,pS,j8 b9,j8 b9,j8 b9,j8 a7];exact o6
 have u24:g2 1024=g1 1024:=(P 1024 b9).1;have E:g2 1006=g1 1006:=(P 1006 b9).1;have u23:g2 1023=w:=(P 1023 b9).1;have cm:=HU ad.out;unfold rnM at h;by_cases he:e'=0
 .subst he
  have a1:nV r=(1,ad.out,ad.tk):=by rw[A1.ok];rfl
  rw[a1];simp only[go_sem,q6,q7,h,u24];exact R3
 .have a1:nV r=(e',ad.out,ad.tk):=by rw[A1.en he];rfl
  have ca:¬(e':Int)=0:=a7;rw[a1];simp only[go_sem,q6,q7,h,u24,ca];exact R3
end
end Go.Proofs.YtlacbjnmkhndiaaGreatDoor
namespace Go.Emit
section
open Go.Lower (Ins Code Sig codeOf takes yM iV Good OkI fC)
open Go.Src (CFn ab aX sigs dX ai yO)
section
def inP(v i:Int)(b:Bool):Prop:=if b=T then 0<=v/\v<=i else v=0
def qz(x:MI):Prop:=(1<=x.1/\x.1<=27)/\inP x.2.1 15 (Asm.shape x.1.toNat).1/\inP x.2.2.1 15 (Asm.shape x.1.toNat).2.1/\inP x.2.2.2 (if (Asm.shape x.1.toNat).2.2=2 then 15 else 65535) (decide ((Asm.shape x.1.toNat).2.2≠0))
def nG{op r b v:Int}(h:op=16\/op=17)(V:0<=r/\r<=15)(e:0<=b/\b<=15)(g:0<=v/\v<=65535):qz (op,r,b,v):=by
 rcases h with rfl|rfl<;>exact⟨a8,V,e,g⟩
def ul{op r v:Int}(h:op=1\/op=2\/op=19\/op=20\/op=21\/op=25)(V:0<=r/\r<=15)(e:0<=v/\v<=65535):qz (op,r,0,v):=by
 rcases h with rfl|rfl|rfl|rfl|rfl|rfl<;>exact⟨a8,V,rfl,e⟩
def Vp{v:Int}(e:0<=v/\v<=65535):qz (18,0,0,v):=⟨a8,rfl,rfl,e⟩
def Ck{op a b c:Int}(h:4<=op/\op<=15)(g:0<=a/\a<=15)(i:0<=b/\b<=15)(Z:0<=c/\c<=15):qz (op,a,b,c):=by
 have e:Asm.shape op.toNat=(T,T,2):=by
  have j:4<=op.toNat/\op.toNat<=15:=a7;unfold Asm.shape;rw[j8 a7,j8 a7,l8 j]
 refine⟨⟨by simp only;omega,by simp only;omega⟩,?_⟩;simp only[e];exact⟨g,i,Z⟩
def Oh{op r:Int}(h:op=22\/op=23\/op=24)(V:0<=r/\r<=15):qz (op,r,0,0):=by
 rcases h with rfl|rfl|rfl<;>exact⟨a8,V,rfl,rfl⟩
def Vq:qz (26,0,0,0):=⟨b9,rfl,rfl,rfl⟩
def OkW(env:Int×Int->Int)(w:Nat->Wr):Prop:=gf w/\∀n,n+z (w n).code<=60000->∀x∈close env w n,qz x
variable{a b c d:Int}
section
variable{env:Int×Int->Int}{v w:Nat->Wr}
def cg(e:OkW env v)(g:OkW env w):OkW env (ak v w):=⟨kv e.1 g.1,λn i x I=>by
 rw[co e.1 g.1]at I;simp only[ak,j7]at i;rcases C4.1 I with h|h
 .exact e.2 n a7 x h
 .exact g.2 _ a7 x h⟩
def kV:OkW env dS:=⟨kw,λ_ _ _ h=>by cases h⟩
def dq(h:qz (a,b,c,d)):OkW env (ao a b c d):=⟨dm,λn _ x I=>by rw[fE,E0]at I;rw[I];exact h⟩
def um(h:qz (a,b,0,env (c,d))):OkW env (aq a b c d):=⟨iu,λn _ x I=>by rw[iw,E0]at I;rw[I];exact h⟩
variable{P:Plan}{f:Nat}{d b:Int}{fs:List CFn}
def kF{r k:Int}(V:0<=r/\r<=15)(e:0<=(P.base[f]?).getD 0+d-k/\(P.base[f]?).getD 0+d-k<=65535):OkW env (db P f d r k):=dq (nG (.inl rfl) V b9 e)
def pJ{r k:Int}(V:0<=r/\r<=15)(e:0<=(P.base[f]?).getD 0+d-k/\(P.base[f]?).getD 0+d-k<=65535):OkW env (cP P f d r k):=dq (nG (.inr rfl) V b9 e)
def AU{r n:Int}(V:0<=r/\r<=15)(e:0<=n/\n<4294967296):OkW env (jA r n):=by
 unfold jA;split
 .have:hi16 n=n/65536:=by unfold hi16;omega
  exact cg (dq (ul b9 V a7)) (dq (ul b9 V a7))
 .exact dq (ul b9 V a7)
def we{a:Int}:∀k:Nat,0<=a/\a+k<=65535->OkW env (iU a k)
 |0,_=>kV
 |k+1,h=>cg (we k a7) (dq (nG (.inr rfl) b9 b9 a7))
def DY{a c:Int}(h:0<=a/\a<=c/\c<=65000):OkW env (iq a c):=by
 unfold iq;split
 .exact we _ a7
 .refine A0 (λ_ _ h=>by cases h) λn e x I=>?_
  simp only[j9,l4]at e;simp only[close,Q3,A3,A9,E6]at I;rcases I with rfl|rfl|rfl|rfl|rfl|rfl
  .exact ul b9 b9 a7
  .exact ul b9 b9 a7
  .exact nG (.inr rfl) b9 b9 b9
  .exact Ck b9 b9 b9 b9
  .exact Ck b9 b9 b9 b9
  .exact ul b9 b9 a7
def yP{p i:Int}(e:0<=(P.base[f]?).getD 0/\(P.base[f]?).getD 0+d<=65535)(hd:p<=d)(g:0<=i/\i+p<=65535):∀k:Nat,(k:Int)<=p->OkW env (kE P f d p i k)
 |0,_=>kV
 |k+1,h=>cg (yP e hd g k a7) (cg (kF b9 a7) (dq (nG (.inr rfl) b9 b9 a7)))
structure JT (fs:List CFn) (P:Plan) (f:Nat) (W:Int):Prop where
 b:0<=(P.base[f]?).getD 0/\(P.base[f]?).getD 0<=32768
 k:0<=(P.back[f]?).getD 0/\(P.back[f]?).getD 0<=32768
 w:W<=32768
 fs:∀y∈fs,0<=y.params/\y.params<=y.slots/\0<=y.first/\y.first+y.slots<=W
def JU(a:∀q,0<=env q/\env q<=65535){W:Int}(H:JT fs P f W){x:Ins}{word:Bool}{t p:Int}(B:word=(((fs[f]?).map (·.word)).getD F))(m:takes (fs.map λx=>(x.params,x.word)) word x=S (t,p))(c:t<=d)(hd:d<=20000)(E:0<=d)(hW:yM W x):OkW env (jR fs P f d x):=by
 obtain⟨G,I⟩:=H.b;obtain⟨A,J⟩:=H.k;have K:=H.w;have l:(0:Int)<=1/\(1:Int)<=15:=b9;have n:(0:Int)<=2/\(2:Int)<=15:=b9;have r0:(0:Int)<=0/\(0:Int)<=15:=b9;have u:=rv m;rcases u with h|h|h|h|h|h|h|h|h|h|h|h|h
 all_goals simp only[jR,h,Int.reduceEq,↓reduceIte]
 all_goals simp only[takes,h,Int.reduceEq,Sw,Sv,or_self,E6,false_or,↓reduceIte,v7,IT]at m
 .exact cg (AU l (hW.1 h)) (pJ l a7)
 .have:=hW.2.1 (.inl h)
  exact cg (dq (nG (.inl rfl) l r0 a7)) (pJ l a7)
 .have:=hW.2.1 (.inr h)
  exact cg (kF l a7) (dq (nG (.inr rfl) l r0 a7))
 .have:=hW.2.2.1 (.inl h)
  exact cg (kF l a7) (cg (dq (ul b9 l a7)) (cg (dq (nG (.inl rfl) l l a7)) (pJ l a7)))
 .have:=hW.2.2.1 (.inr h)
  exact cg (kF l a7) (cg (dq (ul b9 l a7)) (cg (kF n a7) (dq (nG (.inr rfl) n l a7))))
 .exact cg (kF l a7) (cg (kF n a7) (cg (dq (Ck (hW.2.2.2 h) l l n)) (pJ l a7)))
 .exact cg (kF l a7) (cg (dq (Ck b9 l l r0)) (pJ l a7))
 .exact um (Vp (a _))
 .exact cg (kF l a7) (um (ul b9 l (a _)))
 .split at m
  .cases m
  rw[x8,Option.map_map]at m;obtain⟨y,o,m⟩:=G1.1 m;simp only[Function.comp,IT]at m;obtain⟨L,g,i,j⟩:=H.fs y (l6 o);unfold sq;rw[o];simp only;refine cg (yP a7 a7 a7 _ a7) (cg (um (ul b9 b9 (a _))) ?_);split
  .exact pJ l a7
  .exact kV
 .unfold jQ
  split
  .exact dq Vq
  have s:=cg (env:=env) (dq (nG (op:=16) (r:=14) (b:=0) (.inl rfl) b9 r0 ⟨A,a7⟩)) (dq (Oh (op:=22) (r:=14) b9 b9));simp only;rw[<-B];split
  .rename_i e
   rw[l8 e]at m;simp only[IT]at m;exact cg (kF l a7) s
  .exact s
 .exact cg (dq (Oh b9 l)) (pJ l a7)
 .exact cg (kF l a7) (dq (Oh b9 l))
def Gb{W:Int}(H:JT fs P f W):OkW env (jg fs P f):=by
 obtain⟨A,l⟩:=H.k;have m:=H.w;unfold jg;split
 .exact kV
 .cases e:fs[f]? with
  |none=>exact kV
  |some y=>
    obtain⟨n,g,i,j⟩:=H.fs y (l6 e);exact cg (dq (nG (.inr rfl) b9 b9 a7)) (DY a7)
def yQ(a:∀q,0<=env q/\env q<=65535){W:Int}(H:JT fs P f W){A:Lower.Code}{ds:List Int}{word:Bool}(g:word=(((fs[f]?).map (·.word)).getD F))
 (h:∀(k:Nat)(x:Ins×Int)(d:Int),A[k]?=S x->ds[k]?=S d->0<=d->yM W x.1/\d<=20000/\∃t p,takes (fs.map λx=>(x.params,x.word)) word x.1=S (t,p)/\t<=d):∀k,OkW env (eM fs P f A ds k)
 |0=>Gb H
 |k+1=>by
   have e:=yQ a H g h k;rw[eM];cases I:A[k]? with
   |none=>exact cg e kV
   |some x=>
     cases hd:ds[k]? with
     |none=>exact cg e kV
     |some d=>
       simp only;split
       .rename_i i
        obtain⟨U,j,t,p,l,m⟩:=h k x d I hd i;exact cg e (JU a H g l m j i U)
       .exact cg e kV
end
end
end
end Go.Emit

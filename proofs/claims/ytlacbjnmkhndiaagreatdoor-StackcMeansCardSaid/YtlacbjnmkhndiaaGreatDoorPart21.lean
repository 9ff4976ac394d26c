/- A part of the proof; no conditions. -/
import Derived.Test.YtlacbjnmkhndiaaGreatDoorPart20
set_option linter.unusedSimpArgs false
set_option linter.unusedVariables false
set_option linter.defProp false
set_option linter.unusedSectionVars false
open List renaming length -> z
open Option renaming some -> S, none -> N
open Bool renaming true -> T, false -> F
set_option maxHeartbeats 64000000
set_option maxRecDepth 100000
namespace Go.Mn
section
open Go.Emit (MI Plan ak dS jR ao aq db cP sq kE close co iw fE dm iu kv kw DS gf)
open Go.Src (Prog Fn Ex Stm ab sigs di aU ai bV jN eD kj)
open Go.Lower (Ins Code takes next cE cEs cAO jv one jM gY)
section
variable{name:Asm.Str}
section
variable{okI:Nat->Nat->Nat->Nat->Bool}{p:Prog}{C:List MI}{env:Int×Int->Int}{D:Nat}{Y:Lay okI p C env D}{inp:Asm.Str}{W fu:Nat}
variable(Y inp W)in
def BR(g:Nat)(gn:Src.Fn)(G:Sg)(c:Cf)(r:Rs Nat):Prop:=
 match r with
 |.ok v ad=>∃j c',Rn okI C inp D j c c'/\j+G.tk*W<=W+ad.tk*W/\c'.pc=c.l/\(gn.word=T->c'.a=v)/\Rl p ad c'.mem/\c'.rd=ad.rd/\c'.out=ad.out/\∀a:Int,(Y.ft (g+1)<=a/\a<Y.bk 0)\/Y.bk (g+1)<=a->c'.mem a=c.mem a
 |.en e ad=>e=5\/∃j,RE okI C inp D j c e ad.out/\j+G.tk*W<=W+ad.tk*W
 |.no=>True
variable(Y inp W fu)in
def GE(n:Nat):Prop:=∀(f:Nat)(fn:Src.Fn),p.funcs[f]?=S fn->∀(L:List Nat)(G:Sg)(e:Ex)(k:Nat)(d:Int)(c:Cf),Sub Y f fn k (cE k d (di (ai p).1 (iP fn (Y.ft f)) e))->Ste Y f fn k d L G c->XR Y inp W f fn k (k+z (cE k d (di (ai p).1 (iP fn (Y.ft f)) e))) d L G c (evE p (ap p) inp fu n f L G e)
variable(Y inp W fu)in
def GL(n:Nat):Prop:=∀(f:Nat)(fn:Src.Fn),p.funcs[f]?=S fn->∀(L:List Nat)(G:Sg)(l:List Ex)(k:Nat)(d:Int)(c:Cf),Sub Y f fn k (cEs k d (aU (ai p).1 (iP fn (Y.ft f)) l))->Ste Y f fn k d L G c->LR Y inp W f fn k (k+z (cEs k d (aU (ai p).1 (iP fn (Y.ft f)) l))) d L G c (z l) (dr p (ap p) inp fu n f L G l)
variable(Y inp W fu)in
def GB(n:Nat):Prop:=∀(g:Nat)(gn:Src.Fn),p.funcs[g]?=S gn->g+1<z p.funcs->∀(vs:List Nat)(G:Sg)(c:Cf),c.pc=Y.en g->(∀(i v:Nat),vs[i]?=S v->c.mem (Y.ft g+i)=v)->Rl p G c.mem->c.rd=G.rd->c.out=G.out->BR Y inp W g gn G c (evB p (ap p) inp fu n g vs G)
theorem oI(Y:Lay okI p C env D){f:Nat}{fn:Src.Fn}(hf:p.funcs[f]?=S fn)(s:Asm.Str):bV (ai p).1 (iP fn (Y.ft f)) s=((ap p f s).map (jN p (Y.ft f))).getD (0,0):=by
 obtain⟨V,b,g⟩:=Src.zU Y.snd;have hl:1<=z p.funcs:=by unfold Src.dX at V;simp at V;exact V.1.1.1
 obtain⟨L,c,_⟩:=Src.zV b hl;have a:=Src.qb c hf;unfold Src.jw at a;rw[s5]at a;unfold ap;rw[hf];exact Src.qV p fn (Y.ft f) L a.1 s
section
variable{f:Nat}{fn:Src.Fn}{k k' k1 k2:Nat}{d d' e:Int}{L:List Nat}{G ad H:Sg}{c c1 c':Cf}(hf:p.funcs[f]?=S fn)
include hf
theorem XR.bind{r:Rs Nat}{q:Nat->Sg->Rs Nat}(u:d<=e)(h:XR Y inp W f fn k k1 e L G c r)(b:k1<=k2)(g:∀v H c1,Ste Y f fn k1 (e+1) L H c1->c1.mem (Y.bs f+e)=v->Kp Y f e c.mem c1.mem->XR Y inp W f fn k1 k2 d L H c1 (q v H)):XR Y inp W f fn k k2 d L G c (r.bind q):=by
 cases r with
 |ok v H=>
   obtain⟨j,c1,i,U,ar,l,K⟩:=h;exact(g v H c1 ar l K).after i U λa m=>K a a7
 |en x H=>exact EO.mono hf h b
 |no=>trivial
theorem XO.then{v a:Nat}(h:XO Y inp W f fn k k1 d L G c v H)(b:∀c1,Ste Y f fn k1 (d+1) L H c1->c1.mem (Y.bs f+d)=v->XO Y inp W f fn k1 k2 d L H c1 a ad):XO Y inp W f fn k k2 d L G c a ad:=by
 obtain⟨j,c1,g,U,ar,i,K⟩:=h;exact(b c1 ar i).after g U K
theorem Ob{v r:Nat}(ar:Ste Y f fn k (d+1) L G c)(b:c.mem (Y.bs f+d)=v)(g:(Y.cd f fn)[k]?=S (⟨8,(r:Nat),0,0⟩,d'))(V:k+1<=r):XO Y inp W f fn k r d L G c v G:=by
 obtain⟨c',i,j,Q,a⟩:=AN hf ar g;have:=iT (Y:=Y) hf V;exact⟨1,c',i,a7,Q,by rw[a];exact b,by rw[a];exact .refl⟩
theorem RG(ar:Ste Y f fn k d L G c)(a:(Y.cd f fn)[k]?=S (⟨2,(bV (ai p).1 (iP fn (Y.ft f)) name).1,0,0⟩,d')):XR Y inp W f fn k (k+1) d L G c (Fw (ap p f name) L G):=by
 have hd:=ar.rch.dp hf;rw[oI Y hf]at a;unfold Fw;cases m:ap p f name with
 |none=>trivial
 |some t=>
   obtain⟨g,i⟩:=t;simp only[m,z7,A5]at a|-;by_cases U:g=1
   .subst U
    rw[l8 rfl];cases hw:L[i]? with
    |none=>trivial
    |some v=>
      have n:=(l5.1 hw).1;have:=ar.wl;have:=Y.fts f fn hf;have b:=ar.fr i v hw;have:=FH (inp:=inp) (W:=W) hf ar a (by simp only[jN,show ¬(1:Nat)=3 by decide,A8,B1];omega);simp only[jN,show ¬(1:Nat)=3 by decide,A8,B1,b]at this;exact this
   .rw[j8 U]
    by_cases l:g=2
    .subst l
     rw[l8 rfl];cases hw:G.vars[i]? with
     |none=>trivial
     |some v=>
       have n:=(qw (Y:=Y) hf ar.gl).1 i v hw;have o:=Y.ftm (i:=0) (j:=f) a7 WO;have b:=ar.gl.v i v hw;have:=FH (inp:=inp) (W:=W) hf ar a (by simp only[jN,show ¬(2:Nat)=3 by decide,show ¬(2:Nat)=1 by decide,A8];omega);simp only[jN,show ¬(2:Nat)=3 by decide,show ¬(2:Nat)=1 by decide,A8,b]at this;exact this
    .rw[j8 l];trivial
theorem RH{x:Nat}(ar:Ste Y f fn k (d+1) L G c)(o:0<=d)(I:c.mem (Y.bs f+d)=x)(m:(Y.cd f fn)[k]?=S (⟨4,(bV (ai p).1 (iP fn (Y.ft f)) name).1,(bV (ai p).1 (iP fn (Y.ft f)) name).2,0⟩,d')):XR Y inp W f fn k (k+1) d L G c (Fx (ap p f name) G x):=by
 have hd:=ar.rch.dp hf;rw[oI Y hf]at m;unfold Fx;cases q:ap p f name with
 |none=>trivial
 |some t=>
   obtain⟨r,i⟩:=t;simp only[q,z7,A5]at m|-;by_cases n:r=3
   .subst n
    rw[l8 rfl];simp only[jN,B1]at m;by_cases g:x<4294967296
    case neg=>rw[j8 g];trivial
    rw[l8 g];cases hw:G.arrs[i]? with
    |none=>trivial
    |some l=>
      obtain⟨s,u,E⟩:=(qw (Y:=Y) hf ar.gl).2 i l hw;have b:=Y.ftm (i:=0) (j:=f) a7 WO;rw[E]at m;have hl:=JO (inp:=inp) (W:=W) (v:=0) hf ar m o I a7;show XR Y inp W f fn k (k+1) d L G c (match l[x]? with|some v=>.ok v G|none=>.en 3 G);cases g:l[x]? with
      |some v=>
        have:=(l5.1 g).1;rw[l8 a7,ar.gl.a i l hw x v g]at hl;exact hl
      |none=>
        rw[N0]at g;rw[j8 a7]at hl;exact hl
   .rw[j8 n];trivial
theorem Ch{g:Nat}{gn:Src.Fn}(hg:p.funcs[g]?=S gn)(r:g<f){n:Nat}(s:(z gn.params:Int)<=d)(ar:Ste Y f fn k d L G c):∀m:Nat,m<=z gn.params->At C c.pc (close env (kE Y.P f d (z gn.params) (Y.ft g) m) n)->∃c',Rn okI C inp D (2*m) c c'/\c'.pc=c.pc+2*m/\(close env (kE Y.P f d (z gn.params) (Y.ft g) m) n).length=2*m/\(∀a:Int,a<Y.ft g\/Y.ft (g+1)<=a->c'.mem a=c.mem a)/\(∀i:Nat,i<m->c'.mem (Y.ft g+i)=c.mem (Y.bs f+d-z gn.params+i))/\c'.rd=c.rd/\c'.out=c.out
 |0,_,_=>⟨c,.refl,rfl,rfl,λ_ _=>rfl,λi b=>absurd b a7,rfl,rfl⟩
 |m+1,hm,l=>by
   have t:=(Y.base f fn hf).1;have v:∀m,gf (kE Y.P f d (z gn.params) (Y.ft g) m):=λm=>(Emit.ry (Q:=λ_=>True) m).inner
   have Z:close env (kE Y.P f d (z gn.params) (Y.ft g) (m+1)) n=close env (kE Y.P f d (z gn.params) (Y.ft g) m) n++[(16,1,0,Y.bs f+d-(z gn.params-m)),(17,1,0,Y.ft g+m)]:=by
    rw[kE];unfold db;rw[co (v m) (kv dm dm),t];rfl
   rw[Z]at l;obtain⟨u,o⟩:=l.app;obtain⟨c1,w,y,l1,q,E,x,o1⟩:=Ch hg r s ar m a7 u;rw[l1,<-y]at o;have hd:=ar.rch.dp hf;have hD:=Y.hD;have az:=(l5.1 hg).1;have B:=(l5.1 hf).1;have U:=Y.ftm (i:=g+1) (j:=f) a7 a7;have I:=Y.ftm (i:=0) (j:=g) a7 a7;have J:=Y.fts g gn hg;have K:=Y.globs;refine⟨_,(w.trans ((vu Y.dec o.hd a7 a7).trans (tZ Y.dec (c:=⟨c1.pc+1,_,_,_,_,_,_,_⟩) o.tl.hd a7 a7))),by simp only;omega,by rw[Z,j7,l1];rfl,λa A=>?_,λi b=>?_,x,o1⟩
   .simp only
    rw[fA a7];exact q a A
   .simp only
    by_cases e:i=m
    .subst e
     rw[pj,q _ a7];congr 1;omega
    .rw[fA a7]
     exact E i a7
theorem FI{g:Nat}{vs:List Nat}{r:Nat->Sg->Rs Nat}{w:Bool}{n:Nat}(hB:GB Y inp W fu n)(ar:Ste Y f fn k (d+z vs) L G c)(h0:0<=d)(hk:(Y.cd f fn)[k]?=S (⟨10,(g:Nat),0,0⟩,d')){gn:Src.Fn}(hg:p.funcs[g]?=S gn)(cb:g<f)(b8:z vs=z gn.params)(hv:∀(i v:Nat),vs[i]?=S v->c.mem (Y.bs f+d+i)=v):
  match tick fu G λa6=>evB p (ap p) inp fu n g vs a6 with
  |.ok v ad=>∃j c',Rn okI C inp D j c c'/\j+Y.pl f k+G.tk*W<=Y.pl f (k+1)+ad.tk*W/\Ste Y f fn (k+1) (if gn.word=T then d+1 else d) L ad c'/\(gn.word=T->c'.mem (Y.bs f+d)=v)/\Kp Y f d c.mem c'.mem
  |.en e ad=>EO Y inp W f k (k+1) G c e ad
  |.no=>True:=by
 have az:=(l5.1 hg).1;have b3:=(l5.1 hf).1;have s:(sigs p.funcs)[g]?=S ((z gn.params:Int),gn.word):=by unfold sigs;rw[x8,hg];rfl
 have an:takes (sigs p.funcs) fn.word ⟨10,(g:Nat),0,0⟩=S ((z gn.params:Int),if gn.word then 1 else 0):=by
  have:¬((g:Nat):Int)<0:=a7;simp[takes,s,this]
 obtain⟨hR,a1⟩:=ar.rch.nx hf hk an (j:=k+1) WQ;rw[b8]at hR ar
 have hR:Rch Y f fn (k+1) (if gn.word=T then d+1 else d):=by
  rw[show (if gn.word=T then d+1 else d)=d+(z gn.params:Int)-z gn.params+(if gn.word then 1 else 0) by split<;>omega];exact hR
 have hd:=ar.rch.dp hf;have av:=hR.dp hf;have hD:=Y.hD;have hb:=(Y.base f fn hf).1;have X:=Y.ftm (i:=g+1) (j:=f) a7 a7;have J:=Y.ftm (i:=0) (j:=g) a7 a7;have B:=Y.fts g gn hg;have K:=Y.bkm (i:=g+1) (j:=f) a7 a7;have y:=Y.globs;unfold tick;by_cases af:G.tk<fu
 case neg=>rw[j8 af];exact .inl rfl
 rw[l8 af];dsimp only;have hy:(ab p).funcs[((g:Nat):Int).toNat]?=S (xP p gn (Y.ft g)):=by rw[B3];exact Y.fs g gn hg
 have hI:∀m,gf (kE Y.P f (d+z gn.params) (z gn.params) (Y.ft g) m):=λm=>(Emit.ry (Q:=λ_=>True) m).inner
 have b0:close env (jR (ab p).funcs Y.P f (d+z gn.params) ⟨10,(g:Nat),0,0⟩) (Y.pl f k)=close env (kE Y.P f (d+z gn.params) (z gn.params) (Y.ft g) (z gn.params)) (Y.pl f k)++((21,14,0,((Y.en g:Nat):Int))::(if gn.word=T then [(17,1,0,Y.bs f+(d+z gn.params)-z gn.params)]else [])):=by
  show close env (sq (ab p).funcs Y.P f (d+z gn.params) (g:Nat)) _=_;unfold sq;rw[hy];show close env (ak (kE Y.P f (d+z gn.params) (z gn.params) (Y.ft g) (z gn.params:Int).toNat) (ak (aq 21 14 (g:Nat) (-1)) (if gn.word=T then cP Y.P f (d+z gn.params) 1 (z gn.params)else dS))) _=_;rw[B3,co (hI _) (kv iu (by split;exact dm;exact kw)),co iu (by split;exact dm;exact kw),iw,(Y.at_ g gn hg).ent];unfold cP;rw[hb];split<;>rfl
 obtain⟨hA,hp⟩:=ar.at_ hf hk b0;obtain⟨u,o⟩:=hA.app;obtain⟨c1,r1,p1,l1,m1,E,x,o1⟩:=Ch (inp:=inp) hf hg cb a7 ar (z gn.params) (l7 _) u;rw[l1,<-p1]at o;have hC:=Y.hC
 have H:c1.pc<4294967295:=by
  have:=(l5.1 o.hd).1;omega
 have r2:=r1.trans (NY Y.dec o.hd H);rw[B3]at r2
 have l:=hB g gn hg a7 vs ⟨G.vars,G.arrs,G.out,G.rd,G.tk+1⟩ ⟨Y.en g,c1.a,c1.b,c1.t,c1.pc+1,c1.mem,c1.rd,c1.out⟩ rfl (λi v hi=>by
   have b5:=(l5.1 hi).1;simp only;rw[E i a7,show Y.bs f+(d+(z gn.params:Int))-z gn.params+i=Y.bs f+d+i by omega];exact hv i v hi)
  (by
    have A:=ar.gl.keep (Y:=Y) (m':=c1.mem) hf λa ha hb=>m1 a a7;exact⟨A.v,A.a,A.vl,A.al⟩) (x.trans ar.rd) (o1.trans ar.out)
 have bd:(close env (kE Y.P f (d+z gn.params) (z gn.params) (Y.ft g) (z gn.params)) (Y.pl f k)++((21,14,0,((Y.en g:Nat):Int))::(if gn.word=T then [(17,1,0,Y.bs f+(d+z gn.params)-z gn.params)]else []))).length=2*z gn.params+1+(if gn.word=T then 1 else 0):=by
  rw[j7,l1,j9];split<;>simp
 rw[bd]at hp;have Z:=ar.pc;unfold BR at l;cases V:evB p (ap p) inp fu n g vs ⟨G.vars,G.arrs,G.out,G.rd,G.tk+1⟩with
 |no=>trivial
 |en e ad=>
   rw[V]at l;rcases l with h|⟨j,U,h2⟩
   .exact .inl h
   .refine .inr ⟨_,r2.re U,?_⟩
    simp only[E7,P6]at h2;omega
 |ok v ad=>
   rw[V]at l;obtain⟨j,c2,r3,h2,p2,w2,I,O,o2,K2⟩:=l;simp only[E7,P6]at h2;have q:∀a:Int,(Y.ft f<=a/\a<Y.bk 0)\/Y.bk f<=a->c2.mem a=c.mem a:=λa ha=>(K2 a a7).trans (m1 a a7);by_cases hw:gn.word=T
   .rw[l8 hw]at hR hp o av
    rw[l8 hw];refine⟨_,_,(r2.trans r3).trans (tZ Y.dec (by rw[p2];exact o.tl.hd) a7 a7),a7,⟨by show c2.pc+1=_;rw[p2];simp only;omega,hR,I.keep (Y:=Y) hf λa ha hb=>fA a7,ar.fr.keep hf ar.wl λa ha hb=>(fA a7).trans (q a a7),ar.wl,O,o2⟩,λ_=>?_,λa ha=>(fA a7).trans (q a a7)⟩;simp only;rw[show Y.bs f+(d+(z gn.params:Int))-z gn.params=Y.bs f+d by omega,pj];exact w2 hw
   .rw[j8 hw]at hR hp av
    rw[j8 hw];exact⟨_,c2,r2.trans r3,a7,⟨by rw[p2];simp only;omega,hR,I,ar.fr.keep hf ar.wl λa ha hb=>q a a7,ar.wl,O,o2⟩,λh=>absurd h hw,λa ha=>q a a7⟩
end
end
end
end
section
open Go.Emit (MI)
open Go.Src (Prog Fn Ex Stm ab di aU ai bV jN)
open Go.Lower (Ins Code cE cEs cAO jv one jM gY)
section
section
variable{okI:Nat->Nat->Nat->Nat->Bool}{p:Prog}{C:List MI}{env:Int×Int->Int}{D:Nat}{Y:Lay okI p C env D}{inp:Asm.Str}{W fu:Nat}
theorem sk{f n g:Nat}{t:Option (Nat×Nat)}{w:Bool}(h:fY p f t n w=S g):t=S (4,g)/\g<f/\∃gn,p.funcs[g]?=S gn/\gn.word=w/\z gn.params=n:=by
 unfold fY at h;split at h
 .rename_i k i
  split at h
  .rename_i Z
   cases h;obtain⟨rfl,e,a⟩:=Z;refine⟨rfl,e,?_⟩;cases b:p.funcs[g]? with
   |none=>rw[b]at a;cases a
   |some gn=>
     rw[b]at a;simp only[Sk,s5,I3]at a;exact⟨gn,rfl,a⟩
  .cases h
 .cases h
section
variable{f:Nat}{fn:Src.Fn}{k:Nat}{d o:Int}{L:List Nat}{G ad:Sg}{c:Cf}(hf:p.funcs[f]?=S fn)
include hf
theorem Vm{v:Nat}{b d2:Int}(ar:Ste Y f fn k (d+1) L G c)(a:0<=d)(g:c.mem (Y.bs f+d)=v)(U:(Y.cd f fn)[k]?=S (⟨7,0,0,0⟩,b))(h:(Y.cd f fn)[k+1]?=S (⟨7,0,0,0⟩,d2)):XR Y inp W f fn k (k+1+1) d L G c (kD v G):=by
 unfold kD;split
 case isFalse=>trivial
 rename_i j;have:=XO.then hf (Cg (inp:=inp) (W:=W) hf ar U a g) λl Q i=>Cg hf Q h a i
 have e:(if (if v=0 then 1 else 0)=0 then 1 else 0)=v:=by rcases(by omega:v=0\/v=1)with rfl|rfl<;>rfl
 rw[e]at this;exact this
theorem FJ{y:Nat}{g q d2 r s t:Int}{B:Lower.Code}{rb:Rs Nat}(ar:Ste Y f fn k (d+1) L G c)(l:0<=d)(u:c.mem (Y.bs f+d)=y)(i:Sub Y f fn k ((⟨9,((k+3:Nat):Int),0,0⟩,q)::(⟨1,0,0,g⟩,d2)::(⟨8,((k+3+z B+2:Nat):Int),0,0⟩,r)::(B++[(⟨7,0,0,0⟩,s),(⟨7,0,0,0⟩,t)])))(a:0<=g/\g<4294967296)
 (w:∀c,Ste Y f fn (k+3) d L G c->XR Y inp W f fn (k+3) (k+3+z B) d L G c rb):XR Y inp W f fn k (k+3+z B+2) d L G c (if y=0 then rb.bind kD else .ok g.toNat G):=by
 obtain⟨m,n,E,X,x⟩:=xh (inp:=inp) hf ar i.hd l u;have b:Kp Y f d c.mem m.mem:=by rw[x];exact .refl
 by_cases o:y=0
 .rw[l8 o]at X|-
  have I:=iT (Y:=Y) hf (show k+1<=k+3 by omega);refine XR.after (H:=G) n (k1:=k+3) a7 b ?_;obtain⟨_,e⟩:=(i.tl.tl.tl).app;exact XR.bind hf (C5 d) (w m X) a7 λv K A J j O=>Vm hf J l j e.hd e.tl.hd
 .rw[j8 o]at X|-
  refine XR.after (H:=G) n (k1:=k+1) a7 b ?_;exact XO.then (k1:=k+1+1) hf (AM hf X i.tl.hd a) λA J j=>Ob hf J j i.tl.tl.hd a7
end
theorem XR.cast{f:Nat}{fn:Src.Fn}{k k1 a:Nat}{d:Int}{L:List Nat}{G:Sg}{c:Cf}{r:Rs Nat}(h:XR Y inp W f fn k k1 d L G c r)(e:k1=a):XR Y inp W f fn k a d L G c r:=e▸h
theorem JP{n:Nat}(s:GE Y inp W fu n)(t:GL Y inp W fu n):GL Y inp W fu (n+1):=by
 intro f fn hf L G l k d c m ar;cases l with
 |nil=>
   rw[aU,cEs,dr];exact⟨⟨0,c,.refl,a8,by simpa using ar,λi v h=>by simp at h,.refl⟩,rfl⟩
 |cons a l=>
   rw[aU,cEs]at m;rw[aU,cEs,dr,j7,<-C0];obtain⟨u,bl⟩:=m.app;have U:=s f fn hf L G a k d c u ar;cases V:evE p (ap p) inp fu n f L G a with
   |no=>trivial
   |en e H=>rw[V]at U;exact EO.mono hf U a7
   |ok v H=>
     rw[V]at U;obtain⟨j,w,o,y,Q,A,B⟩:=U;have b:=t f fn hf L H l _ (d+1) w bl Q;show LR Y inp W f fn k _ d L G c _ ((dr p (ap p) inp fu n f L H l).bind λvs g=>.ok (v::vs) g);cases q:dr p (ap p) inp fu n f L H l with
     |no=>trivial
     |en e g=>rw[q]at b;exact EO.after o y b
     |ok vs g=>
       rw[q]at b;obtain⟨⟨E,I,J,Z,K,O,r⟩,X⟩:=b;have hd:=ar.rch.dp hf;have h0:=ar.rch.1;refine⟨⟨j+E,I,o.trans J,a7,?_,λi x hi=>?_,B.trans r a7⟩,by simp[X]⟩
       .rw[show d+(z (v::vs):Int)=d+1+z vs by simp only[j9];omega];exact K
       .cases i with
        |zero=>
          simp at hi;subst hi;have av:=Q.rch.dp hf;rw[show Y.bs f+d+((0:Nat):Int)=Y.bs f+d by omega,r _ a7];exact A
        |succ i=>
          rw[show Y.bs f+d+((i+1:Nat):Int)=Y.bs f+(d+1)+i by omega];exact O i x WG
theorem JQ{n:Nat}(E:GE Y inp W fu n)(hL:GL Y inp W fu n)(hB:GB Y inp W fu n):GE Y inp W fu (n+1):=by
 intro f fn hf L G e k d c s ar;have K:=ar.rch.1;obtain⟨kind,op,num,name,o⟩:=e;rw[di,cE]at s;rw[di,cE,evE];by_cases U:kind=1
 .subst U
  simp only[show ¬((1:Int)=8\/(1:Int)=9) by decide,A8,B1]at s|-;cases o with
  |cons=>trivial
  |nil=>
    rw[aU,cEs,A6]at s;rw[aU,cEs,A6];unfold l0;simp only;split
    .rename_i hn
     exact AM hf ar s.hd hn
    .trivial
 by_cases h2:kind=2
 .subst h2
  simp only[show ¬((2:Int)=8\/(2:Int)=9) by decide,A8,B1,show ¬(2:Int)=1 by decide]at s|-;cases o with
  |cons=>trivial
  |nil=>
    rw[aU,cEs,A6]at s;rw[aU,cEs,A6];exact RG hf ar s.hd
 by_cases h3:kind=3
 .subst h3
  simp only[show ¬((3:Int)=8\/(3:Int)=9) by decide,A8,B1,show ¬(3:Int)=1 by decide,show ¬(3:Int)=2 by decide]at s|-
  match o with
  |[]=>trivial
  |_::_::_=>trivial
  |[a]=>
    simp only[aU,cEs,s7]at s|-;obtain⟨u,bl⟩:=s.app;rw[j7,<-C0];exact XR.bind hf (C5 d) (E f fn hf L G a k d c u ar) (L4 _ _) λv H X Q B K1=>RH hf Q K B bl.hd
 by_cases h4:kind=4
 .subst h4
  simp only[show ¬((4:Int)=8\/(4:Int)=9) by decide,A8,B1,show ¬(4:Int)=1 by decide,show ¬(4:Int)=2 by decide,show ¬(4:Int)=3 by decide]at s|-;cases Z:fY p f (ap p f name) (z o) T with
  |none=>trivial
  |some g=>
    obtain⟨ht,cb,gn,hg,q,O⟩:=sk Z;obtain⟨u,bl⟩:=s.app;rw[j7,<-C0];have i:=hL f fn hf L G o k d c u ar;show XR Y inp W f fn k _ d L G c ((dr p (ap p) inp fu n f L G o).bind λvs H=>tick fu H λJ=>evB p (ap p) inp fu n g vs J);cases V:dr p (ap p) inp fu n f L G o with
    |no=>trivial
    |en e H=>rw[V]at i;exact EO.mono hf i a7
    |ok vs H=>
      rw[V]at i;obtain⟨⟨j,X,r1,e1,Q,B,K1⟩,b8⟩:=i;have hk:=bl.hd;rw[oI Y hf,ht]at hk;have l:=FI (inp:=inp) (W:=W) (fu:=fu) (r:=λ_ _=>.no) (w:=T) hf hB Q K hk hg cb a7 B;show XR Y inp W f fn k _ d L G c (tick fu H λJ=>evB p (ap p) inp fu n g vs J);cases hq:tick fu H λJ=>evB p (ap p) inp fu n g vs J with
      |no=>trivial
      |en e J=>rw[hq]at l;exact EO.after r1 e1 l
      |ok v J=>
        rw[hq]at l;obtain⟨j2,c2,r2,e2,S2,m2,K2⟩:=l;rw[l8 q]at S2;exact XO.after r1 e1 K1 ⟨j2,c2,r2,e2,S2,m2 q,K2⟩
 by_cases h5:kind=5
 .subst h5
  simp only[show ¬((5:Int)=8\/(5:Int)=9) by decide,A8,B1,show ¬(5:Int)=1 by decide,show ¬(5:Int)=2 by decide,show ¬(5:Int)=3 by decide,show ¬(5:Int)=4 by decide]at s|-;cases o with
  |cons=>trivial
  |nil=>
    rw[aU,cEs,A6]at s;rw[aU,cEs,A6];exact RF hf ar s.hd
 by_cases h6:kind=6
 .subst h6
  simp only[show ¬((6:Int)=8\/(6:Int)=9) by decide,A8,B1,show ¬(6:Int)=1 by decide,show ¬(6:Int)=2 by decide,show ¬(6:Int)=3 by decide,show ¬(6:Int)=4 by decide,show ¬(6:Int)=5 by decide]at s|-
  match o with
  |[]=>trivial
  |[_]=>trivial
  |_::_::_::_=>trivial
  |[a,b]=>
    simp only[aU,cEs,s7]at s|-;obtain⟨u,bl⟩:=s.app;obtain⟨b0,u⟩:=u.app;simp only[j7,<-C0]at bl|-;refine XR.bind hf (C5 d) (E f fn hf L G a k d c b0 ar) a7 λx H X Q B K1=>?_;refine XR.bind hf (e:=d+1) a7 (E f fn hf L H b _ (d+1) X u Q) a7 λy J c2 S2 m2 K2=>?_;have hd:=Q.rch.dp hf;exact Vl hf (by rw[show d+2=d+1+1 by omega];exact S2) bl.hd K ((K2 _ a7).trans B) m2
 by_cases h7:kind=7
 .subst h7
  simp only[show ¬((7:Int)=8\/(7:Int)=9) by decide,A8,B1,show ¬(7:Int)=1 by decide,show ¬(7:Int)=2 by decide,show ¬(7:Int)=3 by decide,show ¬(7:Int)=4 by decide,show ¬(7:Int)=5 by decide,show ¬(7:Int)=6 by decide]at s|-
  match o with
  |[]=>trivial
  |_::_::_=>trivial
  |[a]=>
    simp only[aU,cEs,s7]at s|-;obtain⟨u,bl⟩:=s.app;rw[j7,<-C0];refine XR.bind hf (C5 d) (E f fn hf L G a k d c u ar) (L4 _ _) λv H X Q B K1=>?_;exact Cg hf Q bl.hd K B
 by_cases h8:kind=8
 .subst h8
  simp only[Sv,B1,A8,show ¬(8:Int)=1 by decide,show ¬(8:Int)=2 by decide,show ¬(8:Int)=3 by decide,show ¬(8:Int)=4 by decide,show ¬(8:Int)=5 by decide,show ¬(8:Int)=6 by decide,show ¬(8:Int)=7 by decide]at s|-
  match o with
  |[]=>trivial
  |[_]=>trivial
  |_::_::_::_=>trivial
  |[a,b]=>
    simp only[aU,cAO,jM,gY,jv,B1,Sq]at s|-;obtain⟨A,hA⟩:∃A,cE k d (di (ai p).1 (iP fn (Y.ft f)) a)=A:=⟨_,rfl⟩
    have m:=λs=>E f fn hf L G a k d c s ar;rw[hA]at s m|-;obtain⟨b0,u⟩:=s.app;obtain⟨t,u⟩:=u.app;refine XR.bind (k1:=k+z A) hf (C5 d) (m b0) V4 λx H X Q B K1=>?_;obtain⟨j2,c2,r2,e2,S2,m2,K2⟩:=Cg (inp:=inp) (W:=W) hf Q t.hd K B;refine XR.after r2 e2 K2 ?_;have hB:=λc ar=>E f fn hf L H b (k+z A+1+3) d c (u.tl.tl.tl).app.1 ar;have:=FJ (inp:=inp) (W:=W) (rb:=evE p (ap p) inp fu n f L H b) hf S2 K m2 u b9 hB;by_cases I:x=0
    .rw[l8 I,j8 b9]at this
     rw[l8 I];exact S8
    .rw[j8 I,l8 rfl]at this
     rw[j8 I];exact S8
 by_cases h9:kind=9
 .subst h9
  simp only[Sw,B1,A8,show ¬(9:Int)=1 by decide,show ¬(9:Int)=2 by decide,show ¬(9:Int)=3 by decide,show ¬(9:Int)=4 by decide,show ¬(9:Int)=5 by decide,show ¬(9:Int)=6 by decide,show ¬(9:Int)=7 by decide,show ¬(9:Int)=8 by decide]at s|-
  match o with
  |[]=>trivial
  |[_]=>trivial
  |_::_::_::_=>trivial
  |[a,b]=>
    simp only[aU,cAO,jM,gY,jv,A8,show ¬(9:Int)=8 by decide,A6,l4,J6]at s|-;obtain⟨A,hA⟩:∃A,cE k d (di (ai p).1 (iP fn (Y.ft f)) a)=A:=⟨_,rfl⟩
    have m:=λs=>E f fn hf L G a k d c s ar;rw[hA]at s m|-;obtain⟨b0,u⟩:=s.app;refine XR.bind (k1:=k+z A) hf (C5 d) (m b0) V4 λx H X Q B K1=>?_;have hB:=λc ar=>E f fn hf L H b (k+z A+3) d c (u.tl.tl.tl).app.1 ar;have:=FJ (inp:=inp) (W:=W) (rb:=evE p (ap p) inp fu n f L H b) hf Q K B u b9 hB;by_cases I:x=0
    .rw[l8 I]at this
     rw[l8 I];exact S8
    .rw[j8 I]at this
     rw[j8 I];unfold kD;split
     .obtain rfl:x=1:=a7
      exact S8
     .trivial
 simp only[U,h2,h3,h4,h5,h6,h7,h8,h9,A8];trivial
end
end
end
section
open Go.Emit (MI ak ao db cP jR jQ close co fE dm)
open Go.Src (Prog Fn Ex Stm ab ai bV jN eD kj)
open Go.Lower (Ins Code)
section
variable{v:Nat}{name:Asm.Str}
section
variable{okI:Nat->Nat->Nat->Nat->Bool}{p:Prog}{C:List MI}{env:Int×Int->Int}{D:Nat}{Y:Lay okI p C env D}{inp:Asm.Str}{W fu:Nat}
variable{f:Nat}{fn:Src.Fn}{k g k1 n:Nat}{d u:Int}{L:List Nat}{G ad H:Sg}{c c1 c':Cf}
variable(Y inp W f fn k g G c)in
def SO(bd:List Nat)(ad:Sg):Prop:=∃j c',Rn okI C inp D j c c'/\j+Y.pl f k+G.tk*W<=Y.pl f g+ad.tk*W/\Ste Y f fn g 0 bd ad c'/\Ks Y f c.mem c'.mem
variable(Y inp W f fn k g G c)in
def RO(v:Nat)(ad:Sg):Prop:=
 if f+1=z p.funcs then ∃j,RE okI C inp D j c 1 ad.out/\j+Y.pl f k+G.tk*W<=Y.pl f g+ad.tk*W
 else ∃j c',Rn okI C inp D j c c'/\j+Y.pl f k+G.tk*W<=Y.pl f g+ad.tk*W/\c'.pc=c.mem (Y.bk f)/\(fn.word=T->c'.a=v)/\Rl p ad c'.mem/\c'.rd=ad.rd/\c'.out=ad.out/\∀a:Int,(Y.ft (f+1)<=a/\a<Y.bk 0)\/Y.bk (f+1)<=a->c'.mem a=c.mem a
variable(Y inp W f fn k g G c)in
def SR(r:Rs (List Nat×Option Nat)):Prop:=
 match r with
 |.ok x ad=>(match x.2 with|none=>SO Y inp W f fn k g G c x.1 ad|some v=>RO Y inp W f fn k g G c v ad)
 |.en e ad=>EO Y inp W f k g G c e ad
 |.no=>True
variable(hf:p.funcs[f]?=S fn)
include hf
theorem bkbs:Y.bk f=(if f+1=z p.funcs then Y.bs f else Y.bs f-1):=by
 have:=(Y.base f fn hf).2.2.1;split at this<;>split<;>omega
theorem Ks.trans{m m1 b:Int->Nat}(U:Ks Y f m m1)(g:Ks Y f m1 b):Ks Y f m b:=λa e=>(g a e).trans (U a e)
theorem Kp.ks{m m1:Int->Nat}(h:Kp Y f d m m1)(b:0<=d):Ks Y f m m1:=λa e=>h a (by
 have:=Y.fts f fn hf;omega)
theorem SR.after{j:Nat}{r:Rs (List Nat×Option Nat)}(U:Rn okI C inp D j c c1)(n:j+Y.pl f k+G.tk*W<=Y.pl f k1+H.tk*W)(m:Ks Y f c.mem c1.mem)(h:SR Y inp W f fn k1 g H c1 r):SR Y inp W f fn k g G c r:=by
 match r with
 |.no=>trivial
 |.en e l=>exact EO.after U n h
 |.ok (L,N) l=>
   obtain⟨i,c',r,e,s,b⟩:=h;exact⟨j+i,c',U.trans r,a7,s,m.trans hf b⟩
 |.ok (L,S v) l=>
   have h:RO Y inp W f fn k1 g H c1 v l:=h;show RO Y inp W f fn k g G c v l;unfold RO at h|-;split
   .rename_i hl
    rw[l8 hl]at h;obtain⟨i,r,e⟩:=h;exact⟨j+i,U.re r,a7⟩
   .rename_i hl
    rw[j8 hl]at h;obtain⟨i,c',r,e,o,t,u,w,x,q⟩:=h;have y:=bkbs (Y:=Y) hf;rw[j8 hl]at y;exact⟨j+i,c',U.trans r,a7,by rw[o];exact m _ a7,t,u,w,x,λa A=>(q a A).trans (m a a7)⟩
theorem SR.mono{r:Rs (List Nat×Option Nat)}(h:SR Y inp W f fn k k1 G c r)(b:k1<=n)(g:∀bd ad,r=.ok (bd,N) ad->SO Y inp W f fn k k1 G c bd ad->SO Y inp W f fn k n G c bd ad):SR Y inp W f fn k n G c r:=by
 have j:=iT (Y:=Y) hf b
 match r with
 |.no=>trivial
 |.en e a=>exact EO.mono hf h b
 |.ok (L,N) a=>exact g L a rfl h
 |.ok (L,S v) a=>
   have h:RO Y inp W f fn k k1 G c v a:=h;show RO Y inp W f fn k n G c v a;unfold RO at h|-;split
   .rename_i hl
    rw[l8 hl]at h;obtain⟨i,r,e⟩:=h;exact⟨i,r,a7⟩
   .rename_i hl
    rw[j8 hl]at h;obtain⟨i,c',r,e,h⟩:=h;exact⟨i,c',r,a7,h⟩
theorem XR.bindS{r:Rs Nat}{q:Nat->Sg->Rs (List Nat×Option Nat)}(a:0<=d)(h:XR Y inp W f fn k k1 d L G c r)(b:k1<=n)(e:∀v H c1,Ste Y f fn k1 (d+1) L H c1->c1.mem (Y.bs f+d)=v->Kp Y f d c.mem c1.mem->SR Y inp W f fn k1 n H c1 (q v H)):SR Y inp W f fn k n G c (r.bind q):=by
 cases r with
 |ok v H=>
   obtain⟨j,c1,g,U,ar,i,K⟩:=h;exact(e v H c1 ar i K).after hf g U (K.ks hf a)
 |en x H=>exact EO.mono hf h b
 |no=>trivial
theorem FK(ar:Ste Y f fn k (0+1) L G c)(V:c.mem (Y.bs f+0)=v)(E:(Y.cd f fn)[k]?=S (⟨3,(bV (ai p).1 (iP fn (Y.ft f)) name).1,0,0⟩,u)):SR Y inp W f fn k (k+1) G c (Fy (ap p f name) L G v):=by
 obtain⟨n,_⟩:=ar.rch.nx hf E (t:=1) (q:=0) rfl (j:=k+1) (by simp[Lower.next]);have n:Rch Y f fn (k+1) 0:=n;have hd:=ar.rch.dp hf;have hD:=Y.hD;have s:=(Y.base f fn hf).1;have B:=Y.fts f fn hf;have J:=Y.ftm (i:=0) (j:=f) a7 WO;have az:=Y.globs;have b5:=ar.wl;have K:=bkbs (Y:=Y) hf
 obtain⟨m,w⟩:=ar.at_ hf E (l:=[(16,1,0,Y.bs f+(0+1)-1),(17,1,0,(bV (ai p).1 (iP fn (Y.ft f)) name).1)]) (by
  show close env (ak (db Y.P f (0+1) 1 1) (ao 17 1 0 _)) _=_;unfold db;rw[s];rfl)
 rw[oI Y hf]at m;have o:=ar.pc;simp only[j9,l4]at w;have r:=vu (inp:=inp) (D:=D) Y.dec m.hd a7 a7;rw[show Y.bs f+(0+1)-1=Y.bs f+0 by omega,V]at r;unfold Fy;cases X:ap p f name with
 |none=>trivial
 |some t=>
   obtain⟨O,i⟩:=t;simp only[X,z7,A5]at m|-;by_cases U:O=1
   .subst U
    rw[l8 rfl];by_cases g:i<z L
    case neg=>rw[j8 g];trivial
    rw[l8 g];simp only[jN,show ¬(1:Nat)=3 by decide,A8,B1]at m;refine⟨_,_,r.trans (tZ Y.dec (c:=⟨c.pc+1,_,_,_,_,_,_,_⟩) m.tl.hd a7 a7),a7,⟨w.symm,n,ar.gl.keep (Y:=Y) hf λa A s=>fA a7,λj x b=>?_,by rw[C2];exact ar.wl,ar.rd,ar.out⟩,λa A=>fA (by split at K<;>omega)⟩;rw[B9]at b;by_cases e:i=j
    .subst e
     rw[l8 rfl,l8 g]at b;cases b;exact pj
    .rw[j8 e]at b
     exact(fA a7).trans (ar.fr j x b)
   .rw[j8 U]
    by_cases Q:O=2
    .subst Q
     rw[l8 rfl];by_cases g:i<z G.vars
     case neg=>rw[j8 g];trivial
     rw[l8 g];simp only[jN,show ¬(2:Nat)=3 by decide,show ¬(2:Nat)=1 by decide,A8]at m;obtain⟨Z,g2⟩:=qw (Y:=Y) hf ar.gl;have y:=Z i _ (v8 g);have b8:=ar.gl.vl;refine⟨_,_,r.trans (tZ Y.dec (c:=⟨c.pc+1,_,_,_,_,_,_,_⟩) m.tl.hd a7 a7),by simp only;omega,⟨w.symm,n,⟨λj x b=>?_,λj l hl i' x I=>(fA (by have:=g2 j l hl;omega)).trans (ar.gl.a j l hl i' x I),by simp only[C2];exact b8,ar.gl.al⟩,ar.fr.keep hf ar.wl λa A s=>fA a7,ar.wl,ar.rd,ar.out⟩,λa A=>fA (by split at K<;>omega)⟩;simp only[B9]at b;by_cases e:i=j
     .subst e
      rw[l8 rfl,l8 g]at b;cases b;exact pj
     .rw[j8 e]at b
      exact(fA a7).trans (ar.gl.v j x b)
    .rw[j8 Q];trivial
omit hf in
theorem vW(h:Src.dX p=T){i j:Nat}(e:i<j){a:Asm.Str×Int}(b:p.arrays[i]?=S a):eD p i+a.2<=eD p j:=by
 have g:∀a∈p.arrays,1<=a.2:=by
  unfold Src.dX at h;simp only[s5,y8]at h;intro a b;have:=h.2.1 a b;exact xc
 have:=(Src.sF (p.arrays.take j) i a (λx I=>g x (M9 I)) (by rw[I1,l8 e];exact b)).1;rw[List.take_take,Sl a7]at this;unfold eD;omega
theorem xi{x v:Nat}(ar:Ste Y f fn k (0+1+1) L G c)(hm:c.mem (Y.bs f+0)=x)(hv:c.mem (Y.bs f+(0+1))=v)(n:(Y.cd f fn)[k]?=S (⟨5,(bV (ai p).1 (iP fn (Y.ft f)) name).1,(bV (ai p).1 (iP fn (Y.ft f)) name).2,0⟩,u)):SR Y inp W f fn k (k+1) G c (tW (ap p f name) L G x v):=by
 obtain⟨Q,_⟩:=ar.rch.nx hf n (t:=2) (q:=0) rfl (j:=k+1) (by simp[Lower.next]);have Q:Rch Y f fn (k+1) 0:=Q;have hd:=ar.rch.dp hf;have hD:=Y.hD;have U:=(Y.base f fn hf).1;have B:=Y.fts f fn hf;have J:=Y.ftm (i:=0) (j:=f) a7 WO;have az:=Y.globs;have K:=bkbs (Y:=Y) hf;rw[oI Y hf]at n;have o:=ar.pc;unfold tW;cases ht:ap p f name with
 |none=>trivial
 |some t=>
   obtain⟨kd,i⟩:=t;simp only[ht,z7,A5]at n|-;by_cases X:kd=3
   .subst X
    rw[l8 rfl];simp only[jN,B1]at n;by_cases m:x<4294967296
    case neg=>rw[j8 m];trivial
    rw[l8 m];cases hw:G.arrs[i]? with
    |none=>trivial
    |some l=>
      obtain⟨g1,g2⟩:=qw (Y:=Y) hf ar.gl;obtain⟨a1,a2,E⟩:=g2 i l hw;rw[E]at n
      obtain⟨s,Z⟩:=ar.at_ hf n (l:=[(16,1,0,Y.bs f+(0+1+1)-2),(25,1,0,(z l:Int)),(16,2,0,Y.bs f+(0+1+1)-1),(17,2,1,eD p i)]) (by
       show close env (ak (db Y.P f (0+1+1) 1 2) (ak (ao 25 1 0 _) (ak (db Y.P f (0+1+1) 2 1) (ao 17 2 1 _)))) _=_;unfold db;rw[U];rfl)
      simp only[j9,l4]at Z;have r:=vu (inp:=inp) (D:=D) Y.dec s.hd a7 a7;rw[show Y.bs f+(0+1+1)-2=Y.bs f+0 by omega,hm]at r;show SR Y inp W f fn k (k+1) G c (if x<z l then _ else .en 3 G);by_cases I:x<z l
      .rw[l8 I]
       have r:=r.trans ((MK Y.dec (c:=⟨c.pc+1,_,_,_,_,_,_,_⟩) s.tl.hd VL).trans (Ru Y.dec (c:=⟨c.pc+1+1,_,_,_,_,_,_,_⟩) s.tl.tl.hd a7 a7));simp only[show Y.bs f+(0+1+1)-1=Y.bs f+(0+1) by omega,hv]at r;refine⟨_,_,r.trans (Ve Y.dec (c:=⟨c.pc+1+1+1,_,_,_,_,_,_,_⟩) s.tl.tl.tl.hd VL a7),by simp only;omega,⟨Z.symm,Q,⟨λj y m=>?_,λj w hl O y g=>?_,ar.gl.vl,λj w hl=>?_⟩,ar.fr.keep hf ar.wl λa A U=>fA VL,ar.wl,ar.rd,ar.out⟩,λa A=>fA (by simp only;split at K<;>omega)⟩
       .have m:G.vars[j]?=S y:=m
        have:=ar.gl.vl;have:=(l5.1 m).1;exact(fA VL).trans (ar.gl.v j y m)
       .simp only[B9]at hl
        by_cases e:i=j
        .subst e
         rw[l8 rfl,l8 (l5.1 hw).1]at hl;cases hl;rw[B9]at g;by_cases e2:x=O
         .subst e2
          rw[l8 rfl,l8 I]at g;cases g;exact pj
         .rw[j8 e2]at g
          exact(fA VL).trans (ar.gl.a i l hw O y g)
        .rw[j8 e]at hl
         have bo:=(l5.1 g).1;obtain⟨a,A,b2⟩:=ar.gl.al i l hw;obtain⟨b,b7,cm⟩:=ar.gl.al j w hl;have V:=(Src.zU Y.snd).1;rcases Nat.lt_or_gt_of_ne e with q|q
         .have:=vW V q A
          exact(fA VL).trans (ar.gl.a j w hl O y g)
         .have:=vW V q b7
          exact(fA VL).trans (ar.gl.a j w hl O y g)
       .simp only[B9]at hl
        by_cases e:i=j
        .subst e
         rw[l8 rfl,l8 (l5.1 hw).1]at hl;cases hl;obtain⟨a,A,b2⟩:=ar.gl.al i l hw;exact⟨a,A,by rw[C2];exact b2⟩
        .rw[j8 e]at hl
         exact ar.gl.al j w hl
      .rw[j8 I]
       refine .inr ⟨1+1,?_,?_⟩
       .have:=r.re (ML Y.dec (c:=⟨c.pc+1,_,_,_,_,_,_,_⟩) s.tl.hd VL)
        rw[<-ar.out];exact this
       .omega
   .rw[j8 X];trivial
theorem FL(ar:Ste Y f fn k (0+1) L G c)(m:c.mem (Y.bs f+0)=v)(g:(Y.cd f fn)[k]?=S (⟨13,0,0,0⟩,u)):SR Y inp W f fn k (k+1) G c (Fz L G v):=by
 obtain⟨b,_⟩:=ar.rch.nx hf g (t:=1) (q:=0) rfl (j:=k+1) (by simp[Lower.next]);have b:Rch Y f fn (k+1) 0:=b;have hd:=ar.rch.dp hf;have hD:=Y.hD;have n:=(Y.base f fn hf).1
 obtain⟨e,i⟩:=ar.at_ hf g (l:=[(16,1,0,Y.bs f+(0+1)-1),(24,1,0,0)]) (by
  show close env (ak (db Y.P f (0+1) 1 1) (ao 24 1 0 0)) _=_;unfold db;rw[n];rfl)
 have o:=ar.pc;simp only[j9,l4]at i;have r:=vu (inp:=inp) (D:=D) Y.dec e.hd a7 a7;rw[show Y.bs f+(0+1)-1=Y.bs f+0 by omega,m]at r;unfold Fz;by_cases ho:65536<=z G.out
 .rw[l8 ho]
  refine .inr ⟨1+1,?_,?_⟩
  .have:=r.re (RC Y.dec (c:=⟨c.pc+1,_,_,_,_,_,_,_⟩) e.tl.hd (by simp only;rw[ar.out];exact ho))
   rw[<-ar.out];exact this
  .omega
 .rw[j8 ho]
  refine⟨_,_,r.trans (RB Y.dec (c:=⟨c.pc+1,_,_,_,_,_,_,_⟩) e.tl.hd (by simp only;rw[ar.out];exact ho)),by simp only;omega,⟨i.symm,b,⟨ar.gl.v,ar.gl.a,ar.gl.vl,ar.gl.al⟩,ar.fr,ar.wl,ar.rd,by simp only;rw[ar.out]⟩,λ_ _=>rfl⟩
theorem FM(ar:Ste Y f fn k d L G c)(m:fn.word=T->c.mem (Y.bs f+0)=v)(n:fn.word=T->d=1)(i:(Y.cd f fn)[k]?=S (⟨11,0,0,0⟩,u)):RO Y inp W f fn k (k+1) G c v G:=by
 have hd:=ar.rch.dp hf;have hD:=Y.hD;have j:=(Y.base f fn hf)
 have b:=Y.fs f fn hf;have q:=(l5.1 hf).1;have s:z (ab p).funcs=z p.funcs:=by unfold ab;exact Src.kN _ _ _
 have o:=ar.pc;unfold RO;by_cases hl:f+1=z p.funcs
 .rw[l8 hl]
  obtain⟨e,g⟩:=ar.at_ hf i (l:=[(26,0,0,0)]) (by
   show close env (jQ (ab p).funcs Y.P f d) _=_;unfold jQ;rw[l8 a7];rfl)
  simp only[j9,l4]at g;exact⟨_,by rw[<-ar.out];exact NZ Y.dec e.hd,a7⟩
 .rw[j8 hl]
  have K:=bkbs (Y:=Y) hf;rw[j8 hl]at K;have a:=Y.bks q;cases bz:fn.word with
  |true=>
    obtain rfl:=n bz
    obtain⟨e,g⟩:=ar.at_ hf i (l:=[(16,1,0,Y.bs f+1-1),(16,14,0,Y.bk f),(22,14,0,0)]) (by
     show close env (jQ (ab p).funcs Y.P f 1) _=_;unfold jQ db;rw[j8 a7,b];show close env (if fn.word=T then _ else _) _=_;rw[l8 bz,j.1,j.2.1];rfl)
    simp only[j9,l4]at g;have r:=vu (inp:=inp) (D:=D) Y.dec e.hd a7 a7;rw[show Y.bs f+1-1=Y.bs f+0 by omega,m bz]at r;refine⟨_,_,r.trans ((Rv Y.dec (c:=⟨c.pc+1,_,_,_,_,_,_,_⟩) e.tl.hd a7 a7).trans (MM Y.dec (c:=⟨c.pc+1+1,_,_,_,_,_,_,_⟩) e.tl.tl.hd)),a7,rfl,λ_=>rfl,ar.gl,ar.rd,ar.out,λ_ _=>rfl⟩
  |false=>
    obtain⟨e,g⟩:=ar.at_ hf i (l:=[(16,14,0,Y.bk f),(22,14,0,0)]) (by
     show close env (jQ (ab p).funcs Y.P f d) _=_;unfold jQ db;rw[j8 a7,b];show close env (if fn.word=T then _ else _) _=_;rw[j8 (by rw[bz];decide),j.2.1];rfl)
    simp only[j9,l4]at g;refine⟨_,_,(Rv Y.dec e.hd a7 a7).trans (MM Y.dec (c:=⟨c.pc+1,_,_,_,_,_,_,_⟩) e.tl.hd),a7,rfl,(λh=>by cases h),ar.gl,ar.rd,ar.out,λ_ _=>rfl⟩
end
end
end
end Go.Mn

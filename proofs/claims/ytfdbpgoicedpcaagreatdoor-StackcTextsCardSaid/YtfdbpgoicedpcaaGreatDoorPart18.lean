/- A part; no conditions. -/
import Derived.Test.YtfdbpgoicedpcaaGreatDoorPart17
set_option linter.all false
open List renaming length -> z
open Option renaming some -> S, none -> N
open Bool renaming true -> T, false -> F
set_option maxHeartbeats 64000000
set_option maxRecDepth 100000
namespace Go.Mn
section
open Go.Emit (MI Plan aD gg mK aE aJ eN ey xl nM close dr ky jb eT kx nw ny KD jJ)
open Go.Src (Prog Fn Ex Stm ab sigs eR bR ay cR mD ie nc)
open Go.Lower (Ins Code takes next cE cEs cAO lU one mC ke)
variable{name:Asm.Str}{okI:Nat->Nat->Nat->Nat->Bool}{p:Prog}{C:List MI}{env:Int×Int->Int}{D:Nat}{Y:Lay okI p C env D}{inp:Asm.Str}{W fu:Nat}
variable(Y inp W)in
def BR(g:Nat)(gn:Src.Fn)(G:Sg)(c:Cf)(r:Rs Nat):Prop:=
 match r with
 |.ok v ad=>∃j c',Rn okI C inp D j c c'/\j+G.tk*W<=W+ad.tk*W/\c'.pc=c.l/\(gn.word=T->c'.a=v)/\Rl p ad c'.mem/\c'.rd=ad.rd/\c'.out=ad.out/\∀a:Int,(Y.ft (g+1)<=a/\a<Y.bk 0)\/Y.bk (g+1)<=a->c'.mem a=c.mem a
 |.en e ad=>e=5\/∃j,RE okI C inp D j c e ad.out/\j+G.tk*W<=W+ad.tk*W
 |.no=>True
variable(Y inp W fu)in
def GE(n:Nat):Prop:=∀(f:Nat)(fn:Src.Fn),p.f[f]?=S fn->∀(L:List Nat)(G:Sg)(e:Ex)(k:Nat)(d:Int)(c:Cf),Sub Y f fn k (cE k d (eR (ay p).1 (iP fn (Y.ft f)) e))->Ste Y f fn k d L G c->XR Y inp W f fn k (k+z (cE k d (eR (ay p).1 (iP fn (Y.ft f)) e))) d L G c (evE p (aG p) inp fu n f L G e)
variable(Y inp W fu)in
def GL(n:Nat):Prop:=∀(f:Nat)(fn:Src.Fn),p.f[f]?=S fn->∀(L:List Nat)(G:Sg)(l:List Ex)(k:Nat)(d:Int)(c:Cf),Sub Y f fn k (cEs k d (bR (ay p).1 (iP fn (Y.ft f)) l))->Ste Y f fn k d L G c->LR Y inp W f fn k (k+z (cEs k d (bR (ay p).1 (iP fn (Y.ft f)) l))) d L G c (z l) (fc p (aG p) inp fu n f L G l)
variable(Y inp W fu)in
def GB(n:Nat):Prop:=∀(g:Nat)(gn:Src.Fn),p.f[g]?=S gn->g+1<z p.f->∀(vs:List Nat)(G:Sg)(c:Cf),c.pc=Y.en g->(∀(i v:Nat),vs[i]?=S v->c.mem (Y.ft g+i)=v)->Rl p G c.mem->c.rd=G.rd->c.out=G.out->BR Y inp W g gn G c (evB p (aG p) inp fu n g vs G)
theorem sw(Y:Lay okI p C env D){f}{fn}(X:p.f[f]?=S fn) s:cR (ay p).1 (iP fn (Y.ft f)) s=((aG p f s).map (mD p (Y.ft f))).getD (0,0):=by obtain⟨V,b,g⟩:=Src.FA Y.snd;obtain⟨L,H,_⟩:=Src.FB b (by unfold Src.ct at V;simp at V;exact V.1.1.1);have a:=Src.uh H X;unfold Src.mN at a;rw[l6]at a;unfold aG;rw[X];exact Src.vo p fn (Y.ft f) L a.1 s
variable{f:Nat}{fn:Src.Fn}{k E k1 k2:Nat}{d d' e:Int}{L:List Nat}{G ad H:Sg}{c c1 c':Cf}(X:p.f[f]?=S fn)
include X
theorem XR.bind{r}{q}(u:d<=e)(h:XR Y inp W f fn k k1 e L G c r)(b:k1<=k2)(g:∀v H c1,Ste Y f fn k1 (e+1) L H c1->c1.mem (Y.bs f+e)=v->Kp Y f e c.mem c1.mem->XR Y inp W f fn k1 k2 d L H c1 (q v H)):XR Y inp W f fn k k2 d L G c (r.bind q):=by cases r with|ok v H=>obtain⟨j,c1,i,U,ar,l,K⟩:=h;exact(g v H c1 ar l K).after i U λa m=>K a a7;|en x H=>exact EO.mono X h b;|no=>trivial
theorem XO.then{v a}(h:XO Y inp W f fn k k1 d L G c v H)(b:∀c1,Ste Y f fn k1 (d+1) L H c1->c1.mem (Y.bs f+d)=v->XO Y inp W f fn k1 k2 d L H c1 a ad):XO Y inp W f fn k k2 d L G c a ad:=by obtain⟨j,c1,g,U,ar,i,K⟩:=h;exact(b c1 ar i).after g U K
theorem WQ{v r}(ar:Ste Y f fn k (d+1) L G c)(i:c.mem (Y.bs f+d)=v)(a:(Y.cd f fn)[k]?=S (⟨8,(r:Nat),0,0⟩,d'))(V:k+1<=r):XO Y inp W f fn k r d L G c v G:=by obtain⟨c',b,j,o,g⟩:=GQ X ar a;have:=kT (Y:=Y) X V;exact⟨1,c',b,a7,o,by grind,by rw[g];exact .refl⟩
theorem aaH(ar:Ste Y f fn k d L G c)(a:(Y.cd f fn)[k]?=S (⟨2,(cR (ay p).1 (iP fn (Y.ft f)) name).1,0,0⟩,d')):XR Y inp W f fn k (k+1) d L G c (Mw (aG p f name) L G):=by have hd:=ar.rch.dp X;rw[sw Y X]at a;unfold Mw;cases l:aG p f name with|none=>trivial;|some t=>
 obtain⟨g,i⟩:=t;simp[l]at a|-;by_cases U:g=1;.subst U;rw[s5 rfl];cases hw:L[i]?with|none=>trivial;|some v=>have m:=(l9.1 hw).1;have:=ar.wl;have:=Y.fts f fn X;have:=MH (inp:=inp) (W:=W) X ar a (by simp[mD,show¬(1:Nat)=3 by decide];omega);simp[mD,show¬(1:Nat)=3 by decide,ar.fr i v hw]at this;exact this
 .rw[l4 U];by_cases Z:g=2;.subst Z;rw[s5 rfl];cases hw:G.v[i]?with|none=>trivial;|some v=>have m:=(uN (Y:=Y) X ar.gl).1 i v hw;have n:=Y.ftm (i:=0) (j:=f) a7 ZN;have:=MH (inp:=inp) (W:=W) X ar a (by simp only[mD,show¬(2:Nat)=3 by decide,show¬(2:Nat)=1 by decide,B1];omega);simp[mD,show¬(2:Nat)=3 by decide,show¬(2:Nat)=1 by decide,ar.gl.v i v hw]at this;exact this
  .rw[l4 Z];trivial
theorem aaI{x}(ar:Ste Y f fn k (d+1) L G c)(o:0<=d)(I:c.mem (Y.bs f+d)=x)(m:(Y.cd f fn)[k]?=S (⟨4,(cR (ay p).1 (iP fn (Y.ft f)) name).1,(cR (ay p).1 (iP fn (Y.ft f)) name).2,0⟩,d')):XR Y inp W f fn k (k+1) d L G c (Mx (aG p f name) G x):=by have hd:=ar.rch.dp X;rw[sw Y X]at m;unfold Mx;cases q:aG p f name with|none=>trivial;|some t=>
 obtain⟨r,i⟩:=t;simp[q]at m|-;by_cases n:r=3
 .subst n;rw[s5 rfl];simp[mD]at m;by_cases g:x<4294967296;case neg=>rw[l4 g];trivial
  rw[s5 g];cases hw:G.arrs[i]?with|none=>trivial;|some l=>obtain⟨u,w,s⟩:=(uN (Y:=Y) X ar.gl).2 i l hw;have b:=Y.ftm (i:=0) (j:=f) a7 ZN;rw[s]at m;have hl:=RD (inp:=inp) (W:=W) (v:=0) X ar m o I a7;show XR Y inp W f fn k (k+1) d L G c (match l[x]?with|some v=>.ok v G|none=>.en 3 G);cases g:l[x]?with|some v=>have:=(l9.1 g).1;rw[s5 a7,ar.gl.a i l hw x v g]at hl;exact hl;|none=>rw[N8]at g;rw[l4 a7]at hl;exact hl
 .rw[l4 n];trivial
theorem IB{g}{gn}(hg:p.f[g]?=S gn)(q:g<f){n}(r:(z gn.p)<=d)(ar:Ste Y f fn k d L G c):∀m:Nat,m<=z gn.p->At C c.pc (close env (nM Y.P f d (z gn.p) (Y.ft g) m) n)->∃c',Rn okI C inp D (2*m) c c'/\c'.pc=c.pc+2*m/\(close env (nM Y.P f d (z gn.p) (Y.ft g) m) n).length=2*m/\(∀a:Int,a<Y.ft g\/Y.ft (g+1)<=a->c'.mem a=c.mem a)/\(∀i:Nat,i<m->c'.mem (Y.ft g+i)=c.mem (Y.bs f+d-z gn.p+i))/\c'.rd=c.rd/\c'.out=c.out
 |0,_,_=>⟨c,.refl,rfl,rfl,λ_ _=>rfl,λi b=>absurd b a7,rfl,rfl⟩|m+1,hm,l=>by
  have v:close env (nM Y.P f d (z gn.p) (Y.ft g) (m+1)) n=close env (nM Y.P f d (z gn.p) (Y.ft g) m) n++[(16,1,0,Y.bs f+d-(z gn.p-m)),(17,1,0,Y.ft g+m)]:=by rw[nM];unfold eN;rw[dr ((λm=>(Emit.vV (Q:=λ_=>True) m).inner) m) (nw eT eT),(Y.base f fn X).1];rfl
  rw[v]at l;obtain⟨s,o⟩:=l.app;obtain⟨c1,w,y,l1,A,B,x,o1⟩:=IB hg q r ar m a7 s;rw[l1,<-y]at o;have hd:=ar.rch.dp X;have hD:=Y.hD;have I:=(l9.1 hg).1;have J:=(l9.1 X).1;have U:=Y.ftm (i:=g+1) (j:=f) a7 a7;have Z:=Y.ftm (i:=0) (j:=g) a7 a7;have K:=Y.fts g gn hg;have O:=Y.globs;refine⟨_,(w.trans ((Av Y.dec o.hd a7 a7).trans (yM Y.dec o.tl.hd a7 a7))),by grind,by grind,λa V=>?_,λi b=>?_,x,o1⟩;.simp only;rw[iW a7];grind
  .simp only;by_cases e:i=m;.subst e;rw[ta,A _ a7];grind
   .rw[iW a7];grind
theorem MJ{g}{vs}{r:Nat->Sg->Rs Nat}{w:Bool}{n}(hB:GB Y inp W fu n)(ar:Ste Y f fn k (d+z vs) L G c)(h0:0<=d)(hk:(Y.cd f fn)[k]?=S (⟨10,(g:Nat),0,0⟩,d')){gn}(hg:p.f[g]?=S gn)(b6:g<f)(cm:z vs=z gn.p)(hv:∀(i v:Nat),vs[i]?=S v->c.mem (Y.bs f+d+i)=v):match tick fu G λa6=>evB p (aG p) inp fu n g vs a6 with|.ok v ad=>∃j c',Rn okI C inp D j c c'/\j+Y.pl f k+G.tk*W<=Y.pl f (k+1)+ad.tk*W/\Ste Y f fn (k+1) (if gn.word=T then d+1 else d) L ad c'/\(gn.word=T->c'.mem (Y.bs f+d)=v)/\Kp Y f d c.mem c'.mem|.en e ad=>EO Y inp W f k (k+1) G c e ad|.no=>True:=by
 have bn:=(l9.1 hg).1;have b3:=(l9.1 X).1;have J:(sigs p.f)[g]?=S ((z gn.p:Int),gn.word):=by unfold sigs;rw[A4,hg];rfl
 have b2:takes (sigs p.f) fn.word ⟨10,(g:Nat),0,0⟩=S ((z gn.p:Int),if gn.word then 1 else 0):=by have:¬((g:Nat):Int)<0:=a7;simp[takes,J,this]
 obtain⟨hR,bl⟩:=ar.rch.nx X hk b2 (j:=k+1) abL;rw[cm]at hR ar;have hR:Rch Y f fn (k+1) (if gn.word=T then d+1 else d):=by rw[show (if gn.word=T then d+1 else d)=d+(z gn.p:Int)-z gn.p+(if gn.word then 1 else 0) by grind];exact hR
 have hd:=ar.rch.dp X;have av:=hR.dp X;have hD:=Y.hD;have hb:=(Y.base f fn X).1;have I:=Y.ftm (i:=g+1) (j:=f) a7 a7;have u:=Y.ftm (i:=0) (j:=g) a7 a7;have A:=Y.fts g gn hg;have K:=Y.bkm (i:=g+1) (j:=f) a7 a7;unfold tick;by_cases af:G.tk<fu;case neg=>rw[l4 af];exact .inl rfl
 rw[s5 af];dsimp only;have hy:(ab p).f[((g:Nat):Int).toNat]?=S (xP p gn (Y.ft g)):=by rw[C0];exact Y.fs g gn hg
 have bo:close env (mK (ab p).f Y.P f (d+z gn.p) ⟨10,(g:Nat),0,0⟩) (Y.pl f k)=close env (nM Y.P f (d+z gn.p) (z gn.p) (Y.ft g) (z gn.p)) (Y.pl f k)++((21,14,0,((Y.en g:Nat):Int))::(if gn.word=T then [(17,1,0,Y.bs f+(d+z gn.p)-z gn.p)]else [])):=by show close env (xl (ab p).f Y.P f (d+z gn.p) (g:Nat)) _=_;unfold xl;rw[hy];show close env (aD (nM Y.P f (d+z gn.p) (z gn.p) (Y.ft g) (z gn.p:Int).toNat) (aD (aJ 21 14 (g:Nat) (-1)) (if gn.word=T then ey Y.P f (d+z gn.p) 1 (z gn.p)else gg))) _=_;rw[C0,dr ((λm=>(Emit.vV (Q:=λ_=>True) m).inner) _) (nw kx (by split;exact eT;exact ny)),dr kx (by split;exact eT;exact ny),ky,(Y.at_ g gn hg).ent];unfold ey;rw[hb];split<;>rfl
 obtain⟨hA,hp⟩:=ar.at_ X hk bo;obtain⟨s,o⟩:=hA.app;obtain⟨c1,r1,p1,l1,m1,v1,x,o1⟩:=IB (inp:=inp) X hg b6 a7 ar (z gn.p) (l7 _) s;rw[l1,<-p1]at o;have hC:=Y.hC;have B:c1.pc<4294967295:=by have:=(l9.1 o.hd).1;omega
 have r2:=r1.trans (WM Y.dec o.hd B);rw[C0]at r2;have l:=hB g gn hg a7 vs ⟨G.v,G.arrs,G.out,G.rd,G.tk+1⟩ ⟨Y.en g,c1.a,c1.b,c1.t,c1.pc+1,c1.mem,c1.rd,c1.out⟩ rfl (λi v hi=>by grind)
  (by have an:=ar.gl.keep (Y:=Y) X λa ha hb=>m1 a a7;exact⟨an.v,an.a,an.vl,an.al⟩) (x.trans ar.rd) (o1.trans ar.out);have bd:(close env (nM Y.P f (d+z gn.p) (z gn.p) (Y.ft g) (z gn.p)) (Y.pl f k)++((21,14,0,((Y.en g:Nat):Int))::(if gn.word=T then [(17,1,0,Y.bs f+(d+z gn.p)-z gn.p)]else []))).length=2*z gn.p+1+(if gn.word=T then 1 else 0):=by rw[j7,l1,j8];split<;>simp
 rw[bd]at hp;have O:=ar.pc;cases V:evB p (aG p) inp fu n g vs ⟨G.v,G.arrs,G.out,G.rd,G.tk+1⟩with
 |no=>trivial;|en e ad=>
 rw[V]at l;rcases l with h|⟨j,U,Z⟩;.exact .inl h
 .refine .inr ⟨_,r2.re U,?_⟩;grind;|ok v ad=>
 rw[V]at l;obtain⟨j,c2,r3,Z,p2,w2,E,H,o2,K2⟩:=l;simp[J6,Nat.one_mul]at Z;have q:∀a:Int,(Y.ft f<=a/\a<Y.bk 0)\/Y.bk f<=a->c2.mem a=c.mem a:=λa ha=>(K2 a a7).trans (m1 a a7);by_cases hw:gn.word=T;.rw[s5 hw]at hR hp o av;rw[s5 hw];refine⟨_,_,(r2.trans r3).trans (yM Y.dec (by rw[p2];exact o.tl.hd) a7 a7),a7,⟨by grind,hR,E.keep (Y:=Y) X λa ha hb=>iW a7,ar.fr.keep X ar.wl λa ha hb=>(iW a7).trans (q a a7),ar.wl,H,o2⟩,λ_=>?_,λa ha=>(iW a7).trans (q a a7)⟩;simp only;rw[show Y.bs f+(d+(z gn.p:Int))-z gn.p=Y.bs f+d by omega,ta];grind
 .rw[l4 hw]at hR hp av;rw[l4 hw];exact⟨_,c2,r2.trans r3,a7,⟨by grind,hR,E,ar.fr.keep X ar.wl λa ha hb=>q a a7,ar.wl,H,o2⟩,λh=>absurd h hw,λa ha=>q a a7⟩
end
section
open Go.Emit (MI)
open Go.Src (Prog Fn Ex Stm ab eR bR ay cR mD)
open Go.Lower (Ins Code cE cEs cAO lU one mC ke)
variable{okI:Nat->Nat->Nat->Nat->Bool}{p:Prog}{C:List MI}{env:Int×Int->Int}{D:Nat}{Y:Lay okI p C env D}{inp:Asm.Str}{W fu:Nat}
theorem xk{f n g}{t}{w}(h:jC p f t n w=S g):t=S (4,g)/\g<f/\∃gn,p.f[g]?=S gn/\gn.word=w/\z gn.p=n:=by unfold jC at h;grind
section
variable{f:Nat}{fn:Src.Fn}{k:Nat}{d K:Int}{L:List Nat}{G ad:Sg}{c:Cf}(s:p.f[f]?=S fn)
include s
theorem aeh{v}{d1 d2}(ar:Ste Y f fn k (d+1) L G c)(a:0<=d)(b:c.mem (Y.bs f+d)=v)(U:(Y.cd f fn)[k]?=S (⟨7,0,0,0⟩,d1))(Z:(Y.cd f fn)[k+1]?=S (⟨7,0,0,0⟩,d2)):XR Y inp W f fn k (k+1+1) d L G c (nL v G):=by
 unfold nL;split;case isFalse=>trivial
 rename_i h;have:=XO.then s (IA (inp:=inp) (W:=W) s ar U a b) λc1 o g=>IA s o Z a g;have e:(if (if v=0 then 1 else 0)=0 then 1 else 0)=v:=by rcases(by omega:v=0\/v=1)with rfl|rfl<;>rfl
 rw[e]at this;exact this
theorem MK{y}{a d1 d2 d3 d4 n}{B:Lower.Code}{E}(ar:Ste Y f fn k (d+1) L G c)(j:0<=d)(o:c.mem (Y.bs f+d)=y)(e:Sub Y f fn k ((⟨9,((k+3:Nat)),0,0⟩,d1)::(⟨1,0,0,a⟩,d2)::(⟨8,((k+3+z B+2:Nat)),0,0⟩,d3)::(B++[(⟨7,0,0,0⟩,d4),(⟨7,0,0,0⟩,n)])))(t:0<=a/\a<4294967296)(q:∀c,Ste Y f fn (k+3) d L G c->XR Y inp W f fn (k+3) (k+3+z B) d L G c E):XR Y inp W f fn k (k+3+z B+2) d L G c (if y=0 then E.bind nL else .ok a.toNat G):=by
 obtain⟨c3,l,u,g,r⟩:=Ck (inp:=inp) s ar e.hd j o;have b:Kp Y f d c.mem c3.mem:=by rw[r];exact .refl
 by_cases m:y=0;.rw[s5 m]at g|-;have w:=kT (Y:=Y) s (show k+1<=k+3 by omega);refine XR.after (H:=G) l (k1:=k+3) a7 b ?_;obtain⟨_,I⟩:=(e.tl.tl.tl).app;exact XR.bind s (C7 d) (q c3 g) a7 λv x c4 J i X=>aeh s J j i I.hd I.tl.hd
 .rw[l4 m]at g|-;refine XR.after (H:=G) l (k1:=k+1) a7 b ?_;exact XO.then s (GP s g e.tl.hd t) λc4 J i=>WQ s J i e.tl.tl.hd a7
end
theorem XR.cast{f}{fn}{k k1 a}{d}{L}{G}{c}{r}(h:XR Y inp W f fn k k1 d L G c r)(e:k1=a):XR Y inp W f fn k a d L G c r:=e▸h
theorem RF{n}(u:GE Y inp W fu n)(w:GL Y inp W fu n):GL Y inp W fu (n+1):=by intro f fn s L G l k d c g ar;cases l with|nil=>rw[bR,cEs,fc];exact⟨⟨0,c,.refl,b9,by grind,λi v h=>by simp at h,.refl⟩,rfl⟩;|cons a l=>rw[bR,cEs]at g;rw[bR,cEs,fc,j7,<-D4];obtain⟨y,A⟩:=g.app;have U:=u f fn s L G a k d c y ar;cases V:evE p (aG p) inp fu n f L G a with|no=>trivial;|en e H=>rw[V]at U;exact EO.mono s U a7;|ok v H=>rw[V]at U;obtain⟨j,c1,m,B,o,E,I⟩:=U;have Z:=w f fn s L H l _ (d+1) c1 A o;show LR Y inp W f fn k _ d L G c _ ((fc p (aG p) inp fu n f L H l).bind λvs b=>.ok (v::vs) b);cases q:fc p (aG p) inp fu n f L H l with|no=>trivial;|en e b=>rw[q]at Z;exact EO.after m B Z;|ok vs b=>
 rw[q]at Z;obtain⟨⟨J,c2,K,Q,X,m2,r⟩,O⟩:=Z;have hd:=ar.rch.dp s;have h0:=ar.rch.1;refine⟨⟨j+J,c2,m.trans K,a7,?_,λi x t=>?_,I.trans r a7⟩,by simp[O]⟩;.grind
 .cases i with|zero=>simp at t;subst t;have av:=o.rch.dp s;rw[show Y.bs f+d+((0:Nat):Int)=Y.bs f+d by omega,r _ a7];exact E;|succ i=>grind
theorem RG{n}(Q:GE Y inp W fu n)(hL:GL Y inp W fu n)(hB:GB Y inp W fu n):GE Y inp W fu (n+1):=by
 intro f fn s L G e k d c J ar;have h0:=ar.rch.1;obtain⟨kind,op,num,name,B⟩:=e;rw[eR,cE]at J;rw[eR,cE,evE];by_cases U:kind=1;.subst U;simp only[show¬((1:Int)=8\/(1:Int)=9) by decide,B1,B3]at J|-;cases B with|cons=>trivial;|nil=>
  rw[bR,cEs,A3]at J;rw[bR,cEs,A3];unfold l0;simp only;split;.rename_i hn;exact GP s ar J.hd hn
  .trivial
 by_cases Z:kind=2;.subst Z;simp only[show¬((2:Int)=8\/(2:Int)=9) by decide,B1,B3,show¬(2:Int)=1 by decide]at J|-;cases B with|cons=>trivial;|nil=>rw[bR,cEs,A3]at J;rw[bR,cEs,A3];exact aaH s ar J.hd
 by_cases h3:kind=3;.subst h3;simp only[show¬((3:Int)=8\/(3:Int)=9) by decide,B1,B3,show¬(3:Int)=1 by decide,show¬(3:Int)=2 by decide]at J|-;match B with|[]=>trivial;|_::_::_=>trivial;|[a]=>simp only[bR,cEs,u7]at J|-;obtain⟨K,bf⟩:=J.app;rw[j7,<-D4];exact XR.bind s (C7 d) (Q f fn s L G a k d c K ar) (L0 _ _) λv H c1 o O K1=>aaI s o h0 O bf.hd
 by_cases h4:kind=4;.subst h4;simp only[show¬((4:Int)=8\/(4:Int)=9) by decide,B1,B3,show¬(4:Int)=1 by decide,show¬(4:Int)=2 by decide,show¬(4:Int)=3 by decide]at J|-;cases hc:jC p f (aG p f name) (z B) T with|none=>trivial;|some g=>obtain⟨ht,b6,gn,hg,q,a'⟩:=xk hc;obtain⟨K,bf⟩:=J.app;rw[j7,<-D4];have i:=hL f fn s L G B k d c K ar;show XR Y inp W f fn k _ d L G c ((fc p (aG p) inp fu n f L G B).bind λvs H=>tick fu H λa6=>evB p (aG p) inp fu n g vs a6);cases V:fc p (aG p) inp fu n f L G B with|no=>trivial;|en e H=>rw[V]at i;exact EO.mono s i a7;|ok vs H=>rw[V]at i;obtain⟨⟨j,c1,r1,e1,o,O,K1⟩,cm⟩:=i;have hk:=bf.hd;rw[sw Y s,ht]at hk;have l:=MJ (r:=λ_ _=>.no) (w:=T) s hB o h0 hk hg b6 a7 O;show XR Y inp W f fn k _ d L G c (tick fu H λa6=>evB p (aG p) inp fu n g vs a6);cases hq:tick fu H λa6=>evB p (aG p) inp fu n g vs a6 with|no=>trivial;|en e a6=>rw[hq]at l;exact EO.after r1 e1 l;|ok v a6=>rw[hq]at l;obtain⟨j2,c2,r2,e2,S2,m2,K2⟩:=l;rw[s5 q]at S2;exact XO.after r1 e1 K1 ⟨j2,c2,r2,e2,S2,m2 q,K2⟩
 by_cases h5:kind=5;.subst h5;simp only[show¬((5:Int)=8\/(5:Int)=9) by decide,B1,B3,show¬(5:Int)=1 by decide,show¬(5:Int)=2 by decide,show¬(5:Int)=3 by decide,show¬(5:Int)=4 by decide]at J|-;cases B with|cons=>trivial;|nil=>rw[bR,cEs,A3]at J;rw[bR,cEs,A3];exact aaG s ar J.hd
 by_cases h6:kind=6;.subst h6;simp only[show¬((6:Int)=8\/(6:Int)=9) by decide,B1,B3,show¬(6:Int)=1 by decide,show¬(6:Int)=2 by decide,show¬(6:Int)=3 by decide,show¬(6:Int)=4 by decide,show¬(6:Int)=5 by decide]at J|-;match B with|[]=>trivial;|[_]=>trivial;|_::_::_::_=>trivial;|[a,b]=>simp only[bR,cEs,u7]at J|-;obtain⟨K,bf⟩:=J.app;obtain⟨t,K⟩:=K.app;simp only[j7,<-D4]at bf|-;refine XR.bind s (C7 d) (Q f fn s L G a k d c t ar) a7 λx H c1 o O K1=>?_;refine XR.bind s a7 (Q f fn s L H b _ (d+1) c1 K o) a7 λy a6 c2 S2 m2 K2=>?_;have hd:=o.rch.dp s;exact aeg s ZN bf.hd h0 ((K2 _ a7).trans O) m2
 by_cases h7:kind=7;.subst h7;simp only[show¬((7:Int)=8\/(7:Int)=9) by decide,B1,B3,show¬(7:Int)=1 by decide,show¬(7:Int)=2 by decide,show¬(7:Int)=3 by decide,show¬(7:Int)=4 by decide,show¬(7:Int)=5 by decide,show¬(7:Int)=6 by decide]at J|-;match B with|[]=>trivial;|_::_::_=>trivial;|[a]=>simp only[bR,cEs,u7]at J|-;obtain⟨K,bf⟩:=J.app;rw[j7,<-D4];refine XR.bind s (C7 d) (Q f fn s L G a k d c K ar) (L0 _ _) λv H c1 o O K1=>?_;exact IA s o bf.hd h0 O
 by_cases h8:kind=8;.subst h8;simp only[R6,B3,B1,show¬(8:Int)=1 by decide,show¬(8:Int)=2 by decide,show¬(8:Int)=3 by decide,show¬(8:Int)=4 by decide,show¬(8:Int)=5 by decide,show¬(8:Int)=6 by decide,show¬(8:Int)=7 by decide]at J|-;match B with|[]=>trivial;|[_]=>trivial;|_::_::_::_=>trivial;|[a,b]=>simp only[bR,cAO,mC,ke,lU,B3,H4]at J|-;obtain⟨A,hA⟩:∃A,cE k d (eR (ay p).1 (iP fn (Y.ft f)) a)=A:=⟨_,rfl⟩;have u:=λJ=>Q f fn s L G a k d c J ar;rw[hA]at J u|-;obtain⟨t,K⟩:=J.app;obtain⟨X,K⟩:=K.app;refine XR.bind s (C7 d) (u t) b9 λx H c1 o O K1=>?_;obtain⟨j2,c2,r2,e2,S2,m2,K2⟩:=IA (inp:=inp) (W:=W) s o X.hd h0 O;refine XR.after r2 e2 K2 ?_;have:=MK s S2 h0 m2 K a8 (λc ar=>Q f fn s L H b (k+z A+1+3) d c (K.tl.tl.tl).app.1 ar);grind
 by_cases m:kind=9;.subst m;simp only[Q4,B3,B1,show¬(9:Int)=1 by decide,show¬(9:Int)=2 by decide,show¬(9:Int)=3 by decide,show¬(9:Int)=4 by decide,show¬(9:Int)=5 by decide,show¬(9:Int)=6 by decide,show¬(9:Int)=7 by decide,show¬(9:Int)=8 by decide]at J|-;match B with
 |[]=>trivial;|[_]=>trivial;|_::_::_::_=>trivial;|[a,b]=>
  simp only[bR,cAO,mC,ke,lU,B1,show¬(9:Int)=8 by decide,A3,l5,J3]at J|-;obtain⟨A,hA⟩:∃A,cE k d (eR (ay p).1 (iP fn (Y.ft f)) a)=A:=⟨_,rfl⟩;have u:=λJ=>Q f fn s L G a k d c J ar;rw[hA]at J u|-;obtain⟨t,K⟩:=J.app;refine XR.bind s (C7 d) (u t) b9 λx H c1 o O K1=>?_;have:=MK s o h0 O K a8 (λc ar=>Q f fn s L H b (k+z A+3) d c (K.tl.tl.tl).app.1 ar);by_cases I:x=0;.grind
  .rw[l4 I]at this;rw[l4 I];unfold nL;split;.grind
   .trivial
 simp only[U,Z,h3,h4,h5,h6,h7,h8,m,B1];trivial
end
open Go.Emit (MI aD aE eN ey mK mJ close dr jb eT)
open Go.Src (Prog Fn Ex Stm ab ay cR mD ie nc)
open Go.Lower (Ins Code)
variable{v:Nat}{name:Asm.Str}{okI:Nat->Nat->Nat->Nat->Bool}{p:Prog}{C:List MI}{env:Int×Int->Int}{D:Nat}{Y:Lay okI p C env D}{inp:Asm.Str}{W fu:Nat}{f:Nat}{fn:Src.Fn}{k E k1 n:Nat}{d o:Int}{L:List Nat}{G ad H:Sg}{c c1 c':Cf}
variable(Y inp W f fn k E G c)in
def SO(bd:List Nat)(ad:Sg):Prop:=∃j c',Rn okI C inp D j c c'/\j+Y.pl f k+G.tk*W<=Y.pl f E+ad.tk*W/\Ste Y f fn E 0 bd ad c'/\Ks Y f c.mem c'.mem
variable(Y inp W f fn k E G c)in
def RO(v:Nat)(ad:Sg):Prop:=
 if f+1=z p.f then ∃j,RE okI C inp D j c 1 ad.out/\j+Y.pl f k+G.tk*W<=Y.pl f E+ad.tk*W
 else ∃j c',Rn okI C inp D j c c'/\j+Y.pl f k+G.tk*W<=Y.pl f E+ad.tk*W/\c'.pc=c.mem (Y.bk f)/\(fn.word=T->c'.a=v)/\Rl p ad c'.mem/\c'.rd=ad.rd/\c'.out=ad.out/\∀a:Int,(Y.ft (f+1)<=a/\a<Y.bk 0)\/Y.bk (f+1)<=a->c'.mem a=c.mem a
variable(Y inp W f fn k E G c)in
def SR(r:Rs (List Nat×Option Nat)):Prop:=
 match r with
 |.ok x ad=>(match x.2 with|none=>SO Y inp W f fn k E G c x.1 ad|some v=>RO Y inp W f fn k E G c v ad)
 |.en e ad=>EO Y inp W f k E G c e ad
 |.no=>True
variable(g:p.f[f]?=S fn)
include g
theorem bkbs:Y.bk f=(if f+1=z p.f then Y.bs f else Y.bs f-1):=by have:=(Y.base f fn g).2.2.1;omega
theorem Ks.trans{m m1 b}(U:Ks Y f m m1)(Z:Ks Y f m1 b):Ks Y f m b:=λa e=>(Z a e).trans (U a e)
theorem Kp.ks{m m1}(h:Kp Y f d m m1)(b:0<=d):Ks Y f m m1:=λa e=>h a (by have:=Y.fts f fn g;omega)
theorem SR.after{j}{r}(U:Rn okI C inp D j c c1)(Z:j+Y.pl f k+G.tk*W<=Y.pl f k1+H.tk*W)(m:Ks Y f c.mem c1.mem)(h:SR Y inp W f fn k1 E H c1 r):SR Y inp W f fn k E G c r:=by match r with
 |.no=>trivial;|.en e l=>exact EO.after U Z h;|.ok (L,N) l=>obtain⟨i,c',r,e,s,b⟩:=h;exact⟨j+i,c',U.trans r,a7,s,m.trans g b⟩;|.ok (L,S v) l=>
 have h:RO Y inp W f fn k1 E H c1 v l:=h;show RO Y inp W f fn k E G c v l;unfold RO at h|-;split;.rename_i hl;rw[s5 hl]at h;obtain⟨i,r,e⟩:=h;exact⟨j+i,U.re r,a7⟩
 .rename_i hl;rw[l4 hl]at h;obtain⟨i,c',r,e,n,o,q,t,u,w⟩:=h;have x:=bkbs (Y:=Y) g;rw[l4 hl]at x;exact⟨j+i,c',U.trans r,a7,by rw[n];exact m _ a7,o,q,t,u,λa y=>(w a y).trans (m a a7)⟩
theorem SR.mono{r}(h:SR Y inp W f fn k k1 G c r)(b:k1<=n)(i:∀bd ad,r=.ok (bd,N) ad->SO Y inp W f fn k k1 G c bd ad->SO Y inp W f fn k n G c bd ad):SR Y inp W f fn k n G c r:=by have j:=kT (Y:=Y) g b;match r with|.no=>trivial;|.en e a=>exact EO.mono g h b;|.ok (L,N) a=>exact i L a rfl h;|.ok (L,S v) a=>have h:RO Y inp W f fn k k1 G c v a:=h;show RO Y inp W f fn k n G c v a;grind[RO]
theorem XR.bindS{r}{q}(a:0<=d)(h:XR Y inp W f fn k k1 d L G c r)(b:k1<=n)(e:∀v H c1,Ste Y f fn k1 (d+1) L H c1->c1.mem (Y.bs f+d)=v->Kp Y f d c.mem c1.mem->SR Y inp W f fn k1 n H c1 (q v H)):SR Y inp W f fn k n G c (r.bind q):=by cases r with|ok v H=>obtain⟨j,c1,i,U,ar,l,K⟩:=h;exact(e v H c1 ar l K).after g i U (K.ks g a);|en x H=>exact EO.mono g h b;|no=>trivial
theorem ML(ar:Ste Y f fn k (0+1) L G c)(X:c.mem (Y.bs f+0)=v)(Q:(Y.cd f fn)[k]?=S (⟨3,(cR (ay p).1 (iP fn (Y.ft f)) name).1,0,0⟩,o)):SR Y inp W f fn k (k+1) G c (My (aG p f name) L G v):=by obtain⟨s,_⟩:=ar.rch.nx g Q rfl (j:=k+1) (by simp[Lower.next]);have s:Rch Y f fn (k+1) 0:=s;have hd:=ar.rch.dp g;have hD:=Y.hD;have w:=(Y.base f fn g).1;have A:=Y.fts f fn g;have u:=Y.ftm (i:=0) (j:=f) a7 ZN;have b5:=ar.wl;have K:=bkbs (Y:=Y) g;obtain⟨n,y⟩:=ar.at_ g Q (l:=[(16,1,0,Y.bs f+(0+1)-1),(17,1,0,(cR (ay p).1 (iP fn (Y.ft f)) name).1)]) (by show close env (aD (eN Y.P f (0+1) 1 1) (aE 17 1 0 _)) _=_;unfold eN;rw[w];rfl);rw[sw Y g]at n;have B:=ar.pc;simp only[j8,l5]at y;have r:=Av (inp:=inp) (D:=D) Y.dec n.hd a7 a7;rw[show Y.bs f+(0+1)-1=Y.bs f+0 by omega,X]at r;unfold My;cases ht:aG p f name with|none=>trivial;|some t=>
 obtain⟨V,i⟩:=t;simp only[ht,A5,B6]at n|-;by_cases U:V=1
 .subst U;rw[s5 rfl];by_cases m:i<z L;case neg=>rw[l4 m];trivial
  rw[s5 m];simp only[mD,show¬(1:Nat)=3 by decide,B1,B3]at n;refine⟨_,_,r.trans (yM Y.dec n.tl.hd a7 a7),a7,⟨y.symm,s,ar.gl.keep (Y:=Y) g λa O w=>iW a7,λj x b=>?_,by grind,ar.rd,ar.out⟩,λa O=>iW a7⟩;rw[E3]at b;by_cases e:i=j;.simp_all[ta]
  .rw[l4 e]at b;exact(iW a7).trans (ar.fr j x b)
 .rw[l4 U];by_cases Z:V=2
  .subst Z;rw[s5 rfl];by_cases m:i<z G.v;case neg=>rw[l4 m];trivial
   rw[s5 m];simp only[mD,show¬(2:Nat)=3 by decide,show¬(2:Nat)=1 by decide,B1]at n;obtain⟨g1,g2⟩:=uN (Y:=Y) g ar.gl;have J:=g1 i _ (x9 m);have cm:=ar.gl.vl;refine⟨_,_,r.trans (yM Y.dec n.tl.hd a7 a7),by grind,⟨y.symm,s,⟨λj x b=>?_,λj l hl i' x I=>(iW ZN).trans (ar.gl.a j l hl i' x I),by grind,ar.gl.al⟩,ar.fr.keep g ar.wl λa O w=>iW a7,ar.wl,ar.rd,ar.out⟩,λa O=>iW a7⟩;simp[E3]at b;by_cases e:i=j;.simp_all[ta]
   .rw[l4 e]at b;exact(iW a7).trans (ar.gl.v j x b)
  .rw[l4 Z];trivial
omit g in
theorem AX(h:Src.ct p=T){i j:Nat}(e:i<j){a:Asm.Str×Int}(b:p.a[i]?=S a):ie p i+a.2<=ie p j:=by
 have H:∀a∈p.a,1<=a.2:=by
  unfold Src.ct at h;simp only[l6,z7]at h;intro a b;have:=h.2.1 a b;exact x5
 have:=(Src.xz (p.a.take j) i a (λx I=>H x (N4 I)) ZN).1;rw[List.take_take,UR a7]at this;unfold ie;omega
theorem Cl{x v}(ar:Ste Y f fn k (0+1+1) L G c)(hm:c.mem (Y.bs f+0)=x)(hv:c.mem (Y.bs f+(0+1))=v)(s:(Y.cd f fn)[k]?=S (⟨5,(cR (ay p).1 (iP fn (Y.ft f)) name).1,(cR (ay p).1 (iP fn (Y.ft f)) name).2,0⟩,o)):SR Y inp W f fn k (k+1) G c (yJ (aG p f name) L G x v):=by obtain⟨U,_⟩:=ar.rch.nx g s rfl (j:=k+1) (by simp[Lower.next]);have hd:=ar.rch.dp g;have hD:=Y.hD;have X:=(Y.base f fn g).1;have u:=Y.ftm (i:=0) (j:=f) a7 ZN;have K:=bkbs (Y:=Y) g;rw[sw Y g]at s;have B:=ar.pc;unfold yJ;cases ht:aG p f name with|none=>trivial;|some t=>
 obtain⟨kd,i⟩:=t;simp[ht]at s|-;by_cases Z:kd=3
 .subst Z;rw[s5 rfl];simp[mD]at s;by_cases n:x<4294967296;case neg=>rw[l4 n];trivial
  rw[s5 n];cases hw:G.arrs[i]?with|none=>trivial;|some l=>
  obtain⟨g1,g2⟩:=uN (Y:=Y) g ar.gl;obtain⟨a1,a2,a3⟩:=g2 i l hw;rw[a3]at s;obtain⟨w,hp⟩:=ar.at_ g s (l:=[(16,1,0,Y.bs f+(0+1+1)-2),(25,1,0,(z l:Int)),(16,2,0,Y.bs f+(0+1+1)-1),(17,2,1,ie p i)]) (by show close env (aD (eN Y.P f (0+1+1) 1 2) (aD (aE 25 1 0 _) (aD (eN Y.P f (0+1+1) 2 1) (aE 17 2 1 _)))) _=_;unfold eN;rw[X];rfl);simp only[j8,l5]at hp;have r:=Av (inp:=inp) (D:=D) Y.dec w.hd a7 a7;rw[show Y.bs f+(0+1+1)-2=Y.bs f+0 by omega,hm]at r;show SR Y inp W f fn k (k+1) G c (if x<z l then _ else .en 3 G);by_cases I:x<z l
  .rw[s5 I];have r:=r.trans ((Vi Y.dec w.tl.hd ZN).trans (aaw Y.dec (c:=⟨c.pc+1+1,_,_,_,_,_,_,_⟩) w.tl.tl.hd a7 a7));simp only[show Y.bs f+(0+1+1)-1=Y.bs f+(0+1) by omega,hv]at r;refine⟨_,_,r.trans (adZ Y.dec w.tl.tl.tl.hd ZN a7),by grind,⟨hp.symm,U,⟨λj y n=>?_,λj J hl O y m=>?_,ar.gl.vl,λj J hl=>?_⟩,ar.fr.keep g ar.wl λa Q X=>iW ZN,ar.wl,ar.rd,ar.out⟩,λa Q=>iW ZN⟩;.have n:G.v[j]?=S y:=n;have:=ar.gl.vl;have:=(l9.1 n).1;exact(iW a7).trans (ar.gl.v j y n)
   .simp[E3]at hl;by_cases e:i=j
    .subst e;rw[s5 rfl,s5 (l9.1 hw).1]at hl;cases hl;rw[E3]at m;by_cases e2:x=O;.simp_all[ta]
     .rw[l4 e2]at m;exact(iW ZN).trans (ar.gl.a i l hw O y m)
    .rw[l4 e]at hl;have bo:=(l9.1 m).1;obtain⟨a,Q,cu⟩:=ar.gl.al i l hw;obtain⟨b,b8,cz⟩:=ar.gl.al j J hl;have V:=(Src.FA Y.snd).1;rcases Nat.lt_or_gt_of_ne e with q|q;.have:=AX V q Q;exact(iW ZN).trans (ar.gl.a j J hl O y m)
     .have:=AX V q b8;exact(iW a7).trans (ar.gl.a j J hl O y m)
   .simp[E3]at hl;by_cases e:i=j;.subst e;rw[s5 rfl,s5 (l9.1 hw).1]at hl;cases hl;obtain⟨a,Q,cu⟩:=ar.gl.al i l hw;grind
    .rw[l4 e]at hl;exact ar.gl.al j J hl
  .rw[l4 I];refine .inr ⟨1+1,?_,?_⟩;.have:=r.re (Vj Y.dec w.tl.hd ZN);grind[ar.out]
   .omega
 .rw[l4 Z];trivial
theorem MM(ar:Ste Y f fn k (0+1) L G c)(n:c.mem (Y.bs f+0)=v)(i:(Y.cd f fn)[k]?=S (⟨13,0,0,0⟩,o)):SR Y inp W f fn k (k+1) G c (Mz L G v):=by
 obtain⟨b,_⟩:=ar.rch.nx g i rfl (j:=k+1) (by simp[Lower.next]);have hd:=ar.rch.dp g;have hD:=Y.hD;obtain⟨e,m⟩:=ar.at_ g i (l:=[(16,1,0,Y.bs f+(0+1)-1),(24,1,0,0)]) (by show close env (aD (eN Y.P f (0+1) 1 1) (aE 24 1 0 0)) _=_;unfold eN;rw[(Y.base f fn g).1];rfl);have B:=ar.pc;simp only[j8,l5]at m;have r:=Av (inp:=inp) (D:=D) Y.dec e.hd a7 a7;rw[show Y.bs f+(0+1)-1=Y.bs f+0 by omega,n]at r;unfold Mz;by_cases ho:65536<=z G.out
 .rw[s5 ho];refine .inr ⟨1+1,?_,?_⟩;.have:=r.re (aaE Y.dec e.tl.hd (by grind[ar.out]));grind[ar.out]
  .omega
 .rw[l4 ho];refine⟨_,_,r.trans (aaD Y.dec e.tl.hd (by grind[ar.out])),by grind,⟨m.symm,b,⟨ar.gl.v,ar.gl.a,ar.gl.vl,ar.gl.al⟩,ar.fr,ar.wl,ar.rd,by grind[ar.out]⟩,λ_ _=>rfl⟩
theorem MN(ar:Ste Y f fn k d L G c)(q:fn.word=T->c.mem (Y.bs f+0)=v)(s:fn.word=T->d=1)(i:(Y.cd f fn)[k]?=S (⟨11,0,0,0⟩,o)):RO Y inp W f fn k (k+1) G c v G:=by
 have hd:=ar.rch.dp g;have hD:=Y.hD;have j:=(Y.base f fn g);have n:=Y.fs f fn g;have u:z (ab p).f=z p.f:=by unfold ab;exact Src.nY _ _ _
 have B:=ar.pc;unfold RO;by_cases hl:f+1=z p.f;.rw[s5 hl];obtain⟨b,e⟩:=ar.at_ g i (l:=[(26,0,0,0)]) (by show close env (mJ (ab p).f Y.P f d) _=_;unfold mJ;rw[s5 a7];rfl);simp only[j8,l5]at e;exact⟨_,by rw[<-ar.out];exact WN Y.dec b.hd,a7⟩
 .rw[l4 hl];have K:=bkbs (Y:=Y) g;rw[l4 hl]at K;have a:=Y.bks ((l9.1 g).1);cases m:fn.word with|true=>obtain rfl:=s m;obtain⟨b,e⟩:=ar.at_ g i (l:=[(16,1,0,Y.bs f+1-1),(16,14,0,Y.bk f),(22,14,0,0)]) (by show close env (mJ (ab p).f Y.P f 1) _=_;unfold mJ eN;rw[l4 a7,n];show close env (if fn.word=T then _ else _) _=_;rw[s5 m,j.1,j.2.1];rfl);simp only[j8,l5]at e;have r:=Av (inp:=inp) (D:=D) Y.dec b.hd a7 a7;rw[show Y.bs f+1-1=Y.bs f+0 by omega,q m]at r;refine⟨_,_,r.trans ((aax Y.dec b.tl.hd a7 a7).trans (Vk Y.dec b.tl.tl.hd)),a7,rfl,λ_=>rfl,ar.gl,ar.rd,ar.out,λ_ _=>rfl⟩;|false=>obtain⟨b,e⟩:=ar.at_ g i (l:=[(16,14,0,Y.bk f),(22,14,0,0)]) (by show close env (mJ (ab p).f Y.P f d) _=_;unfold mJ eN;rw[l4 a7,n];show close env (if fn.word=T then _ else _) _=_;rw[l4 ZN,j.2.1];rfl);simp only[j8,l5]at e;refine⟨_,_,(aax Y.dec b.hd a7 a7).trans (Vk Y.dec b.tl.hd),a7,rfl,(λh=>by cases h),ar.gl,ar.rd,ar.out,λ_ _=>rfl⟩
end Go.Mn


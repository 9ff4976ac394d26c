/- A part of the proof; no conditions. -/
import Derived.Test.YtlacbjnmkhndiaaGreatDoorPart20
set_option linter.unusedSimpArgs false
set_option linter.unusedVariables false
set_option linter.defProp false
set_option linter.unusedSectionVars false
open List renaming length -> z
open Option renaming some -> S, none -> N
open Bool renaming true -> T, false -> F
set_option maxHeartbeats 64000000
set_option maxRecDepth 100000
namespace Go.Mn
section
open Go.Emit (MI Plan ax eC kL aD aE dJ du tZ lE close cM jh gy dO jg lq lr Gf iD)
open Go.Src (Prog Fn Ex Stm ab sigs dK bm au ct kH ff lf)
open Go.Lower (Ins Code takes next cE cEs cAO kh one kG iT)
section
variable{name:Asm.Str}
section
variable{okI:Nat->Nat->Nat->Nat->Bool}{p:Prog}{C:List MI}{env:Int×Int->Int}{D:Nat}{Y:Lay okI p C env D}{inp:Asm.Str}{W fu:Nat}
variable(Y inp W)in
def BR(g:Nat)(gn:Src.Fn)(G:Sg)(c:Cf)(r:Rs Nat):Prop:=
 match r with
 |.ok v ad=>∃j c',Rn okI C inp D j c c'/\j+G.tk*W<=W+ad.tk*W/\c'.pc=c.l/\(gn.word=T->c'.a=v)/\Rl p ad c'.mem/\c'.rd=ad.rd/\c'.out=ad.out/\∀a:Int,(Y.ft (g+1)<=a/\a<Y.bk 0)\/Y.bk (g+1)<=a->c'.mem a=c.mem a
 |.en e ad=>e=5\/∃j,RE okI C inp D j c e ad.out/\j+G.tk*W<=W+ad.tk*W
 |.no=>True
variable(Y inp W fu)in
def GE(n:Nat):Prop:=∀(f:Nat)(fn:Src.Fn),p.f[f]?=S fn->∀(L:List Nat)(G:Sg)(e:Ex)(k:Nat)(d:Int)(c:Cf),Sub Y f fn k (cE k d (dK (au p).1 (iP fn (Y.ft f)) e))->Ste Y f fn k d L G c->XR Y inp W f fn k (k+z (cE k d (dK (au p).1 (iP fn (Y.ft f)) e))) d L G c (evE p (aA p) inp fu n f L G e)
variable(Y inp W fu)in
def GL(n:Nat):Prop:=∀(f:Nat)(fn:Src.Fn),p.f[f]?=S fn->∀(L:List Nat)(G:Sg)(l:List Ex)(k:Nat)(d:Int)(c:Cf),Sub Y f fn k (cEs k d (bm (au p).1 (iP fn (Y.ft f)) l))->Ste Y f fn k d L G c->LR Y inp W f fn k (k+z (cEs k d (bm (au p).1 (iP fn (Y.ft f)) l))) d L G c (z l) (dq p (aA p) inp fu n f L G l)
variable(Y inp W fu)in
def GB(n:Nat):Prop:=∀(g:Nat)(gn:Src.Fn),p.f[g]?=S gn->g+1<z p.f->∀(vs:List Nat)(G:Sg)(c:Cf),c.pc=Y.en g->(∀(i v:Nat),vs[i]?=S v->c.mem (Y.ft g+i)=v)->Rl p G c.mem->c.rd=G.rd->c.out=G.out->BR Y inp W g gn G c (evB p (aA p) inp fu n g vs G)
theorem pX(Y:Lay okI p C env D){f:Nat}{fn:Src.Fn}(hf:p.f[f]?=S fn)(s:Asm.Str):ct (au p).1 (iP fn (Y.ft f)) s=((aA p f s).map (kH p (Y.ft f))).getD (0,0):=by
 obtain⟨V,b,g⟩:=Src.uq Y.snd;have hl:1<=z p.f:=by unfold Src.dP at V;simp at V;exact V.1.1.1
 obtain⟨L,c,_⟩:=Src.BJ b hl;have a:=Src.rm c hf;unfold Src.fA at a;rw[s5]at a;unfold aA;rw[hf];exact Src.sj p fn (Y.ft f) L a.1 s
section
variable{f:Nat}{fn:Src.Fn}{k k' k1 k2:Nat}{d d' e:Int}{L:List Nat}{G ad H:Sg}{c c1 c':Cf}(hf:p.f[f]?=S fn)
include hf
theorem XR.bind{r:Rs Nat}{q:Nat->Sg->Rs Nat}(u:d<=e)(h:XR Y inp W f fn k k1 e L G c r)(b:k1<=k2)(g:∀v H c1,Ste Y f fn k1 (e+1) L H c1->c1.mem (Y.bs f+e)=v->Kp Y f e c.mem c1.mem->XR Y inp W f fn k1 k2 d L H c1 (q v H)):XR Y inp W f fn k k2 d L G c (r.bind q):=by
 cases r with
 |ok v H=>
   obtain⟨j,c1,i,U,ar,l,K⟩:=h;exact(g v H c1 ar l K).after i U λa m=>K a a7
 |en x H=>exact EO.mono hf h b
 |no=>trivial
theorem XO.then{v a:Nat}(h:XO Y inp W f fn k k1 d L G c v H)(b:∀c1,Ste Y f fn k1 (d+1) L H c1->c1.mem (Y.bs f+d)=v->XO Y inp W f fn k1 k2 d L H c1 a ad):XO Y inp W f fn k k2 d L G c a ad:=by
 obtain⟨j,c1,g,U,ar,i,K⟩:=h;exact(b c1 ar i).after g U K
theorem QO{v r:Nat}(ar:Ste Y f fn k (d+1) L G c)(b:c.mem (Y.bs f+d)=v)(g:(Y.cd f fn)[k]?=S (⟨8,(r:Nat),0,0⟩,d'))(V:k+1<=r):XO Y inp W f fn k r d L G c v G:=by
 obtain⟨c',i,j,Q,a⟩:=CK hf ar g;have:=jG (Y:=Y) hf V;exact⟨1,c',i,a7,Q,by rw[a];exact b,by rw[a];exact .refl⟩
theorem UN(ar:Ste Y f fn k d L G c)(a:(Y.cd f fn)[k]?=S (⟨2,(ct (au p).1 (iP fn (Y.ft f)) name).1,0,0⟩,d')):XR Y inp W f fn k (k+1) d L G c (CE (aA p f name) L G):=by
 have hd:=ar.rch.dp hf;rw[pX Y hf]at a;unfold CE;cases m:aA p f name with
 |none=>trivial
 |some t=>
   obtain⟨g,i⟩:=t;simp only[m,A3,A6]at a|-;by_cases U:g=1
   .subst U
    rw[l9 rfl];cases hw:L[i]? with
    |none=>trivial
    |some v=>
      have n:=(l6.1 hw).1;have:=ar.wl;have:=Y.fts f fn hf;have b:=ar.fr i v hw;have:=HZ (inp:=inp) (W:=W) hf ar a (by simp only[kH,show ¬(1:Nat)=3 by decide,B1,B5];omega);simp only[kH,show ¬(1:Nat)=3 by decide,B1,B5,b]at this;exact this
   .rw[j9 U]
    by_cases l:g=2
    .subst l
     rw[l9 rfl];cases hw:G.v[i]? with
     |none=>trivial
     |some v=>
       have n:=(rJ (Y:=Y) hf ar.gl).1 i v hw;have o:=Y.ftm (i:=0) (j:=f) a7 Y3;have b:=ar.gl.v i v hw;have:=HZ (inp:=inp) (W:=W) hf ar a (by simp only[kH,show ¬(2:Nat)=3 by decide,show ¬(2:Nat)=1 by decide,B1];omega);simp only[kH,show ¬(2:Nat)=3 by decide,show ¬(2:Nat)=1 by decide,B1,b]at this;exact this
    .rw[j9 l];trivial
theorem UO{x:Nat}(ar:Ste Y f fn k (d+1) L G c)(o:0<=d)(I:c.mem (Y.bs f+d)=x)(m:(Y.cd f fn)[k]?=S (⟨4,(ct (au p).1 (iP fn (Y.ft f)) name).1,(ct (au p).1 (iP fn (Y.ft f)) name).2,0⟩,d')):XR Y inp W f fn k (k+1) d L G c (CF (aA p f name) G x):=by
 have hd:=ar.rch.dp hf;rw[pX Y hf]at m;unfold CF;cases q:aA p f name with
 |none=>trivial
 |some t=>
   obtain⟨r,i⟩:=t;simp only[q,A3,A6]at m|-;by_cases n:r=3
   .subst n
    rw[l9 rfl];simp only[kH,B5]at m;by_cases g:x<4294967296
    case neg=>rw[j9 g];trivial
    rw[l9 g];cases hw:G.arrs[i]? with
    |none=>trivial
    |some l=>
      obtain⟨u,w,s⟩:=(rJ (Y:=Y) hf ar.gl).2 i l hw;have b:=Y.ftm (i:=0) (j:=f) a7 Y3;rw[s]at m;have hl:=Mp (inp:=inp) (W:=W) (v:=0) hf ar m o I a7;show XR Y inp W f fn k (k+1) d L G c (match l[x]? with|some v=>.ok v G|none=>.en 3 G);cases g:l[x]? with
      |some v=>
        have:=(l6.1 g).1;rw[l9 a7,ar.gl.a i l hw x v g]at hl;exact hl
      |none=>
        rw[Pe]at g;rw[j9 a7]at hl;exact hl
   .rw[j9 n];trivial
theorem El{g:Nat}{gn:Src.Fn}(hg:p.f[g]?=S gn)(r:g<f){n:Nat}(s:(z gn.p:Int)<=d)(ar:Ste Y f fn k d L G c):∀m:Nat,m<=z gn.p->At C c.pc (close env (lE Y.P f d (z gn.p) (Y.ft g) m) n)->∃c',Rn okI C inp D (2*m) c c'/\c'.pc=c.pc+2*m/\(close env (lE Y.P f d (z gn.p) (Y.ft g) m) n).length=2*m/\(∀a:Int,a<Y.ft g\/Y.ft (g+1)<=a->c'.mem a=c.mem a)/\(∀i:Nat,i<m->c'.mem (Y.ft g+i)=c.mem (Y.bs f+d-z gn.p+i))/\c'.rd=c.rd/\c'.out=c.out
 |0,_,_=>⟨c,.refl,rfl,rfl,λ_ _=>rfl,λi b=>absurd b a7,rfl,rfl⟩
 |m+1,hm,l=>by
   have t:=(Y.base f fn hf).1;have v:∀m,iD (lE Y.P f d (z gn.p) (Y.ft g) m):=λm=>(Emit.sU (Q:=λ_=>True) m).inner
   have Z:close env (lE Y.P f d (z gn.p) (Y.ft g) (m+1)) n=close env (lE Y.P f d (z gn.p) (Y.ft g) m) n++[(16,1,0,Y.bs f+d-(z gn.p-m)),(17,1,0,Y.ft g+m)]:=by
    rw[lE];unfold dJ;rw[cM (v m) (lq dO dO),t];rfl
   rw[Z]at l;obtain⟨u,o⟩:=l.app;obtain⟨c1,w,y,l1,q,A,x,o1⟩:=El hg r s ar m a7 u;rw[l1,<-y]at o;have hd:=ar.rch.dp hf;have hD:=Y.hD;have E:=(l6.1 hg).1;have I:=(l6.1 hf).1;have U:=Y.ftm (i:=g+1) (j:=f) a7 a7;have J:=Y.ftm (i:=0) (j:=g) a7 a7;have K:=Y.fts g gn hg;have O:=Y.globs;refine⟨_,(w.trans ((xf Y.dec o.hd a7 a7).trans (vD Y.dec (c:=⟨c1.pc+1,_,_,_,_,_,_,_⟩) o.tl.hd a7 a7))),by simp only;omega,by rw[Z,j8,l1];rfl,λa B=>?_,λi b=>?_,x,o1⟩
   .simp only
    rw[gg a7];exact q a B
   .simp only
    by_cases e:i=m
    .subst e
     rw[qv,q _ a7];congr 1;omega
    .rw[gg a7]
     exact A i a7
theorem Ia{g:Nat}{vs:List Nat}{r:Nat->Sg->Rs Nat}{w:Bool}{n:Nat}(hB:GB Y inp W fu n)(ar:Ste Y f fn k (d+z vs) L G c)(h0:0<=d)(hk:(Y.cd f fn)[k]?=S (⟨10,(g:Nat),0,0⟩,d')){gn:Src.Fn}(hg:p.f[g]?=S gn)(bf:g<f)(b':z vs=z gn.p)(hv:∀(i v:Nat),vs[i]?=S v->c.mem (Y.bs f+d+i)=v):
  match tick fu G λa6=>evB p (aA p) inp fu n g vs a6 with
  |.ok v ad=>∃j c',Rn okI C inp D j c c'/\j+Y.pl f k+G.tk*W<=Y.pl f (k+1)+ad.tk*W/\Ste Y f fn (k+1) (if gn.word=T then d+1 else d) L ad c'/\(gn.word=T->c'.mem (Y.bs f+d)=v)/\Kp Y f d c.mem c'.mem
  |.en e ad=>EO Y inp W f k (k+1) G c e ad
  |.no=>True:=by
 have E:=(l6.1 hg).1;have b0:=(l6.1 hf).1;have s:(sigs p.f)[g]?=S ((z gn.p:Int),gn.word):=by unfold sigs;rw[w9,hg];rfl
 have an:takes (sigs p.f) fn.word ⟨10,(g:Nat),0,0⟩=S ((z gn.p:Int),if gn.word then 1 else 0):=by
  have:¬((g:Nat):Int)<0:=a7;simp[takes,s,this]
 obtain⟨hR,a1⟩:=ar.rch.nx hf hk an (j:=k+1) Y4;rw[b']at hR ar
 have hR:Rch Y f fn (k+1) (if gn.word=T then d+1 else d):=by
  rw[show (if gn.word=T then d+1 else d)=d+(z gn.p:Int)-z gn.p+(if gn.word then 1 else 0) by split<;>omega];exact hR
 have hd:=ar.rch.dp hf;have av:=hR.dp hf;have hD:=Y.hD;have hb:=(Y.base f fn hf).1;have X:=Y.ftm (i:=g+1) (j:=f) a7 a7;have J:=Y.ftm (i:=0) (j:=g) a7 a7;have B:=Y.fts g gn hg;have K:=Y.bkm (i:=g+1) (j:=f) a7 a7;have y:=Y.globs;unfold tick;by_cases af:G.tk<fu
 case neg=>rw[j9 af];exact .inl rfl
 rw[l9 af];dsimp only;have hy:(ab p).f[((g:Nat):Int).toNat]?=S (xP p gn (Y.ft g)):=by rw[B6];exact Y.fs g gn hg
 have hI:∀m,iD (lE Y.P f (d+z gn.p) (z gn.p) (Y.ft g) m):=λm=>(Emit.sU (Q:=λ_=>True) m).inner
 have b5:close env (kL (ab p).f Y.P f (d+z gn.p) ⟨10,(g:Nat),0,0⟩) (Y.pl f k)=close env (lE Y.P f (d+z gn.p) (z gn.p) (Y.ft g) (z gn.p)) (Y.pl f k)++((21,14,0,((Y.en g:Nat):Int))::(if gn.word=T then [(17,1,0,Y.bs f+(d+z gn.p)-z gn.p)]else [])):=by
  show close env (tZ (ab p).f Y.P f (d+z gn.p) (g:Nat)) _=_;unfold tZ;rw[hy];show close env (ax (lE Y.P f (d+z gn.p) (z gn.p) (Y.ft g) (z gn.p:Int).toNat) (ax (aE 21 14 (g:Nat) (-1)) (if gn.word=T then du Y.P f (d+z gn.p) 1 (z gn.p)else eC))) _=_;rw[B6,cM (hI _) (lq jg (by split;exact dO;exact lr)),cM jg (by split;exact dO;exact lr),jh,(Y.at_ g gn hg).ent];unfold du;rw[hb];split<;>rfl
 obtain⟨hA,hp⟩:=ar.at_ hf hk b5;obtain⟨u,o⟩:=hA.app;obtain⟨c1,r1,p1,l1,m1,v1,x,o1⟩:=El (inp:=inp) hf hg bf a7 ar (z gn.p) (l8 _) u;rw[l1,<-p1]at o;have hC:=Y.hC
 have H:c1.pc<4294967295:=by
  have:=(l6.1 o.hd).1;omega
 have r2:=r1.trans (QL Y.dec o.hd H);rw[B6]at r2
 have l:=hB g gn hg a7 vs ⟨G.v,G.arrs,G.out,G.rd,G.tk+1⟩ ⟨Y.en g,c1.a,c1.b,c1.t,c1.pc+1,c1.mem,c1.rd,c1.out⟩ rfl (λi v hi=>by
   have cm:=(l6.1 hi).1;simp only;rw[v1 i a7,show Y.bs f+(d+(z gn.p:Int))-z gn.p+i=Y.bs f+d+i by omega];exact hv i v hi)
  (by
    have A:=ar.gl.keep (Y:=Y) (m':=c1.mem) hf λa ha hb=>m1 a a7;exact⟨A.v,A.a,A.vl,A.al⟩) (x.trans ar.rd) (o1.trans ar.out)
 have bd:(close env (lE Y.P f (d+z gn.p) (z gn.p) (Y.ft g) (z gn.p)) (Y.pl f k)++((21,14,0,((Y.en g:Nat):Int))::(if gn.word=T then [(17,1,0,Y.bs f+(d+z gn.p)-z gn.p)]else []))).length=2*z gn.p+1+(if gn.word=T then 1 else 0):=by
  rw[j8,l1,l4];split<;>simp
 rw[bd]at hp;have Z:=ar.pc;unfold BR at l;cases V:evB p (aA p) inp fu n g vs ⟨G.v,G.arrs,G.out,G.rd,G.tk+1⟩with
 |no=>trivial
 |en e ad=>
   rw[V]at l;rcases l with h|⟨j,U,h2⟩
   .exact .inl h
   .refine .inr ⟨_,r2.re U,?_⟩
    simp only[F1,Q6]at h2;omega
 |ok v ad=>
   rw[V]at l;obtain⟨j,c2,r3,h2,p2,w2,I,O,o2,K2⟩:=l;simp only[F1,Q6]at h2;have q:∀a:Int,(Y.ft f<=a/\a<Y.bk 0)\/Y.bk f<=a->c2.mem a=c.mem a:=λa ha=>(K2 a a7).trans (m1 a a7);by_cases hw:gn.word=T
   .rw[l9 hw]at hR hp o av
    rw[l9 hw];refine⟨_,_,(r2.trans r3).trans (vD Y.dec (by rw[p2];exact o.tl.hd) a7 a7),a7,⟨by show c2.pc+1=_;rw[p2];simp only;omega,hR,I.keep (Y:=Y) hf λa ha hb=>gg a7,ar.fr.keep hf ar.wl λa ha hb=>(gg a7).trans (q a a7),ar.wl,O,o2⟩,λ_=>?_,λa ha=>(gg a7).trans (q a a7)⟩;simp only;rw[show Y.bs f+(d+(z gn.p:Int))-z gn.p=Y.bs f+d by omega,qv];exact w2 hw
   .rw[j9 hw]at hR hp av
    rw[j9 hw];exact⟨_,c2,r2.trans r3,a7,⟨by rw[p2];simp only;omega,hR,I,ar.fr.keep hf ar.wl λa ha hb=>q a a7,ar.wl,O,o2⟩,λh=>absurd h hw,λa ha=>q a a7⟩
end
end
end
end
section
open Go.Emit (MI)
open Go.Src (Prog Fn Ex Stm ab dK bm au ct kH)
open Go.Lower (Ins Code cE cEs cAO kh one kG iT)
section
section
variable{okI:Nat->Nat->Nat->Nat->Bool}{p:Prog}{C:List MI}{env:Int×Int->Int}{D:Nat}{Y:Lay okI p C env D}{inp:Asm.Str}{W fu:Nat}
theorem tY{f n g:Nat}{t:Option (Nat×Nat)}{w:Bool}(h:ea p f t n w=S g):t=S (4,g)/\g<f/\∃gn,p.f[g]?=S gn/\gn.word=w/\z gn.p=n:=by
 unfold ea at h;split at h
 .rename_i k i
  split at h
  .rename_i Z
   cases h;obtain⟨rfl,e,a⟩:=Z;refine⟨rfl,e,?_⟩;cases b:p.f[g]? with
   |none=>rw[b]at a;cases a
   |some gn=>
     rw[b]at a;simp only[U8,s5,I7]at a;exact⟨gn,rfl,a⟩
  .cases h
 .cases h
section
variable{f:Nat}{fn:Src.Fn}{k:Nat}{d o:Int}{L:List Nat}{G ad:Sg}{c:Cf}(hf:p.f[f]?=S fn)
include hf
theorem Ym{v:Nat}{b d2:Int}(ar:Ste Y f fn k (d+1) L G c)(a:0<=d)(g:c.mem (Y.bs f+d)=v)(U:(Y.cd f fn)[k]?=S (⟨7,0,0,0⟩,b))(h:(Y.cd f fn)[k+1]?=S (⟨7,0,0,0⟩,d2)):XR Y inp W f fn k (k+1+1) d L G c (lD v G):=by
 unfold lD;split
 case isFalse=>trivial
 rename_i j;have:=XO.then hf (Ek (inp:=inp) (W:=W) hf ar U a g) λl Q i=>Ek hf Q h a i
 have e:(if (if v=0 then 1 else 0)=0 then 1 else 0)=v:=by rcases(by omega:v=0\/v=1)with rfl|rfl<;>rfl
 rw[e]at this;exact this
theorem Ib{y:Nat}{e o d2 q r s:Int}{B:Lower.Code}{rb:Rs Nat}(ar:Ste Y f fn k (d+1) L G c)(j:0<=d)(u:c.mem (Y.bs f+d)=y)(g:Sub Y f fn k ((⟨9,((k+3:Nat):Int),0,0⟩,o)::(⟨1,0,0,e⟩,d2)::(⟨8,((k+3+z B+2:Nat):Int),0,0⟩,q)::(B++[(⟨7,0,0,0⟩,r),(⟨7,0,0,0⟩,s)])))(t:0<=e/\e<4294967296)
 (w:∀c,Ste Y f fn (k+3) d L G c->XR Y inp W f fn (k+3) (k+3+z B) d L G c rb):XR Y inp W f fn k (k+3+z B+2) d L G c (if y=0 then rb.bind lD else .ok e.toNat G):=by
 obtain⟨l,m,E,X,x⟩:=yR (inp:=inp) hf ar g.hd j u;have a:Kp Y f d c.mem l.mem:=by rw[x];exact .refl
 by_cases n:y=0
 .rw[l9 n]at X|-
  have I:=jG (Y:=Y) hf (show k+1<=k+3 by omega);refine XR.after (H:=G) m (k1:=k+3) a7 a ?_;obtain⟨_,b⟩:=(g.tl.tl.tl).app;exact XR.bind hf (C7 d) (w l X) a7 λv K A J i O=>Ym hf J j i b.hd b.tl.hd
 .rw[j9 n]at X|-
  refine XR.after (H:=G) m (k1:=k+1) a7 a ?_;exact XO.then (k1:=k+1+1) hf (CJ hf X g.tl.hd t) λA J i=>QO hf J i g.tl.tl.hd a7
end
theorem XR.cast{f:Nat}{fn:Src.Fn}{k k1 a:Nat}{d:Int}{L:List Nat}{G:Sg}{c:Cf}{r:Rs Nat}(h:XR Y inp W f fn k k1 d L G c r)(e:k1=a):XR Y inp W f fn k a d L G c r:=e▸h
theorem Mq{n:Nat}(s:GE Y inp W fu n)(t:GL Y inp W fu n):GL Y inp W fu (n+1):=by
 intro f fn hf L G l k d c m ar;cases l with
 |nil=>
   rw[bm,cEs,dq];exact⟨⟨0,c,.refl,a8,by simpa using ar,λi v h=>by simp at h,.refl⟩,rfl⟩
 |cons a l=>
   rw[bm,cEs]at m;rw[bm,cEs,dq,j8,<-C2];obtain⟨u,bz⟩:=m.app;have U:=s f fn hf L G a k d c u ar;cases V:evE p (aA p) inp fu n f L G a with
   |no=>trivial
   |en e H=>rw[V]at U;exact EO.mono hf U a7
   |ok v H=>
     rw[V]at U;obtain⟨j,w,o,y,Q,A,B⟩:=U;have b:=t f fn hf L H l _ (d+1) w bz Q;show LR Y inp W f fn k _ d L G c _ ((dq p (aA p) inp fu n f L H l).bind λvs g=>.ok (v::vs) g);cases q:dq p (aA p) inp fu n f L H l with
     |no=>trivial
     |en e g=>rw[q]at b;exact EO.after o y b
     |ok vs g=>
       rw[q]at b;obtain⟨⟨E,I,J,Z,K,O,r⟩,X⟩:=b;have hd:=ar.rch.dp hf;have h0:=ar.rch.1;refine⟨⟨j+E,I,o.trans J,a7,?_,λi x hi=>?_,B.trans r a7⟩,by simp[X]⟩
       .rw[show d+(z (v::vs):Int)=d+1+z vs by simp only[l4];omega];exact K
       .cases i with
        |zero=>
          simp at hi;subst hi;have av:=Q.rch.dp hf;rw[show Y.bs f+d+((0:Nat):Int)=Y.bs f+d by omega,r _ a7];exact A
        |succ i=>
          rw[show Y.bs f+d+((i+1:Nat):Int)=Y.bs f+(d+1)+i by omega];exact O i x YV
theorem Mr{n:Nat}(E:GE Y inp W fu n)(hL:GL Y inp W fu n)(hB:GB Y inp W fu n):GE Y inp W fu (n+1):=by
 intro f fn hf L G e k d c s ar;have K:=ar.rch.1;obtain⟨kind,op,num,name,o⟩:=e;rw[dK,cE]at s;rw[dK,cE,evE];by_cases U:kind=1
 .subst U
  simp only[show ¬((1:Int)=8\/(1:Int)=9) by decide,B1,B5]at s|-;cases o with
  |cons=>trivial
  |nil=>
    rw[bm,cEs,A7]at s;rw[bm,cEs,A7];unfold l0;simp only;split
    .rename_i hn
     exact CJ hf ar s.hd hn
    .trivial
 by_cases h2:kind=2
 .subst h2
  simp only[show ¬((2:Int)=8\/(2:Int)=9) by decide,B1,B5,show ¬(2:Int)=1 by decide]at s|-;cases o with
  |cons=>trivial
  |nil=>
    rw[bm,cEs,A7]at s;rw[bm,cEs,A7];exact UN hf ar s.hd
 by_cases h3:kind=3
 .subst h3
  simp only[show ¬((3:Int)=8\/(3:Int)=9) by decide,B1,B5,show ¬(3:Int)=1 by decide,show ¬(3:Int)=2 by decide]at s|-
  match o with
  |[]=>trivial
  |_::_::_=>trivial
  |[a]=>
    simp only[bm,cEs,s9]at s|-;obtain⟨u,bz⟩:=s.app;rw[j8,<-C2];exact XR.bind hf (C7 d) (E f fn hf L G a k d c u ar) (L9 _ _) λv H O Q B X=>UO hf Q K B bz.hd
 by_cases h4:kind=4
 .subst h4
  simp only[show ¬((4:Int)=8\/(4:Int)=9) by decide,B1,B5,show ¬(4:Int)=1 by decide,show ¬(4:Int)=2 by decide,show ¬(4:Int)=3 by decide]at s|-;cases Z:ea p f (aA p f name) (z o) T with
  |none=>trivial
  |some g=>
    obtain⟨ht,bf,gn,hg,q,P⟩:=tY Z;obtain⟨u,bz⟩:=s.app;rw[j8,<-C2];have i:=hL f fn hf L G o k d c u ar;show XR Y inp W f fn k _ d L G c ((dq p (aA p) inp fu n f L G o).bind λvs H=>tick fu H λJ=>evB p (aA p) inp fu n g vs J);cases V:dq p (aA p) inp fu n f L G o with
    |no=>trivial
    |en e H=>rw[V]at i;exact EO.mono hf i a7
    |ok vs H=>
      rw[V]at i;obtain⟨⟨j,O,r1,e1,Q,B,X⟩,b'⟩:=i;have hk:=bz.hd;rw[pX Y hf,ht]at hk;have l:=Ia (inp:=inp) (W:=W) (fu:=fu) (r:=λ_ _=>.no) (w:=T) hf hB Q K hk hg bf a7 B;show XR Y inp W f fn k _ d L G c (tick fu H λJ=>evB p (aA p) inp fu n g vs J);cases hq:tick fu H λJ=>evB p (aA p) inp fu n g vs J with
      |no=>trivial
      |en e J=>rw[hq]at l;exact EO.after r1 e1 l
      |ok v J=>
        rw[hq]at l;obtain⟨j2,c2,r2,e2,S2,m2,K2⟩:=l;rw[l9 q]at S2;exact XO.after r1 e1 X ⟨j2,c2,r2,e2,S2,m2 q,K2⟩
 by_cases h5:kind=5
 .subst h5
  simp only[show ¬((5:Int)=8\/(5:Int)=9) by decide,B1,B5,show ¬(5:Int)=1 by decide,show ¬(5:Int)=2 by decide,show ¬(5:Int)=3 by decide,show ¬(5:Int)=4 by decide]at s|-;cases o with
  |cons=>trivial
  |nil=>
    rw[bm,cEs,A7]at s;rw[bm,cEs,A7];exact UM hf ar s.hd
 by_cases h6:kind=6
 .subst h6
  simp only[show ¬((6:Int)=8\/(6:Int)=9) by decide,B1,B5,show ¬(6:Int)=1 by decide,show ¬(6:Int)=2 by decide,show ¬(6:Int)=3 by decide,show ¬(6:Int)=4 by decide,show ¬(6:Int)=5 by decide]at s|-
  match o with
  |[]=>trivial
  |[_]=>trivial
  |_::_::_::_=>trivial
  |[a,b]=>
    simp only[bm,cEs,s9]at s|-;obtain⟨u,bz⟩:=s.app;obtain⟨b5,u⟩:=u.app;simp only[j8,<-C2]at bz|-;refine XR.bind hf (C7 d) (E f fn hf L G a k d c b5 ar) a7 λx H O Q B X=>?_;refine XR.bind hf (e:=d+1) a7 (E f fn hf L H b _ (d+1) O u Q) a7 λy J c2 S2 m2 K2=>?_;have hd:=Q.rch.dp hf;exact Yl hf (by rw[show d+2=d+1+1 by omega];exact S2) bz.hd K ((K2 _ a7).trans B) m2
 by_cases h7:kind=7
 .subst h7
  simp only[show ¬((7:Int)=8\/(7:Int)=9) by decide,B1,B5,show ¬(7:Int)=1 by decide,show ¬(7:Int)=2 by decide,show ¬(7:Int)=3 by decide,show ¬(7:Int)=4 by decide,show ¬(7:Int)=5 by decide,show ¬(7:Int)=6 by decide]at s|-
  match o with
  |[]=>trivial
  |_::_::_=>trivial
  |[a]=>
    simp only[bm,cEs,s9]at s|-;obtain⟨u,bz⟩:=s.app;rw[j8,<-C2];refine XR.bind hf (C7 d) (E f fn hf L G a k d c u ar) (L9 _ _) λv H O Q B X=>?_;exact Ek hf Q bz.hd K B
 by_cases h8:kind=8
 .subst h8
  simp only[Vk,B5,B1,show ¬(8:Int)=1 by decide,show ¬(8:Int)=2 by decide,show ¬(8:Int)=3 by decide,show ¬(8:Int)=4 by decide,show ¬(8:Int)=5 by decide,show ¬(8:Int)=6 by decide,show ¬(8:Int)=7 by decide]at s|-
  match o with
  |[]=>trivial
  |[_]=>trivial
  |_::_::_::_=>trivial
  |[a,b]=>
    simp only[bm,cAO,kG,iT,kh,B5,Q0]at s|-;obtain⟨A,hA⟩:∃A,cE k d (dK (au p).1 (iP fn (Y.ft f)) a)=A:=⟨_,rfl⟩
    have m:=λs=>E f fn hf L G a k d c s ar;rw[hA]at s m|-;obtain⟨b5,u⟩:=s.app;obtain⟨t,u⟩:=u.app;refine XR.bind (k1:=k+z A) hf (C7 d) (m b5) YD λx H O Q B X=>?_;obtain⟨j2,c2,r2,e2,S2,m2,K2⟩:=Ek (inp:=inp) (W:=W) hf Q t.hd K B;refine XR.after r2 e2 K2 ?_;have hB:=λc ar=>E f fn hf L H b (k+z A+1+3) d c (u.tl.tl.tl).app.1 ar;have:=Ib (inp:=inp) (W:=W) (rb:=evE p (aA p) inp fu n f L H b) hf S2 K m2 u b9 hB;by_cases I:x=0
    .rw[l9 I,j9 b9]at this
     rw[l9 I];exact VI
    .rw[j9 I,l9 rfl]at this
     rw[j9 I];exact VI
 by_cases h9:kind=9
 .subst h9
  simp only[Vl,B5,B1,show ¬(9:Int)=1 by decide,show ¬(9:Int)=2 by decide,show ¬(9:Int)=3 by decide,show ¬(9:Int)=4 by decide,show ¬(9:Int)=5 by decide,show ¬(9:Int)=6 by decide,show ¬(9:Int)=7 by decide,show ¬(9:Int)=8 by decide]at s|-
  match o with
  |[]=>trivial
  |[_]=>trivial
  |_::_::_::_=>trivial
  |[a,b]=>
    simp only[bm,cAO,kG,iT,kh,B1,show ¬(9:Int)=8 by decide,A7,l5,LN]at s|-;obtain⟨A,hA⟩:∃A,cE k d (dK (au p).1 (iP fn (Y.ft f)) a)=A:=⟨_,rfl⟩
    have m:=λs=>E f fn hf L G a k d c s ar;rw[hA]at s m|-;obtain⟨b5,u⟩:=s.app;refine XR.bind (k1:=k+z A) hf (C7 d) (m b5) YD λx H O Q B X=>?_;have hB:=λc ar=>E f fn hf L H b (k+z A+3) d c (u.tl.tl.tl).app.1 ar;have:=Ib (inp:=inp) (W:=W) (rb:=evE p (aA p) inp fu n f L H b) hf Q K B u b9 hB;by_cases I:x=0
    .rw[l9 I]at this
     rw[l9 I];exact VI
    .rw[j9 I]at this
     rw[j9 I];unfold lD;split
     .obtain rfl:x=1:=a7
      exact VI
     .trivial
 simp only[U,h2,h3,h4,h5,h6,h7,h8,h9,B1];trivial
end
end
end
section
open Go.Emit (MI ax aD dJ du kL kK close cM gy dO)
open Go.Src (Prog Fn Ex Stm ab au ct kH ff lf)
open Go.Lower (Ins Code)
section
variable{v:Nat}{name:Asm.Str}
section
variable{okI:Nat->Nat->Nat->Nat->Bool}{p:Prog}{C:List MI}{env:Int×Int->Int}{D:Nat}{Y:Lay okI p C env D}{inp:Asm.Str}{W fu:Nat}
variable{f:Nat}{fn:Src.Fn}{k g k1 u:Nat}{d w:Int}{L:List Nat}{G ad H:Sg}{c n c':Cf}
variable(Y inp W f fn k g G c)in
def SO(bd:List Nat)(ad:Sg):Prop:=∃j c',Rn okI C inp D j c c'/\j+Y.pl f k+G.tk*W<=Y.pl f g+ad.tk*W/\Ste Y f fn g 0 bd ad c'/\Ks Y f c.mem c'.mem
variable(Y inp W f fn k g G c)in
def RO(v:Nat)(ad:Sg):Prop:=
 if f+1=z p.f then ∃j,RE okI C inp D j c 1 ad.out/\j+Y.pl f k+G.tk*W<=Y.pl f g+ad.tk*W
 else ∃j c',Rn okI C inp D j c c'/\j+Y.pl f k+G.tk*W<=Y.pl f g+ad.tk*W/\c'.pc=c.mem (Y.bk f)/\(fn.word=T->c'.a=v)/\Rl p ad c'.mem/\c'.rd=ad.rd/\c'.out=ad.out/\∀a:Int,(Y.ft (f+1)<=a/\a<Y.bk 0)\/Y.bk (f+1)<=a->c'.mem a=c.mem a
variable(Y inp W f fn k g G c)in
def SR(r:Rs (List Nat×Option Nat)):Prop:=
 match r with
 |.ok x ad=>(match x.2 with|none=>SO Y inp W f fn k g G c x.1 ad|some v=>RO Y inp W f fn k g G c v ad)
 |.en e ad=>EO Y inp W f k g G c e ad
 |.no=>True
variable(hf:p.f[f]?=S fn)
include hf
theorem bkbs:Y.bk f=(if f+1=z p.f then Y.bs f else Y.bs f-1):=by
 have:=(Y.base f fn hf).2.2.1;split at this<;>split<;>omega
theorem Ks.trans{m m1 b:Int->Nat}(U:Ks Y f m m1)(g:Ks Y f m1 b):Ks Y f m b:=λa e=>(g a e).trans (U a e)
theorem Kp.ks{m m1:Int->Nat}(h:Kp Y f d m m1)(b:0<=d):Ks Y f m m1:=λa e=>h a (by
 have:=Y.fts f fn hf;omega)
theorem SR.after{j:Nat}{r:Rs (List Nat×Option Nat)}(U:Rn okI C inp D j c n)(o:j+Y.pl f k+G.tk*W<=Y.pl f k1+H.tk*W)(m:Ks Y f c.mem n.mem)(h:SR Y inp W f fn k1 g H n r):SR Y inp W f fn k g G c r:=by
 match r with
 |.no=>trivial
 |.en e l=>exact EO.after U o h
 |.ok (L,N) l=>
   obtain⟨i,c',r,e,s,b⟩:=h;exact⟨j+i,c',U.trans r,a7,s,m.trans hf b⟩
 |.ok (L,S v) l=>
   have h:RO Y inp W f fn k1 g H n v l:=h;show RO Y inp W f fn k g G c v l;unfold RO at h|-;split
   .rename_i hl
    rw[l9 hl]at h;obtain⟨i,r,e⟩:=h;exact⟨j+i,U.re r,a7⟩
   .rename_i hl
    rw[j9 hl]at h;obtain⟨i,c',r,e,t,u,w,x,y,q⟩:=h;have A:=bkbs (Y:=Y) hf;rw[j9 hl]at A;exact⟨j+i,c',U.trans r,a7,by rw[t];exact m _ a7,u,w,x,y,λa B=>(q a B).trans (m a a7)⟩
theorem SR.mono{r:Rs (List Nat×Option Nat)}(h:SR Y inp W f fn k k1 G c r)(b:k1<=u)(g:∀bd ad,r=.ok (bd,N) ad->SO Y inp W f fn k k1 G c bd ad->SO Y inp W f fn k u G c bd ad):SR Y inp W f fn k u G c r:=by
 have j:=jG (Y:=Y) hf b
 match r with
 |.no=>trivial
 |.en e a=>exact EO.mono hf h b
 |.ok (L,N) a=>exact g L a rfl h
 |.ok (L,S v) a=>
   have h:RO Y inp W f fn k k1 G c v a:=h;show RO Y inp W f fn k u G c v a;unfold RO at h|-;split
   .rename_i hl
    rw[l9 hl]at h;obtain⟨i,r,e⟩:=h;exact⟨i,r,a7⟩
   .rename_i hl
    rw[j9 hl]at h;obtain⟨i,c',r,e,h⟩:=h;exact⟨i,c',r,a7,h⟩
theorem XR.bindS{r:Rs Nat}{q:Nat->Sg->Rs (List Nat×Option Nat)}(a:0<=d)(h:XR Y inp W f fn k k1 d L G c r)(b:k1<=u)(e:∀v H n,Ste Y f fn k1 (d+1) L H n->n.mem (Y.bs f+d)=v->Kp Y f d c.mem n.mem->SR Y inp W f fn k1 u H n (q v H)):SR Y inp W f fn k u G c (r.bind q):=by
 cases r with
 |ok v H=>
   obtain⟨j,n,g,U,ar,i,K⟩:=h;exact(e v H n ar i K).after hf g U (K.ks hf a)
 |en x H=>exact EO.mono hf h b
 |no=>trivial
theorem Ic(ar:Ste Y f fn k (0+1) L G c)(X:c.mem (Y.bs f+0)=v)(O:(Y.cd f fn)[k]?=S (⟨3,(ct (au p).1 (iP fn (Y.ft f)) name).1,0,0⟩,w)):SR Y inp W f fn k (k+1) G c (CG (aA p f name) L G v):=by
 obtain⟨n,_⟩:=ar.rch.nx hf O (t:=1) (q:=0) rfl (j:=k+1) (by simp[Lower.next]);have n:Rch Y f fn (k+1) 0:=n;have hd:=ar.rch.dp hf;have hD:=Y.hD;have s:=(Y.base f fn hf).1;have B:=Y.fts f fn hf;have J:=Y.ftm (i:=0) (j:=f) a7 Y3;have E:=Y.globs;have b3:=ar.wl;have K:=bkbs (Y:=Y) hf
 obtain⟨m,u⟩:=ar.at_ hf O (l:=[(16,1,0,Y.bs f+(0+1)-1),(17,1,0,(ct (au p).1 (iP fn (Y.ft f)) name).1)]) (by
  show close env (ax (dJ Y.P f (0+1) 1 1) (aD 17 1 0 _)) _=_;unfold dJ;rw[s];rfl)
 rw[pX Y hf]at m;have o:=ar.pc;simp only[l4,l5]at u;have r:=xf (inp:=inp) (D:=D) Y.dec m.hd a7 a7;rw[show Y.bs f+(0+1)-1=Y.bs f+0 by omega,X]at r;unfold CG;cases Z:aA p f name with
 |none=>trivial
 |some t=>
   obtain⟨Q,i⟩:=t;simp only[Z,A3,A6]at m|-;by_cases U:Q=1
   .subst U
    rw[l9 rfl];by_cases g:i<z L
    case neg=>rw[j9 g];trivial
    rw[l9 g];simp only[kH,show ¬(1:Nat)=3 by decide,B1,B5]at m;refine⟨_,_,r.trans (vD Y.dec (c:=⟨c.pc+1,_,_,_,_,_,_,_⟩) m.tl.hd a7 a7),a7,⟨u.symm,n,ar.gl.keep (Y:=Y) hf λa A s=>gg a7,λj x b=>?_,by rw[C4];exact ar.wl,ar.rd,ar.out⟩,λa A=>gg (by split at K<;>omega)⟩;rw[C0]at b;by_cases e:i=j
    .subst e
     rw[l9 rfl,l9 g]at b;cases b;exact qv
    .rw[j9 e]at b
     exact(gg a7).trans (ar.fr j x b)
   .rw[j9 U]
    by_cases V:Q=2
    .subst V
     rw[l9 rfl];by_cases g:i<z G.v
     case neg=>rw[j9 g];trivial
     rw[l9 g];simp only[kH,show ¬(2:Nat)=3 by decide,show ¬(2:Nat)=1 by decide,B1]at m;obtain⟨g1,g2⟩:=rJ (Y:=Y) hf ar.gl;have y:=g1 i _ (v8 g);have b':=ar.gl.vl;refine⟨_,_,r.trans (vD Y.dec (c:=⟨c.pc+1,_,_,_,_,_,_,_⟩) m.tl.hd a7 a7),by simp only;omega,⟨u.symm,n,⟨λj x b=>?_,λj l hl i' x I=>(gg (by have:=g2 j l hl;omega)).trans (ar.gl.a j l hl i' x I),by simp only[C4];exact b',ar.gl.al⟩,ar.fr.keep hf ar.wl λa A s=>gg a7,ar.wl,ar.rd,ar.out⟩,λa A=>gg (by split at K<;>omega)⟩;simp only[C0]at b;by_cases e:i=j
     .subst e
      rw[l9 rfl,l9 g]at b;cases b;exact qv
     .rw[j9 e]at b
      exact(gg a7).trans (ar.gl.v j x b)
    .rw[j9 V];trivial
omit hf in
theorem xH(h:Src.dP p=T){i j:Nat}(ds:i<j){a:Asm.Str×Int}(b:p.a[i]?=S a):ff p i+a.2<=ff p j:=by
 have e:∀a∈p.a,1<=a.2:=by
  unfold Src.dP at h;simp only[s5,x9]at h;intro a b;have:=h.2.1 a b;exact u6
 have:=(Src.um (p.a.take j) i a (λx I=>e x (O7 I)) (by rw[I4,l9 ds];exact b)).1;rw[List.take_take,U9 a7]at this;unfold ff;omega
theorem yS{x v:Nat}(ar:Ste Y f fn k (0+1+1) L G c)(hm:c.mem (Y.bs f+0)=x)(hv:c.mem (Y.bs f+(0+1))=v)(n:(Y.cd f fn)[k]?=S (⟨5,(ct (au p).1 (iP fn (Y.ft f)) name).1,(ct (au p).1 (iP fn (Y.ft f)) name).2,0⟩,w)):SR Y inp W f fn k (k+1) G c (qK (aA p f name) L G x v):=by
 obtain⟨Q,_⟩:=ar.rch.nx hf n (t:=2) (q:=0) rfl (j:=k+1) (by simp[Lower.next]);have Q:Rch Y f fn (k+1) 0:=Q;have hd:=ar.rch.dp hf;have hD:=Y.hD;have U:=(Y.base f fn hf).1;have B:=Y.fts f fn hf;have J:=Y.ftm (i:=0) (j:=f) a7 Y3;have E:=Y.globs;have K:=bkbs (Y:=Y) hf;rw[pX Y hf]at n;have o:=ar.pc;unfold qK;cases ht:aA p f name with
 |none=>trivial
 |some t=>
   obtain⟨kd,i⟩:=t;simp only[ht,A3,A6]at n|-;by_cases X:kd=3
   .subst X
    rw[l9 rfl];simp only[kH,B5]at n;by_cases m:x<4294967296
    case neg=>rw[j9 m];trivial
    rw[l9 m];cases hw:G.arrs[i]? with
    |none=>trivial
    |some l=>
      obtain⟨g1,g2⟩:=rJ (Y:=Y) hf ar.gl;obtain⟨a1,a2,a3⟩:=g2 i l hw;rw[a3]at n
      obtain⟨s,Z⟩:=ar.at_ hf n (l:=[(16,1,0,Y.bs f+(0+1+1)-2),(25,1,0,(z l:Int)),(16,2,0,Y.bs f+(0+1+1)-1),(17,2,1,ff p i)]) (by
       show close env (ax (dJ Y.P f (0+1+1) 1 2) (ax (aD 25 1 0 _) (ax (dJ Y.P f (0+1+1) 2 1) (aD 17 2 1 _)))) _=_;unfold dJ;rw[U];rfl)
      simp only[l4,l5]at Z;have r:=xf (inp:=inp) (D:=D) Y.dec s.hd a7 a7;rw[show Y.bs f+(0+1+1)-2=Y.bs f+0 by omega,hm]at r;show SR Y inp W f fn k (k+1) G c (if x<z l then _ else .en 3 G);by_cases I:x<z l
      .rw[l9 I]
       have r:=r.trans ((Pv Y.dec (c:=⟨c.pc+1,_,_,_,_,_,_,_⟩) s.tl.hd XS).trans (UC Y.dec (c:=⟨c.pc+1+1,_,_,_,_,_,_,_⟩) s.tl.tl.hd a7 a7));simp only[show Y.bs f+(0+1+1)-1=Y.bs f+(0+1) by omega,hv]at r;refine⟨_,_,r.trans (Ye Y.dec (c:=⟨c.pc+1+1+1,_,_,_,_,_,_,_⟩) s.tl.tl.tl.hd XS a7),by simp only;omega,⟨Z.symm,Q,⟨λj y m=>?_,λj u hl O y g=>?_,ar.gl.vl,λj u hl=>?_⟩,ar.fr.keep hf ar.wl λa A U=>gg XS,ar.wl,ar.rd,ar.out⟩,λa A=>gg (by simp only;split at K<;>omega)⟩
       .have m:G.v[j]?=S y:=m
        have:=ar.gl.vl;have:=(l6.1 m).1;exact(gg XS).trans (ar.gl.v j y m)
       .simp only[C0]at hl
        by_cases e:i=j
        .subst e
         rw[l9 rfl,l9 (l6.1 hw).1]at hl;cases hl;rw[C0]at g;by_cases e2:x=O
         .subst e2
          rw[l9 rfl,l9 I]at g;cases g;exact qv
         .rw[j9 e2]at g
          exact(gg XS).trans (ar.gl.a i l hw O y g)
        .rw[j9 e]at hl
         have a6:=(l6.1 g).1;obtain⟨a,A,bl⟩:=ar.gl.al i l hw;obtain⟨b,b7,cm⟩:=ar.gl.al j u hl;have V:=(Src.uq Y.snd).1;rcases Nat.lt_or_gt_of_ne e with q|q
         .have:=xH V q A
          exact(gg XS).trans (ar.gl.a j u hl O y g)
         .have:=xH V q b7
          exact(gg XS).trans (ar.gl.a j u hl O y g)
       .simp only[C0]at hl
        by_cases e:i=j
        .subst e
         rw[l9 rfl,l9 (l6.1 hw).1]at hl;cases hl;obtain⟨a,A,bl⟩:=ar.gl.al i l hw;exact⟨a,A,by rw[C4];exact bl⟩
        .rw[j9 e]at hl
         exact ar.gl.al j u hl
      .rw[j9 I]
       refine .inr ⟨1+1,?_,?_⟩
       .have:=r.re (Pw Y.dec (c:=⟨c.pc+1,_,_,_,_,_,_,_⟩) s.tl.hd XS)
        rw[<-ar.out];exact this
       .omega
   .rw[j9 X];trivial
theorem Ie(ar:Ste Y f fn k (0+1) L G c)(m:c.mem (Y.bs f+0)=v)(g:(Y.cd f fn)[k]?=S (⟨13,0,0,0⟩,w)):SR Y inp W f fn k (k+1) G c (HQ L G v):=by
 obtain⟨b,_⟩:=ar.rch.nx hf g (t:=1) (q:=0) rfl (j:=k+1) (by simp[Lower.next]);have b:Rch Y f fn (k+1) 0:=b;have hd:=ar.rch.dp hf;have hD:=Y.hD;have n:=(Y.base f fn hf).1
 obtain⟨e,i⟩:=ar.at_ hf g (l:=[(16,1,0,Y.bs f+(0+1)-1),(24,1,0,0)]) (by
  show close env (ax (dJ Y.P f (0+1) 1 1) (aD 24 1 0 0)) _=_;unfold dJ;rw[n];rfl)
 have o:=ar.pc;simp only[l4,l5]at i;have r:=xf (inp:=inp) (D:=D) Y.dec e.hd a7 a7;rw[show Y.bs f+(0+1)-1=Y.bs f+0 by omega,m]at r;unfold HQ;by_cases ho:65536<=z G.out
 .rw[l9 ho]
  refine .inr ⟨1+1,?_,?_⟩
  .have:=r.re (UK Y.dec (c:=⟨c.pc+1,_,_,_,_,_,_,_⟩) e.tl.hd (by simp only;rw[ar.out];exact ho))
   rw[<-ar.out];exact this
  .omega
 .rw[j9 ho]
  refine⟨_,_,r.trans (UJ Y.dec (c:=⟨c.pc+1,_,_,_,_,_,_,_⟩) e.tl.hd (by simp only;rw[ar.out];exact ho)),by simp only;omega,⟨i.symm,b,⟨ar.gl.v,ar.gl.a,ar.gl.vl,ar.gl.al⟩,ar.fr,ar.wl,ar.rd,by simp only;rw[ar.out]⟩,λ_ _=>rfl⟩
theorem Ig(ar:Ste Y f fn k d L G c)(j:fn.word=T->c.mem (Y.bs f+0)=v)(m:fn.word=T->d=1)(g:(Y.cd f fn)[k]?=S (⟨11,0,0,0⟩,w)):RO Y inp W f fn k (k+1) G c v G:=by
 have hd:=ar.rch.dp hf;have hD:=Y.hD;have i:=(Y.base f fn hf)
 have A:=Y.fs f fn hf;have n:=(l6.1 hf).1;have q:z (ab p).f=z p.f:=by unfold ab;exact Src.lR _ _ _
 have o:=ar.pc;unfold RO;by_cases hl:f+1=z p.f
 .rw[l9 hl]
  obtain⟨b,e⟩:=ar.at_ hf g (l:=[(26,0,0,0)]) (by
   show close env (kK (ab p).f Y.P f d) _=_;unfold kK;rw[l9 a7];rfl)
  simp only[l4,l5]at e;exact⟨_,by rw[<-ar.out];exact QM Y.dec b.hd,a7⟩
 .rw[j9 hl]
  have K:=bkbs (Y:=Y) hf;rw[j9 hl]at K;have a:=Y.bks n;cases b6:fn.word with
  |true=>
    obtain rfl:=m b6
    obtain⟨b,e⟩:=ar.at_ hf g (l:=[(16,1,0,Y.bs f+1-1),(16,14,0,Y.bk f),(22,14,0,0)]) (by
     show close env (kK (ab p).f Y.P f 1) _=_;unfold kK dJ;rw[j9 a7,A];show close env (if fn.word=T then _ else _) _=_;rw[l9 b6,i.1,i.2.1];rfl)
    simp only[l4,l5]at e;have r:=xf (inp:=inp) (D:=D) Y.dec b.hd a7 a7;rw[show Y.bs f+1-1=Y.bs f+0 by omega,j b6]at r;refine⟨_,_,r.trans ((UD Y.dec (c:=⟨c.pc+1,_,_,_,_,_,_,_⟩) b.tl.hd a7 a7).trans (Px Y.dec (c:=⟨c.pc+1+1,_,_,_,_,_,_,_⟩) b.tl.tl.hd)),a7,rfl,λ_=>rfl,ar.gl,ar.rd,ar.out,λ_ _=>rfl⟩
  |false=>
    obtain⟨b,e⟩:=ar.at_ hf g (l:=[(16,14,0,Y.bk f),(22,14,0,0)]) (by
     show close env (kK (ab p).f Y.P f d) _=_;unfold kK dJ;rw[j9 a7,A];show close env (if fn.word=T then _ else _) _=_;rw[j9 (by rw[b6];decide),i.2.1];rfl)
    simp only[l4,l5]at e;refine⟨_,_,(UD Y.dec b.hd a7 a7).trans (Px Y.dec (c:=⟨c.pc+1,_,_,_,_,_,_,_⟩) b.tl.hd),a7,rfl,(λh=>by cases h),ar.gl,ar.rd,ar.out,λ_ _=>rfl⟩
end
end
end
end Go.Mn

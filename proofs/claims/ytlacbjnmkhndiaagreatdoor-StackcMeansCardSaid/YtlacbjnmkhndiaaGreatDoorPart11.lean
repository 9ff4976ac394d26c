/- A part of the proof; no conditions. -/
import Derived.Test.YtlacbjnmkhndiaaGreatDoorPart10
set_option linter.unusedSimpArgs false
set_option linter.unusedVariables false
set_option linter.defProp false
open List renaming length -> z
open Option renaming some -> S, none -> N
open Bool renaming true -> T, false -> F
set_option maxHeartbeats 64000000
set_option maxRecDepth 100000
namespace Go.Proofs.YtlacbjnmkhndiaaGreatDoor
section
open Go Go.Am Go.Asm
open Go.Src (Ex Stm szE bc szS aD cn fJ dg cA fV cq)
attribute[local congr]ite_cc
section
def ze(M:List C)(fs:List Src.Fn):Prop:=∀s:Str,mget M (.str s)=(cn fs s).map λf=>.d (.iptr (fnD f))
def Ef(gr gm:Nat):List C:=[.mp 1010 gm 208,.d .nilf,.d (.fn 167),.d (.fn 167),.clo (169+1000000) [.ptr 1012 gr 0],.clo (170+1000000) [.ptr 1012 gr 0],.d (.fn 167),.clo (171+1000000) [.ptr 1012 gr 0],.clo (168+1000000) [.ptr 1012 gr 0],.clo (168+1000000) [.ptr 1012 gr 0],.clo (168+1000000) [.ptr 1012 gr 0]]
structure xr (fs:List Src.Fn) (gr gm:Nat) (g:Nat->Nat) (ob:Obs):Prop where
 or:ob 1012=some (Ef gr gm)
 om:∃M,ob 1010=some M/\ze M fs
 gr:g 1012=gr
 gm:g 1010=gm
variable{kind op num:Int}{name:Str}{kids:List Ex}{fs:List Src.Fn}{K:St->Prop}{args:Array Operand}{tys:Array TypeId}{xs:List AV}{gr gm:Nat}
def xr.mono{gr gm B:Nat}{g g':Nat->Nat}{ob Y:Obs}(h:xr fs gr gm g ob)(hB:2000<=B)(a:∀i,i<B->g' i=g i/\Y i=ob i):xr fs gr gm g' Y where
 or:=by rw[(a 1012 a7).2];exact h.or
 om:=by rw[(a 1010 a7).2];exact h.om
 gr:=by rw[(a 1012 a7).1];exact h.gr
 gm:=by rw[(a 1010 a7).1];exact h.gm
def jV(fs:List Src.Fn)(gr gm:Nat)(f:FuncId)(xs:List AV)(r:AV):Prop:=∀(B:Nat)(g:Nat->Nat)(ob:Obs),2000<=B->(∀i,B<=i->ob i=N)->xr fs gr gm g ob->
 cM Tryz.prog f (.one (.ptr 1012 gr 0)::xs) g ob (λq a Y=>a=g/\Y=ob/\q=r) (λ_ _ _=>False)
section
variable{O:Bs}{rd:Option Nat}{a:St->Am.Loc->List Deferred->World->Prop}
def cl{d:ff}{e:Nat}(a6:aY O a){o:Oper}{s:St}{k:Box K}{f:FuncId}(ho:o.op=.call ⟨.value (.func f),args,tys⟩){r:AV}
 (V:jV fs gr gm f xs r)(I:args.toList.map s.ev=.one (.ptr 1012 gr 0)::xs)(b:Nat)(hB:2000<=b)(bk:∀i,b<=i->s.obj i=N)(E:xr fs gr gm s.gen s.obj)(g:K (s.put o.dst r)):bm (spF Tryz.prog rd O a e d) o s k:=by
 refine cj (R:=λq c Y=>c=s.gen/\Y=s.obj/\q=r) (L:=λ_ _ _=>False) a6 ho (by rw[I];exact V b s.gen s.obj hB bk E) (λ_ _ _ h=>h.elim) ?_;rintro _ c Y ⟨rfl,rfl,rfl⟩;exact g
def kx{d:ff}{e:Nat}(a6:aY O a){o:Oper}{s:St}{k:Box K}{t:Nat}(ho:o.op=.call ⟨.value (.tmp t),args,tys⟩){f:FuncId}{r:AV}(hf:s.f t=.one (.clo (f+1000000) [.ptr 1012 gr 0]))
 (V:jV fs gr gm f xs r)(I:args.toList.map s.ev=xs)(b:Nat)(hB:2000<=b)(bk:∀i,b<=i->s.obj i=N)(E:xr fs gr gm s.gen s.obj)(g:K (s.put o.dst r)):bm (spF Tryz.prog rd O a e d) o s k:=by
 refine AC (R:=λq c Y=>c=s.gen/\Y=s.obj/\q=r) (L:=λ_ _ _=>False) a6 ho hf (by rw[I];exact V b s.gen s.obj hB bk E) (λ_ _ _ h=>h.elim) ?_;rintro _ c Y ⟨rfl,rfl,rfl⟩;exact g
end
def Ba(e:Ex):ax Tryz.prog 167 [exV e] (·=iv .i64 1):=by
 obtain⟨kind,op,num,name,kids⟩:=e;refine hdP Tryz.func167 rfl [2] λg=>?_;unfold exV;simp only[exD,l9,w9];exact hx
section
variable{fs:List Src.Fn}{gr gm:Nat}
def Bb(h:jV fs gr gm 173 [eb kids,iv .i64 2] (bv (cA fs 2 kids))):jV fs gr gm 168 [exV (.mk kind op num name kids)] (iv .i64 (if cA fs 2 kids then 2 else 0)):=by
 intro B g ob hB hf E;refine hdM B [] Tryz.func168 rfl [.tmp 4] a8 hf λO bn s0 w0=>?_;unfold exV;simp only[exD,aK,l9,w9];simp only[go_sem];refine cl aa rfl h VG (B+20) a7 (λi hi=>nt (hf i a7)) (E.mono hB λi hi=>⟨nu,nu⟩) ?_;simp only[go_sem];cases cA fs 2 kids
 .simp only[go_sem]
  exact gW
 .simp only[go_sem]
  exact qo
def Kk(h:jV fs gr gm 173 [eb kids,iv .i64 1] (bv (cA fs 1 kids))):jV fs gr gm 169 [exV (.mk kind op num name kids)] (iv .i64 (if cA fs 1 kids then 1 else 0)):=by
 intro B g ob hB hf E;refine hdM B [] Tryz.func169 rfl [.tmp 4] a8 hf λO bn s0 w0=>?_;unfold exV;simp only[exD,aK,l9,w9];simp only[go_sem];exact ns
def Wo(h:jV fs gr gm 173 [eb kids,iv .i64 1] (bv (cA fs 1 kids))):jV fs gr gm 171 [exV (.mk kind op num name kids)] (iv .i64 (if cA fs 1 kids then(if op=14\/op=15 then 2 else 1)else 0)):=by
 intro B g ob hB hf E;refine hdM B [] Tryz.func171 rfl [.tmp 4] a8 hf λO bn s0 w0=>?_;unfold exV;simp only[exD,aK,l9,w9];simp only[go_sem];refine cl aa rfl h VG (B+20) a7 (λi hi=>nt (hf i a7)) (E.mono hB λi hi=>⟨nu,nu⟩) ?_;simp only[go_sem];cases cA fs 1 kids
 .simp only[go_sem]
  exact gW
 by_cases U:op=14
 .rw[l8 rfl,l8 (.inl U)]
  simp only[go_sem,w8 U];exact qo
 by_cases a:op=15
 .rw[l8 rfl,l8 (.inr a)]
  simp only[go_sem,U,w8 a];exact qo
 .rw[l8 rfl,j8 a7]
  simp only[go_sem,U,a];refine⟨_,ae.refl _,?_⟩;simp only[go_sem];exact bi.nil (λi hi=>⟨nu,nu⟩) (o:=[iv .i64 1]) ⟨_,_,rfl,.one (.d _),rfl⟩ ⟨rfl,rfl,rfl⟩
def OA(h:jV fs gr gm 173 [eb kids,iv .i64 1] (bv (cA fs 1 kids))):jV fs gr gm 170 [exV (.mk kind op num name kids)] (iv .i64 (if fJ fs name && cA fs 1 kids then 1 else 0)):=by
 intro B g ob hB hf E;refine hdM B [] Tryz.func170 rfl [.tmp 4] a8 hf λO bn s0 w0=>?_;have j:=E;obtain⟨or,⟨M,om,I⟩,r,H⟩:=j;have a:∀k,(1012=B+k)=False:=λk=>by simp;omega
 have b:∀k,(1010=B+k)=False:=λk=>by simp;omega
 have v:=I name;unfold exV;unfold Ef at or;unfold fJ;simp only[exD,aK,l9,w9];simp only[go_sem];refine aF c8 ?_;cases e:cn fs name with
 |none=>
   rw[e]at v;simp only[H4]at v;simp only[go_sem,a,b,or,r,H,om,v,D8];simp only[A7,D7,A8];exact gW
 |some x=>
   obtain⟨n,s,V,l,body⟩:=x;rw[e]at v;simp only[z7,fnD]at v;cases l
   .simp only[go_sem,a,b,or,r,H,om,v,C6]
    simp only[A7,D7,A8];exact gW
   .simp only[go_sem,a,b,or,r,H,om,v,C6]
    exact ns
end
end
section
section
variable{fs:List Src.Fn}{gr gm:Nat}
def GU{kind op num:Int}{name:Str}{kids:List Ex}(h:∀t:Int,jV fs gr gm 173 [eb kids,iv .i64 t] (bv (cA fs t kids))):jV fs gr gm 197 [exV (.mk kind op num name kids)] (iv .i64 (dg fs (.mk kind op num name kids))):=by
 intro B g ob hB hf E;refine hdM B [] Tryz.func197 rfl [.tmp 4] a8 hf λO bn s0 w0=>?_;have e:=E;obtain⟨or,⟨M,om,I⟩,r,H⟩:=e;have j:∀k,(1012=B+k)=False:=λk=>by simp;omega
 have cf:exV (.mk kind op num name kids)=.agg [.d (.int .i64 kind),.d (.int .i64 op),.d (.int .u32 num),.d (.str name),.d (.sl (kids.map exD))]:=by unfold exV;simp only[exD,aK,l9,w9]
 rw[cf];unfold Ef at or;obtain⟨X,a⟩:∃X,dg fs (.mk kind op num name kids)=X:=⟨_,rfl⟩
 rw[a];rw[dg]at a;by_cases U:kind<1
 .rw[l8 (.inl U)]at a
  subst a;simp only[go_sem,w8 U];exact gW
 by_cases b:9<kind
 .rw[l8 (.inr b)]at a
  subst a;simp only[go_sem,U,w8 b];exact gW
 rw[j8 a7]at a;simp only[go_sem,U,b];refine aF c8 ?_;obtain h|h|h|h|h|h|h|h|h:kind=1\/kind=2\/kind=3\/kind=4\/kind=5\/kind=6\/kind=7\/kind=8\/kind=9:=a7
 all_goals subst h
 all_goals simp only[go_sem,j,or,r]
 .rw[l8 a7]at a
  subst a;refine rk aa rfl (f:=167) Vy W8 VG ?_;rintro _ rfl;simp only[go_sem];refine⟨_,ae.refl _,?_⟩;simp only[go_sem];exact bi.nil (λi hi=>⟨nu,nu⟩) (o:=[iv .i64 _]) ⟨_,_,rfl,.one (.d _),rfl⟩ ⟨rfl,rfl,rfl⟩
 .rw[l8 a7]at a
  subst a;refine rk aa rfl (f:=167) Vy W8 VG ?_;rintro _ rfl;simp only[go_sem];refine⟨_,ae.refl _,?_⟩;simp only[go_sem];exact bi.nil (λi hi=>⟨nu,nu⟩) (o:=[iv .i64 _]) ⟨_,_,rfl,.one (.d _),rfl⟩ ⟨rfl,rfl,rfl⟩
 .rw[j8 a7,l8 a7]at a
  subst a;refine kx aa rfl (f:=169) Vy (Kk (h 1)) Wc (B+30) a7 (λi hi=>nt (hf i a7)) (E.mono hB λi hi=>⟨nu,nu⟩) ?_;simp only[go_sem];refine⟨_,ae.refl _,?_⟩;simp only[go_sem];exact bi.nil (λi hi=>⟨nu,nu⟩) (o:=[iv .i64 _]) ⟨_,_,rfl,.one (.d _),rfl⟩ ⟨rfl,rfl,rfl⟩
 .rw[j8 a7,j8 a7,l8 a7]at a
  subst a;refine kx aa rfl (f:=170) Vy (OA (h 1)) Wc (B+30) a7 (λi hi=>nt (hf i a7)) (E.mono hB λi hi=>⟨nu,nu⟩) ?_;simp only[go_sem];refine⟨_,ae.refl _,?_⟩;simp only[go_sem];exact bi.nil (λi hi=>⟨nu,nu⟩) (o:=[iv .i64 _]) ⟨_,_,rfl,.one (.d _),rfl⟩ ⟨rfl,rfl,rfl⟩
 .rw[l8 a7]at a
  subst a;refine rk aa rfl (f:=167) Vy W8 VG ?_;rintro _ rfl;simp only[go_sem];refine⟨_,ae.refl _,?_⟩;simp only[go_sem];exact bi.nil (λi hi=>⟨nu,nu⟩) (o:=[iv .i64 _]) ⟨_,_,rfl,.one (.d _),rfl⟩ ⟨rfl,rfl,rfl⟩
 .rw[j8 a7,j8 a7,j8 a7,l8 a7]at a
  subst a;refine kx aa rfl (f:=171) Vy (Wo (h 1)) Wc (B+30) a7 (λi hi=>nt (hf i a7)) (E.mono hB λi hi=>⟨nu,nu⟩) ?_;simp only[go_sem];refine⟨_,ae.refl _,?_⟩;simp only[go_sem];exact bi.nil (λi hi=>⟨nu,nu⟩) (o:=[iv .i64 _]) ⟨_,_,rfl,.one (.d _),rfl⟩ ⟨rfl,rfl,rfl⟩
 .rw[j8 a7,j8 a7,j8 a7,j8 a7]at a
  subst a;refine kx aa rfl (f:=168) Vy (Bb (h 2)) Wc (B+30) a7 (λi hi=>nt (hf i a7)) (E.mono hB λi hi=>⟨nu,nu⟩) ?_;simp only[go_sem];refine⟨_,ae.refl _,?_⟩;simp only[go_sem];exact bi.nil (λi hi=>⟨nu,nu⟩) (o:=[iv .i64 _]) ⟨_,_,rfl,.one (.d _),rfl⟩ ⟨rfl,rfl,rfl⟩
 .rw[j8 a7,j8 a7,j8 a7,j8 a7]at a
  subst a;refine kx aa rfl (f:=168) Vy (Bb (h 2)) Wc (B+30) a7 (λi hi=>nt (hf i a7)) (E.mono hB λi hi=>⟨nu,nu⟩) ?_;simp only[go_sem];refine⟨_,ae.refl _,?_⟩;simp only[go_sem];exact bi.nil (λi hi=>⟨nu,nu⟩) (o:=[iv .i64 _]) ⟨_,_,rfl,.one (.d _),rfl⟩ ⟨rfl,rfl,rfl⟩
 .rw[j8 a7,j8 a7,j8 a7,j8 a7]at a
  subst a;refine kx aa rfl (f:=168) Vy (Bb (h 2)) Wc (B+30) a7 (λi hi=>nt (hf i a7)) (E.mono hB λi hi=>⟨nu,nu⟩) ?_;simp only[go_sem];refine⟨_,ae.refl _,?_⟩;simp only[go_sem];exact bi.nil (λi hi=>⟨nu,nu⟩) (o:=[iv .i64 _]) ⟨_,_,rfl,.one (.d _),rfl⟩ ⟨rfl,rfl,rfl⟩
def Te:∀(al:Nat)(l:List Ex)(t:Int),bc l<=al->al<=1000000000->jV fs gr gm 173 [eb l,iv .i64 t] (bv (cA fs t l)):=by
 intro al
 induction al using Nat.strongRecOn with
 |ind al w=>
 intro l t J L B g ob hB hf E;refine hdM B [] Tryz.func173 rfl [.tmp 6] a8 hf λO bn s0 w0=>?_;obtain⟨X,hz⟩:∃X,cA fs t l=X:=⟨_,rfl⟩
 rw[hz];have bl:=Src.IF l;unfold eb;simp only[go_sem,j6];refine aw (λm K=>∃k:Nat,m+k=z l/\cA fs t (l.drop k)=X/\K.f 0=.one (.ptr 1012 gr 0)/\K.f 2=iv .i64 t/\K.f 9=.one (.d (.sl (l.map exD)))/\K.f 10=iv .i64 (z l)/\K.f 11=iv .i64 k/\(∀j,j<B->K.gen j=g j/\K.obj j=ob j)/\(∀j,B+21<=j->K.obj j=N)) (z l) ?_ ?_
 .exact Vr
 rintro m f U V ⟨k,Z,b,n,a,W,A,q,fr,ar⟩;simp only at n a W A q fr ar;have x:=ac (k:=k) a7;by_cases s:k<z l
 case neg=>
  have Q:¬(k:Int)<(z l:Int):=a7;obtain rfl:k=z l:=a7;rw[F9,cA]at b;exact ic
 have Q:(k:Int)<(z l:Int):=a7;have G:(0:Int)<=(k:Int):=a7;obtain⟨e,r⟩:=getq s;have an:=Src.LU (l6 r);have H:l.drop k=e::l.drop (k+1):=by rw[C1 s,(l5.1 r).2]
 rw[H,cA]at b;obtain⟨kind,op,num,name,kids⟩:=e;rw[szE]at an;have u:=GU (fs:=fs) (gr:=gr) (gm:=gm) (kind:=kind) (op:=op) (num:=num) (name:=name) (kids:=kids) λt=>w (bc kids) a7 kids t (l7 _) a7;obtain⟨y,I⟩:∃y,dg fs (.mk kind op num name kids)=y:=⟨_,rfl⟩
 rw[I]at b u;have v:exD (.mk kind op num name kids)=[.int .i64 kind,.int .i64 op,.int .u32 num,.str name,.sl (kids.map exD)]:=by simp only[exD,aK]
 simp only[go_sem,n,a,W,A,q,Q,G,r,v];refine cl aa rfl u (by simp only[go_sem,exV,v,l9,w9]) (B+21) a7 (λi hi=>nt (ar i a7)) ((E.mono hB fr).mono hB λi hi=>⟨nu,nu⟩) ?_;by_cases Y:y=t
 .rw[C9 Y,x6]at b
  simp only[go_sem,a,w8 Y,q,x];refine ah (m-1) a7 ⟨k+1,a7,b,?_⟩;simp only[go_sem,n,a,W,A];exact⟨λj hj=>⟨nt ((fr j hj).1),nt ((fr j hj).2)⟩,λj hj=>nt (ar j hj)⟩
 .rw[A4 Y,A7]at b
  subst b;simp only[go_sem,a,Y];exact oo
end
end
end
section
open Go Go.Am Go.Asm
open Go.Src (Ex Stm szE bc szS aD cn fJ dg cA fV cq lp bU)
attribute[local congr]ite_cc
section
section
variable{fs:List Src.Fn}{gr gm:Nat}
def CF:∀(al:Nat)(e:Ex),szE e<=al->al<=1000000000->jV fs gr gm 172 [exV e] (bv (fV fs e)):=by
 intro al
 induction al using Nat.strongRecOn with
 |ind al ih=>
 intro e an hN B g ob hB hf E;refine hdM B [] Tryz.func172 rfl [.tmp 4] a8 hf λO bn s0 w0=>?_;have E1:=E;obtain⟨or,⟨M,om,I⟩,r,H⟩:=E1;unfold Ef at or;have U:∀k,(1012=B+k)=False:=λk=>by simp;omega
 have Y:∀k,(1010=B+k)=False:=λk=>by simp;omega
 obtain⟨kind,op,num,name,kids⟩:=e;obtain⟨X,hz⟩:∃X,fV fs (.mk kind op num name kids)=X:=⟨_,rfl⟩
 rw[hz];rw[fV]at hz;rw[szE]at an;have bl:=Src.IF kids;have v:=I name;have cf:exV (.mk kind op num name kids)=.agg [.d (.int .i64 kind),.d (.int .i64 op),.d (.int .u32 num),.d (.str name),.d (.sl (kids.map exD))]:=by unfold exV;simp only[exD,aK,l9,w9]
 rw[cf];by_cases G:kind=4
 .rw[l8 G]at hz
  simp only[go_sem,w8 G];refine oq (B:=B) aA mixed aa [B+5] [([0],[0],[],F),([13],[0],[],F),([14],[0],[],F),([15],[0],[],F),([3],[0],[],F),([17],[0],[],F),([16,18],[0],[],F),([19],[0],[],F),([12],[0],[],F),([12],[0],[],F),([],[],[0],F),([5,20],[],[0],F),([21],[],[],T)] 1 rfl c8 rfl a8 ?_;simp only[go_sem];cases Z:cn fs name with
  |none=>
    rw[Z]at v hz;simp only[H4]at v;simp only[D8,A7]at hz;subst hz
    iterate 10 (apply aI;· (intro n ga u l J;simp only[go_sem,U,Y,or,r,H,om,v,D8]at J|-;exact J))
    (apply cJ;· (intro n ga u l J;simp only[go_sem]at J|-;exact J))
    (apply jo;(focus simp);(focus (intro n ga u l J;simp only[go_sem]at J|-;exact J)))
    apply cL;intro l w;simp only[go_sem];refine w _ ?_;clear w l;simp only[go_sem];refine⟨_,ae.refl _,?_⟩;simp only[go_sem];exact bi.nil (λi hi=>⟨nu,nu⟩) (o:=[bv F]) ⟨_,_,rfl,.one (.d _),rfl⟩ ⟨rfl,rfl,rfl⟩
  |some x=>
    obtain⟨nm,ps,V,wd,body⟩:=x;rw[Z]at v hz;simp only[z7,fnD]at v;simp only[C6,x6]at hz
    iterate 10 (apply aI;· (intro n ga u l J;simp only[go_sem,U,Y,or,r,H,om,v,C6]at J|-;exact J))
    (apply cJ;· (intro n ga u l J;simp only[go_sem]at J|-;exact J))
    (apply jo;(focus simp);(focus (intro n ga u l J;simp only[go_sem]at J|-;exact J)))
    apply cL;intro l w;simp only[go_sem];refine w _ ?_;clear w l;simp only[go_sem,j6];refine aw (λm K=>∃k:Nat,m+k=z kids/\cq fs (kids.drop k)=X/\K.f 0=.one (.ptr 1012 gr 0)/\K.f 25=.one (.d (.sl (kids.map exD)))/\K.f 26=iv .i64 (z kids)/\K.f 27=iv .i64 k/\(∀j,j<B->K.gen j=g j/\K.obj j=ob j)/\(∀j,B+36<=j->K.obj j=N)) (z kids) ?_ ?_
    .exact T0
    exact U5
 rw[j8 G,x6]at hz;simp only[go_sem,G,j6];refine aw (λm K=>∃k:Nat,m+k=z kids/\cq fs (kids.drop k)=X/\K.f 0=.one (.ptr 1012 gr 0)/\K.f 25=.one (.d (.sl (kids.map exD)))/\K.f 26=iv .i64 (z kids)/\K.f 27=iv .i64 k/\(∀j,j<B->K.gen j=g j/\K.obj j=ob j)/\(∀j,B+36<=j->K.obj j=N)) (z kids) ?_ ?_
 .refine⟨0,rfl,by rw[D3];exact hz,?_⟩
  simp only[go_sem]
  first|exact λj hj=>hf j (by omega)|exact⟨λj hj=>⟨nu,nu⟩,λj hj=>nt (hf j (by omega))⟩
 exact U5
end
end
section
section
variable{fs:List Src.Fn}{gr gm:Nat}
def Bd:∀(al:Nat)(l:List Stm),aD l<=al->al<=1000000000->jV fs gr gm 109 [eS l] (bv (bU fs l)):=by
 intro al
 induction al using Nat.strongRecOn with
 |ind al ih=>
 intro l b3 hN B g ob hB hf E;refine hdM B [] Tryz.func109 rfl [.tmp 4] a8 hf λO bn s0 w0=>?_;have n1:∀k,(1012=B+k)=False:=λk=>by simp;omega
 have n2:∀k,(1010=B+k)=False:=λk=>by simp;omega
 obtain⟨X,hz⟩:∃X,bU fs l=X:=⟨_,rfl⟩
 rw[hz];have bl:=Src.IG l;unfold eS;simp only[go_sem,j6];refine aw (λm K=>∃k:Nat,m+k=z l/\bU fs (l.drop k)=X/\K.f 0=.one (.ptr 1012 gr 0)/\K.f 11=.one (.d (.sl (l.map smD)))/\K.f 12=iv .i64 (z l)/\K.f 13=iv .i64 k/\(∀j,j<B->K.gen j=g j/\K.obj j=ob j)/\(∀j,B+57<=j->K.obj j=N)) (z l) ?_ ?_
 .exact Vr
 rintro m f g1 av ⟨k,hk,b,q0,W,A,q,fr,ar⟩;simp only at q0 W A q fr ar;have E1:=E.mono hB fr;obtain⟨or,⟨M,om,I⟩,r,H⟩:=E1;unfold Ef at or;have hw:=ac (k:=k) a7;by_cases af:k<z l
 case neg=>
  have Q:¬(k:Int)<(z l:Int):=a7;obtain rfl:k=z l:=a7;rw[F9,bU]at b;exact ic
 have Q:(k:Int)<(z l:Int):=a7;have bf:(0:Int)<=(k:Int):=a7;obtain⟨e,he⟩:=getq af;have an:=Src.LV (l6 he);have bd:l.drop k=e::l.drop (k+1):=by rw[C1 af,(l5.1 he).2]
 rw[bd,bU]at b;obtain⟨kind,name,es,th,el⟩:=e;rw[lp]at b;rw[szS]at an;have a1:=Src.IF es;have v:=I name;have hE:smD (.mk kind name es th el)=[.int .i64 kind,.str name,.sl (es.map exD),.sl (th.map smD),.sl (el.map smD)]:=by simp only[smD,aK,dQ]
 have G:=ih (aD th) a7 th (l7 _) a7;have a6:=ih (aD el) a7 el (l7 _) a7;obtain⟨yt,Y⟩:∃y,bU fs th=y:=⟨_,rfl⟩
 obtain⟨ye,b0⟩:∃y,bU fs el=y:=⟨_,rfl⟩
 rw[Y]at b G;rw[b0]at b a6;by_cases h4:kind=6
 .rw[l8 h4]at b
  simp only[go_sem,q0,W,A,q,Q,bf,he,hE,w8 h4];refine oq (B:=B) aA mixed aa [B+7] [([0],[0],[],F),([21],[0],[],F),([22],[0],[],F),([23],[0],[],F),([6],[0],[],F),([25],[0],[],F),([24,26],[0],[],F),([27],[0],[],F),([20],[0],[],F),([20],[0],[],F),([],[],[0],F),([7,28],[],[0],F),([29],[],[],T)] 1 rfl c8 rfl a8 ?_;simp only[go_sem];cases ad:cn fs name with
  |none=>
    rw[ad]at v b;simp only[H4]at v;simp only[D8,A7]at b;subst b
    iterate 10 (apply aI;· (intro fa ga oa K' J;simp only[go_sem,q0,n1,n2,or,r,H,om,v,D8]at J|-;exact J))
    (apply cJ;· (intro fa ga oa K' J;simp only[go_sem]at J|-;exact J))
    (apply jo;(focus simp);(focus (intro fa ga oa K' J;simp only[go_sem]at J|-;exact J)))
    apply cL;intro K' a';simp only[go_sem];refine a' _ ?_;clear a' K';exact dM
  |some x=>
    obtain⟨nm,ps,V,wd,body⟩:=x;rw[ad]at v b;simp only[z7,fnD]at v;simp only[C6,x6]at b
    iterate 10 (apply aI;· (intro fa ga oa K' J;simp only[go_sem,q0,n1,n2,or,r,H,om,v,C6]at J|-;exact J))
    (apply cJ;· (intro fa ga oa K' J;simp only[go_sem]at J|-;exact J))
    (apply jo;(focus simp);(focus (intro fa ga oa K' J;simp only[go_sem]at J|-;exact J)))
    apply cL;intro K' a';simp only[go_sem];refine a' _ ?_;clear a' K';simp only[go_sem,n1,n2,j6];exact k0
 rw[j8 h4,x6]at b;simp only[go_sem,q0,W,A,q,Q,bf,he,hE,h4,j6];exact k0
end
end
end
section
open Go Go.Am Go.Asm
open Go.Src (Ex Stm szE bc szS aD cn fJ dg cA ja bh)
attribute[local congr]ite_cc
section
section
variable{fs:List Src.Fn}{gr gm:Nat}
def Be(b2:Src.Fn):∀(al:Nat)(l:List Stm),aD l<=al->al<=1000000000->jV fs gr gm 110 [fnV b2,eS l] (bv (bh fs b2.word l)):=by
 obtain⟨p,L,U,w,c⟩:=b2;intro al
 induction al using Nat.strongRecOn with
 |ind al ih=>
 intro l b3 hN B g ob hB hf E;refine hdM B [] Tryz.func110 rfl [.tmp 6] a8 hf λO bn s0 w0=>?_;have n1:∀k,(1012=B+k)=False:=λk=>by simp;omega
 have n2:∀k,(1010=B+k)=False:=λk=>by simp;omega
 have J:fnV ⟨p,L,U,w,c⟩=.agg [.d (.str p),.d (.sl (L.map λs=>[.str s])),.d (.sl (U.map λs=>[.str s])),.d (.bool w),.d (.sl (c.map smD))]:=rfl;rw[J]at ih|-;simp only at ih|-;obtain⟨X,hz⟩:∃X,bh fs w l=X:=⟨_,rfl⟩
 rw[hz];have bl:=Src.IG l;unfold eS;simp only[go_sem,j6]
 refine aw (λm K=>∃k:Nat,m+k=z l/\bh fs w (l.drop k)=X/\K.f 0=.one (.ptr 1012 gr 0)/\K.f 4=.one (.ptr (B+4) (K.gen (B+4)) 0)/\K.f 10=.one (.d (.sl (l.map smD)))/\K.f 11=iv .i64 (z l)/\K.f 12=iv .i64 k/\
   K.obj (B+4)=S [.d (.str p),.d (.sl (L.map λs=>[.str s])),.d (.sl (U.map λs=>[.str s])),.d (.bool w),.d (.sl (c.map smD))]/\(∀j,j<B->K.gen j=g j/\K.obj j=ob j)/\(∀j,B+65<=j->K.obj j=N)) (z l) ?_ ?_
 .exact T0
 rintro m f g1 av ⟨k,hk,b,q0,q4,W,A,q,o4,fr,ar⟩;simp only at q0 q4 W A q o4 fr ar;have E1:=E.mono hB fr;obtain⟨or,⟨M,om,I⟩,r,H⟩:=E1;unfold Ef at or;have hw:=ac (k:=k) a7;by_cases af:k<z l
 case neg=>
  have Q:¬(k:Int)<(z l:Int):=a7;obtain rfl:k=z l:=a7;rw[F9,bh]at b;exact ic
 have Q:(k:Int)<(z l:Int):=a7;have bf:(0:Int)<=(k:Int):=a7;obtain⟨e,he⟩:=getq af;have an:=Src.LV (l6 he);have bd:l.drop k=e::l.drop (k+1):=by rw[C1 af,(l5.1 he).2]
 rw[bd,bh]at b;obtain⟨kind,name,es,Z,el⟩:=e;rw[ja]at b;rw[szS]at an;have a1:=Src.IF es;have v:=I name;have hE:smD (.mk kind name es Z el)=[.int .i64 kind,.str name,.sl (es.map exD),.sl (Z.map smD),.sl (el.map smD)]:=by simp only[smD,aK,dQ]
 have G:=ih (aD Z) a7 Z (l7 _) a7;have a6:=ih (aD el) a7 el (l7 _) a7;have u:=λt=>Te (fs:=fs) (gr:=gr) (gm:=gm) (bc es) es t (l7 _) a7;obtain⟨yt,Y⟩:∃y,bh fs w Z=y:=⟨_,rfl⟩
 obtain⟨ye,b0⟩:∃y,bh fs w el=y:=⟨_,rfl⟩
 rw[Y]at b G;rw[b0]at b a6;simp only[go_sem,q0,q4,W,A,q,Q,bf,he,hE];by_cases k4:kind=4
 .subst k4
  rw[l8 a7]at b;simp only[show ((4:Int)==6)=F from rfl,show ((4:Int)==7)=F from rfl,A7,J0,x6]at b
  try (simp only[go_sem,q0,q4,o4])
  exact mc
 by_cases k5:kind=5
 .subst k5
  rw[l8 a7]at b;simp only[show ((5:Int)==6)=F from rfl,show ((5:Int)==7)=F from rfl,A7,J0,x6]at b
  try (simp only[go_sem,q0,q4,o4])
  exact mc
 rw[j8 a7]at b;by_cases P:kind=6
 .subst P
  simp only[show ((6:Int)==6)=T from rfl,show ((6:Int)==7)=F from rfl,A7,J0,x6,K7]at b;unfold fJ at b;simp only[go_sem];refine aF c8 ?_;cases ad:cn fs name with
  |none=>
    rw[ad]at v b;simp only[H4]at v;simp only[J0,x6]at b;simp only[go_sem,n1,n2,q0,or,r,H,om,v,D8]
    try (simp only[go_sem,q0,q4,o4])
    exact gG
  |some x=>
    obtain⟨nm,ps,V,wd,body⟩:=x;rw[ad]at v b;simp only[z7,fnD]at v;cases wd
    .simp only[J0,x6]at b
     simp only[go_sem,n1,n2,q0,or,r,H,om,v,C6]
     try (simp only[go_sem,q0,q4,o4])
     exact gG
    .simp only[N4,A7]at b
     subst b;simp only[go_sem,n1,n2,q0,or,r,H,om,v,C6];exact oo
 rw[show (kind==6)=F by simp[P]]at b;by_cases k7:kind=7
 .subst k7
  simp only[show ((7:Int)==7)=T from rfl,A7,J0,x6]at b;by_cases n:0<z es
  .have h:(0:Int)<(z es:Int):=a7
   rw[C9 n]at b;simp only[x6,Bool.not_not]at b;cases w
   .simp only[A7]at b
    subst b;simp only[go_sem,j6,h,q4,o4];exact oo
   simp only[x6]at b;simp only[go_sem,j6,h,q4,o4]
   try (simp only[go_sem,q0,q4,o4])
   exact gG
  have h:¬(0:Int)<(z es:Int):=a7;rw[A4 n]at b;simp only[A7,J0,x6]at b;simp only[go_sem,j6,h,q4,o4]
  try (simp only[go_sem,q0,q4,o4])
  exact gG
 rw[show (kind==7)=F by simp[k7]]at b;simp only[A7,J0,x6]at b;simp only[go_sem,k4,k5,P,k7]
 try (simp only[go_sem,q0,q4,o4])
 exact gG
end
end
section
variable{l:List Src.Fn}
def ze.put{M:List C}{f:Src.Fn}(h:ze M l)(b:cn l f.name=N):ze (mset M (.str f.name) (.d (.iptr (fnD f)))) (l++[f]):=λs=>by
 rw[og,Src.PE];simp only[jT,cn];by_cases a:f.name=s
 .subst a
  rw[b];simp
 .simp only[a,L2,D7,A8]
  rw[h s];cases cn l s<;>rfl
def ze.old{M:List C}{f x:Src.Fn}(h:ze M l)(b:cn l f.name=S x):ze M (l++[f]):=λs=>by
 rw[h s,Src.PE];cases a:cn l s with
 |some y=>rfl
 |none=>
   simp only[cn];rw[j8 (by rintro rfl;rw[b]at a;cases a)]
def r9{P:Prop}(h:P:=by repeat' (first|assumption|rfl|(intro i hi;(try simp only[upd]);(try rw[j8 hi]);exact ho i hi)|(intro hh;first|exact h0 hh|exact U hh|exact h2 hh|exact h3 hh|exact h4 hh|exact h5 hh|exact h6 hh|exact h7 hh|exact h8 hh|exact o hh|exact H hh|exact e hh|exact a hh|exact w hh|exact b hh)|apply A0)):P:=h
def Kl{g:Nat->Nat}{ob:Obs}(p:Src.Prog)(az:szP p<=1000000000):
  cM Tryz.prog 108 [bS p] g ob (λr g' Y=>∃gr gm,r=.one (.ptr 1012 gr 0)/\xr p.funcs gr gm g' Y/\∀i,i<1000\/1100<=i->g' i=g i/\Y i=ob i) (λ_ _ _=>False):=by
 refine hdX 1000 Tryz.func108 rfl [.tmp 2] λO bn s0 w0=>?_;unfold szP at az;have G:bS p=.agg [.d (.sl (p.vars.map λs=>[.str s])),.d (.sl (p.arrays.map arD)),.d (.sl (p.funcs.map fnD))]:=rfl;rw[G];simp only[go_sem,j6]
 refine aw (λm K=>∃k:Nat,m+k=z p.funcs/\K.f 3=.one (.ptr 1012 (K.gen 1012) 0)/\K.f 14=.one (.d (.sl (p.funcs.map fnD)))/\K.f 15=iv .i64 (z p.funcs)/\K.f 16=iv .i64 k/\
   K.obj 1012=S [.mp 1010 (K.gen 1010) 208,.d .nilf,.d .nilf,.d .nilf,.d .nilf,.d .nilf,.d .nilf,.d .nilf,.d .nilf,.d .nilf,.d .nilf]/\(∃M,K.obj 1010=S M/\ze M (p.funcs.take k))/\(∀i,i<1000\/1100<=i->K.gen i=g i/\K.obj i=ob i)) (z p.funcs) ?_ ?_
 .refine⟨0,rfl,?_⟩
  simp only[go_sem];exact⟨⟨[],rfl,λs=>rfl⟩,λi hi=>⟨nu,nu⟩⟩
 rintro m f g1 av ⟨k,hk,q3,E,n,A,q,⟨M,oM,I⟩,fr⟩;simp only at q3 E n A q oM fr;have hw:=ac (k:=k) a7;by_cases af:k<z p.funcs
 .have Q:(k:Int)<(z p.funcs:Int):=a7
  have bf:(0:Int)<=(k:Int):=a7;obtain⟨x,he⟩:=getq af;have bk:fnD x=[.str x.name,.sl (x.params.map λs=>[.str s]),.sl (x.locals.map λs=>[.str s]),.bool x.word,.sl (x.body.map smD)]:=rfl;have v:=I x.name;simp only[go_sem,q3,E,n,A,Q,bf,he,bk];refine oq (B:=1000) aA mixed aa [1006] [([3],[0],[],F),([21],[0],[],F),([22],[0],[],F),([23],[0],[],F),([5],[0],[],F),([25],[0],[],F),([24,26],[0],[],F),([27],[0],[],F),([20],[0],[],F),([20],[0],[],F),([],[],[0],F),([6,28],[],[0],F),([29],[],[],T)] 1 rfl c8 rfl a8 ?_;simp only[go_sem];cases ad:cn (p.funcs.take k) x.name with
  |none=>
    rw[ad]at v;simp only[H4]at v
    iterate 10 (apply aI;· (intro fa ga oa K' J;simp only[go_sem,q3,q,oM,v,D8]at J|-;exact J))
    (apply cJ;· (intro fa ga oa K' J;simp only[go_sem]at J|-;exact J))
    (apply jo;(focus simp);(focus (intro fa ga oa K' J;simp only[go_sem]at J|-;exact J)))
    apply cL;intro K' a';simp only[go_sem];refine a' _ ?_;clear a' K';simp only[go_sem];refine aF c8 ?_;simp only[go_sem,q3,q,oM,A,hw];refine ah (m-1) a7 ⟨k+1,a7,?_⟩;have hT:p.funcs.take (k+1)=p.funcs.take k++[x]:=by rw[D0,he,J3]
    simp only[go_sem,q3,E,n,q];exact⟨⟨_,rfl,by rw[hT];exact I.put ad⟩,λi hi=>⟨nt ((fr i hi).1),nt ((fr i hi).2)⟩⟩
  |some y=>
    obtain⟨nm,ps,V,wd,body⟩:=y;rw[ad]at v;simp only[z7,fnD]at v
    iterate 10 (apply aI;· (intro fa ga oa K' J;simp only[go_sem,q3,q,oM,v,C6]at J|-;exact J))
    (apply cJ;· (intro fa ga oa K' J;simp only[go_sem]at J|-;exact J))
    (apply jo;(focus simp);(focus (intro fa ga oa K' J;simp only[go_sem]at J|-;exact J)))
    apply cL;intro K' a';simp only[go_sem];refine a' _ ?_;clear a' K';simp only[go_sem,A,hw];refine ah (m-1) a7 ⟨k+1,a7,?_⟩;have hT:p.funcs.take (k+1)=p.funcs.take k++[x]:=by rw[D0,he,J3]
    simp only[go_sem,q3,E,n,q];exact⟨⟨M,oM,by rw[hT];exact I.old ad⟩,λi hi=>⟨nt ((fr i hi).1),nt ((fr i hi).2)⟩⟩
 have Q:¬(k:Int)<(z p.funcs:Int):=a7;obtain rfl:k=z p.funcs:=a7;rw[s6 (l7 _)]at I;simp only[go_sem,q3,n,A,Q,q];refine rh (B:=1000) aA mixed aa c8 c8 (λL s=>s.gen=g1/\(∀i,i≠1012->s.obj i=av i)/\s.f 3=.one (.ptr 1012 (g1 1012) 0)/\s.f 8=.one (.d (.fn 167))/\s.f 9=.one (.clo (168+1000000) [.ptr 1012 (g1 1012) 0])/\(L 0=T->s.f 42=.one (.ptr 1012 (g1 1012) 0))/\(L 1=T->s.f 43=.one (.ptr 1012 (g1 1012) 0))/\(L 2=T->s.f 44=.one (.ptr 1012 (g1 1012) 0))/\(L 3=T->s.f 45=.one (.d (.fn 167)))/\(L 4=T->s.f 46=.one (.d (.fn 167)))/\(L 5=T->s.f 47=.one (.d (.fn 167)))/\(L 6=T->s.f 48=.one (.ptr 1012 (g1 1012) 0))/\(L 7=T->s.f 49=.one (.ptr 1012 (g1 1012) 1))/\(L 8=T->s.f 50=.one (.ptr 1012 (g1 1012) 2))/\(L 10=T->s.f 51=.one (.ptr 1012 (g1 1012) 0))/\(L 11=T->s.f 52=.one (.ptr 1012 (g1 1012) 1))/\(L 12=T->s.f 53=.one (.ptr 1012 (g1 1012) 3))/\(L 14=T->s.f 54=.one (.ptr 1012 (g1 1012) 0))/\(L 15=T->s.f 55=.one (.ptr 1012 (g1 1012) 1))/\(L 16=T->s.f 56=.one (.ptr 1012 (g1 1012) 6))/\s.obj 1012=S [.mp 1010 (g1 1010) 208,.d .nilf,if L 9=T then .d (.fn 167)else .d .nilf,if L 13=T then .d (.fn 167)else .d .nilf,.d .nilf,.d .nilf,if L 17=T then .d (.fn 167)else .d .nilf,.d .nilf,.d .nilf,.d .nilf,.d .nilf]) ?_ ?_ ?_
 .exact⟨rfl,λi hi=>rfl,by simp only[go_sem,q3],by simp only[go_sem,q3],by simp only[go_sem,q3],λh=>by simp at h,λh=>by simp at h,λh=>by simp at h,λh=>by simp at h,λh=>by simp at h,λh=>by simp at h,λh=>by simp at h,λh=>by simp at h,λh=>by simp at h,λh=>by simp at h,λh=>by simp at h,λh=>by simp at h,λh=>by simp at h,λh=>by simp at h,λh=>by simp at h,by simp only[go_sem,q,D7]⟩
 .rintro L ⟨f',g',Y⟩ i op ⟨hg,ho,k3,k8,l,h0,U,h2,h3,h4,h5,h6,h7,h8,o,H,e,a,w,b,Z⟩ u hL c b8
  simp only at hg ho k3 k8 l h0 U h2 h3 h4 h5 h6 h7 h8 o H e a w b Z;subst hg
  match i,u with
  |0,u=>
    exact oj
  |1,u=>
    exact oj
  |2,u=>
    exact oj
  |3,u=>
    exact oj
  |4,u=>
    exact oj
  |5,u=>
    exact oj
  |6,u=>
    simp only[x7,w7,s9,v7]at u;subst u;have d0:L 0=T:=c ⟨0,.data⟩ a8 rfl;simp only[go_sem,h0 d0,k3,k8,l,Z];exact r9
  |7,u=>
    simp only[x7,w7,s9,v7]at u;subst u;have d6:L 6=T:=c ⟨6,.data⟩ a8 rfl;simp only[go_sem,h6 d6,k3,k8,l,Z];exact r9
  |8,u=>
    simp only[x7,w7,s9,v7]at u;subst u;have d7:L 7=T:=c ⟨7,.data⟩ a8 rfl;simp only[go_sem,h7 d7,k3,k8,l,Z];exact r9
  |9,u=>
    simp only[x7,w7,s9,v7]at u;subst u;have d8:L 8=T:=c ⟨8,.data⟩ a8 rfl;have d3:L 3=T:=c ⟨3,.data⟩ a8 rfl;simp only[go_sem,h8 d8,h3 d3,k3,k8,l,Z];exact r9
  |10,u=>
    simp only[x7,w7,s9,v7]at u;subst u;have d1:L 1=T:=c ⟨1,.data⟩ a8 rfl;simp only[go_sem,U d1,k3,k8,l,Z];exact r9
  |11,u=>
    simp only[x7,w7,s9,v7]at u;subst u;have W:L 10=T:=c ⟨10,.data⟩ a8 rfl;simp only[go_sem,o W,k3,k8,l,Z];exact r9
  |12,u=>
    simp only[x7,w7,s9,v7]at u;subst u;have X:L 11=T:=c ⟨11,.data⟩ a8 rfl;simp only[go_sem,H X,k3,k8,l,Z];exact r9
  |13,u=>
    simp only[x7,w7,s9,v7]at u;subst u;have P:L 12=T:=c ⟨12,.data⟩ a8 rfl;have d4:L 4=T:=c ⟨4,.data⟩ a8 rfl;simp only[go_sem,e P,h4 d4,k3,k8,l,Z];exact r9
  |14,u=>
    simp only[x7,w7,s9,v7]at u;subst u;have d2:L 2=T:=c ⟨2,.data⟩ a8 rfl;simp only[go_sem,h2 d2,k3,k8,l,Z];exact r9
  |15,u=>
    simp only[x7,w7,s9,v7]at u;subst u;have al:L 14=T:=c ⟨14,.data⟩ a8 rfl;simp only[go_sem,a al,k3,k8,l,Z];exact r9
  |16,u=>
    simp only[x7,w7,s9,v7]at u;subst u;have an:L 15=T:=c ⟨15,.data⟩ a8 rfl;simp only[go_sem,w an,k3,k8,l,Z];exact r9
  |17,u=>
    simp only[x7,w7,s9,v7]at u;subst u;have ar:L 16=T:=c ⟨16,.data⟩ a8 rfl;have d5:L 5=T:=c ⟨5,.data⟩ a8 rfl;simp only[go_sem,b ar,h5 d5,k3,k8,l,Z];exact r9
  |j+18,u=>exact absurd u a8
 rintro L ⟨f',g',Y⟩ ⟨hg,ho,k3,k8,l,h0,U,h2,h3,h4,h5,h6,h7,h8,o,H,e,a,w,b,Z⟩ bs;simp only at hg ho k3 k8 l h0 U h2 h3 h4 h5 h6 h7 h8 o H e a w b Z;subst hg;rw[bs 9 b9,bs 13 b9,bs 17 b9]at Z;simp only[B1]at Z;clear bs h0 U h2 h3 h4 h5 h6 h7 h8 o H e a w b;have t:=ho;simp only[go_sem,k3,l,Z];refine rh (B:=1000) aA mixed aa c8 c8 (λL s=>s.gen=g'/\(∀i,i≠1012->s.obj i=Y i)/\s.f 3=.one (.ptr 1012 (g' 1012) 0)/\s.f 9=.one (.clo (168+1000000) [.ptr 1012 (g' 1012) 0])/\(L 0=T->s.f 75=.one (.ptr 1012 (g' 1012) 0))/\(L 1=T->s.f 76=.one (.ptr 1012 (g' 1012) 0))/\(L 2=T->s.f 77=.one (.ptr 1012 (g' 1012) 0))/\(L 3=T->s.f 78=.one (.clo (168+1000000) [.ptr 1012 (g' 1012) 0]))/\(L 4=T->s.f 79=.one (.clo (168+1000000) [.ptr 1012 (g' 1012) 0]))/\(L 5=T->s.f 80=.one (.clo (168+1000000) [.ptr 1012 (g' 1012) 0]))/\(L 6=T->s.f 81=.one (.ptr 1012 (g' 1012) 0))/\(L 7=T->s.f 82=.one (.ptr 1012 (g' 1012) 1))/\(L 8=T->s.f 83=.one (.ptr 1012 (g' 1012) 8))/\(L 10=T->s.f 84=.one (.ptr 1012 (g' 1012) 0))/\(L 11=T->s.f 85=.one (.ptr 1012 (g' 1012) 1))/\(L 12=T->s.f 86=.one (.ptr 1012 (g' 1012) 9))/\(L 14=T->s.f 87=.one (.ptr 1012 (g' 1012) 0))/\(L 15=T->s.f 88=.one (.ptr 1012 (g' 1012) 1))/\(L 16=T->s.f 89=.one (.ptr 1012 (g' 1012) 10))/\s.obj 1012=S [.mp 1010 (g' 1010) 208,.d .nilf,.d (.fn 167),.d (.fn 167),.clo (169+1000000) [.ptr 1012 (g' 1012) 0],.clo (170+1000000) [.ptr 1012 (g' 1012) 0],.d (.fn 167),.clo (171+1000000) [.ptr 1012 (g' 1012) 0],if L 9=T then .clo (168+1000000) [.ptr 1012 (g' 1012) 0]else .d .nilf,if L 13=T then .clo (168+1000000) [.ptr 1012 (g' 1012) 0]else .d .nilf,if L 17=T then .clo (168+1000000) [.ptr 1012 (g' 1012) 0]else .d .nilf]) ?_ ?_ ?_
 .exact⟨rfl,λi hi=>nu,by simp only[go_sem,k3,l],by simp only[go_sem,k3,l],λh=>by simp at h,λh=>by simp at h,λh=>by simp at h,λh=>by simp at h,λh=>by simp at h,λh=>by simp at h,λh=>by simp at h,λh=>by simp at h,λh=>by simp at h,λh=>by simp at h,λh=>by simp at h,λh=>by simp at h,λh=>by simp at h,λh=>by simp at h,λh=>by simp at h,by simp only[go_sem,Z,D7]⟩
 .rintro L ⟨f2,g2,bo⟩ i op ⟨hg,ho,k3,l,h0,U,h2,h3,h4,h5,h6,h7,h8,o,H,e,a,w,b,Z⟩ u hL c b8
  simp only at hg ho k3 l h0 U h2 h3 h4 h5 h6 h7 h8 o H e a w b Z;subst hg
  match i,u with
  |0,u=>
    exact ov
  |1,u=>
    exact ov
  |2,u=>
    exact ov
  |3,u=>
    exact ov
  |4,u=>
    exact ov
  |5,u=>
    exact ov
  |6,u=>
    simp only[x7,w7,s9,v7]at u;subst u;have d0:L 0=T:=c ⟨0,.data⟩ a8 rfl;simp only[go_sem,h0 d0,k3,l,Z];exact r9
  |7,u=>
    simp only[x7,w7,s9,v7]at u;subst u;have d6:L 6=T:=c ⟨6,.data⟩ a8 rfl;simp only[go_sem,h6 d6,k3,l,Z];exact r9
  |8,u=>
    simp only[x7,w7,s9,v7]at u;subst u;have d7:L 7=T:=c ⟨7,.data⟩ a8 rfl;simp only[go_sem,h7 d7,k3,l,Z];exact r9
  |9,u=>
    simp only[x7,w7,s9,v7]at u;subst u;have d8:L 8=T:=c ⟨8,.data⟩ a8 rfl;have d3:L 3=T:=c ⟨3,.data⟩ a8 rfl;simp only[go_sem,h8 d8,h3 d3,k3,l,Z];exact r9
  |10,u=>
    simp only[x7,w7,s9,v7]at u;subst u;have d1:L 1=T:=c ⟨1,.data⟩ a8 rfl;simp only[go_sem,U d1,k3,l,Z];exact r9
  |11,u=>
    simp only[x7,w7,s9,v7]at u;subst u;have W:L 10=T:=c ⟨10,.data⟩ a8 rfl;simp only[go_sem,o W,k3,l,Z];exact r9
  |12,u=>
    simp only[x7,w7,s9,v7]at u;subst u;have X:L 11=T:=c ⟨11,.data⟩ a8 rfl;simp only[go_sem,H X,k3,l,Z];exact r9
  |13,u=>
    simp only[x7,w7,s9,v7]at u;subst u;have P:L 12=T:=c ⟨12,.data⟩ a8 rfl;have d4:L 4=T:=c ⟨4,.data⟩ a8 rfl;simp only[go_sem,e P,h4 d4,k3,l,Z];exact r9
  |14,u=>
    simp only[x7,w7,s9,v7]at u;subst u;have d2:L 2=T:=c ⟨2,.data⟩ a8 rfl;simp only[go_sem,h2 d2,k3,l,Z];exact r9
  |15,u=>
    simp only[x7,w7,s9,v7]at u;subst u;have al:L 14=T:=c ⟨14,.data⟩ a8 rfl;simp only[go_sem,a al,k3,l,Z];exact r9
  |16,u=>
    simp only[x7,w7,s9,v7]at u;subst u;have an:L 15=T:=c ⟨15,.data⟩ a8 rfl;simp only[go_sem,w an,k3,l,Z];exact r9
  |17,u=>
    simp only[x7,w7,s9,v7]at u;subst u;have ar:L 16=T:=c ⟨16,.data⟩ a8 rfl;have d5:L 5=T:=c ⟨5,.data⟩ a8 rfl;simp only[go_sem,b ar,h5 d5,k3,l,Z];exact r9
  |j+18,u=>exact absurd u a8
 rintro L ⟨f2,g2,bo⟩ ⟨hg,ho,k3,l,h0,U,h2,h3,h4,h5,h6,h7,h8,o,H,e,a,w,b,Z⟩ bs;simp only at hg ho k3 l h0 U h2 h3 h4 h5 h6 h7 h8 o H e a w b Z;subst hg;rw[bs 9 b9,bs 13 b9,bs 17 b9]at Z;simp only[B1]at Z;clear bs h0 U h2 h3 h4 h5 h6 h7 h8 o H e a w b;simp only[go_sem];refine⟨_,ae.refl _,?_⟩;simp only[go_sem,k3];refine⟨_,_,rfl,⟨Z,⟨M,(ho 1010 b9).trans ?_,I⟩,rfl,rfl⟩,λi hi=>⟨(fr i hi).1,?_⟩⟩
 ·(try simp only[upd]);(repeat rw[j8 (by omega)])
  exact(t 1010 b9).trans oM
 .rw[ho i a7]
  (try simp only[upd]);(repeat rw[j8 (by omega)])
  rw[t i a7];exact(fr i hi).2
end
end
section
open Go Go.Am Go.Asm
open Go.Src (Ex Stm szE bc szS aD bU bh qd aX iZ dX)
attribute[local congr]ite_cc
def Km{o:cF}(p:Src.Prog)(az:szP p<=1000000000):bP Tryz.prog 1 o 69 [bS p] (·=iv .i64 (qd p:Nat)):=by
 refine hdG Tryz.func69 rfl [.tmp 2] λO bn s0 w0 g=>?_;obtain⟨X,b⟩:∃X,qd p=X:=⟨_,rfl⟩
 rw[b];have u:=az;unfold szP at az;unfold qd at b;have G:bS p=.agg [.d (.sl (p.vars.map λs=>[.str s])),.d (.sl (p.arrays.map arD)),.d (.sl (p.funcs.map fnD))]:=rfl;rw[G];simp only[go_sem];refine cj aE rfl (by simp only[go_sem];rw[<-G];exact Kl p u) ?_ ?_
 .exact kb
 rintro r Y U ⟨gr,gm,rfl,E,fr⟩;have t:=fr 1 (.inl b9);simp[upd]at t;have ar:∀j,1100<=j->U j=N:=λj v=>by rw[(fr j (.inr a7)).2];simp only[upd];rw[j8 a7]
 clear fr;simp only[go_sem,t.1,t.2,j6]
 refine aw (λm K=>∃k:Nat,m+k=z p.funcs/\(p.funcs.take k).all (λf=>bU p.funcs f.body)=T/\K.f 1=.one (.ptr 1 (K.gen 1) 0)/\K.f 3=.one (.ptr 1012 gr 0)/\K.f 11=.one (.d (.sl (p.funcs.map fnD)))/\K.f 12=iv .i64 (z p.funcs)/\K.f 13=iv .i64 k/\
   K.obj 1=S (iW p)/\xr p.funcs gr gm K.gen K.obj/\∀j,1100<=j->K.obj j=N) (z p.funcs) ?_ ?_
 .refine⟨0,rfl,a8,?_⟩
  simp only[go_sem,t.1,t.2];exact⟨rfl,E,ar⟩
 clear t ar E;rintro m f Y U ⟨k,Z,bs,w,e,q,I,c,o1,E,ar⟩;simp only at w e q I c o1 E ar;have A:=ac (k:=k) a7;by_cases L:k<z p.funcs
 .have Q:(k:Int)<(z p.funcs:Int):=a7
  have V:(0:Int)<=(k:Int):=a7;obtain⟨x,l⟩:=getq L;have B:=kf (p:=p) (l6 l);unfold szP at B;have bk:fnD x=[.str x.name,.sl (x.params.map λs=>[.str s]),.sl (x.locals.map λs=>[.str s]),.bool x.word,.sl (x.body.map smD)]:=rfl;have a:=Bd (fs:=p.funcs) (gr:=gr) (gm:=gm) (aD x.body) x.body (l7 _) a7;obtain⟨y,n⟩:∃y,bU p.funcs x.body=y:=⟨_,rfl⟩
  rw[n]at a;simp only[go_sem,e,q,I,c,Q,V,l,bk];refine cl aE rfl a VG 2000 a7 (λi hi=>nt (ar i a7)) ⟨by simp[upd];exact E.or,by simp[upd];exact E.om,by simp[upd];exact E.gr,by simp[upd];exact E.gm⟩ ?_;cases y
  .rw[l8 (Src.all_false (p:=λf=>bU p.funcs f.body) l n)]at b
   subst b;exact hx
  .simp only[go_sem,c,A]
   refine ah (m-1) a7 ⟨k+1,a7,Src.TR bs l n,?_⟩;simp only[go_sem,w,e,q,I];exact⟨o1,⟨by simp[upd];exact E.or,by simp[upd];exact E.om,by simp[upd];exact E.gr,by simp[upd];exact E.gm⟩,λj v=>nt (ar j v)⟩
 have Q:¬(k:Int)<(z p.funcs:Int):=a7;obtain rfl:k=z p.funcs:=a7;rw[s6 (l7 _)]at bs;rw[j8 (by rw[bs];simp)]at b;have H:=o1;unfold iW iH at o1;simp only[l9,w9]at o1;simp only[go_sem,w,I,c,Q,o1,j6]
 refine aw (λm K=>∃k:Nat,m+k=z p.funcs/\(p.funcs.take k).all (λf=>bh p.funcs f.word f.body)=T/\K.f 3=.one (.ptr 1012 gr 0)/\K.f 24=.one (.d (.sl (p.funcs.map fnD)))/\K.f 25=iv .i64 (z p.funcs)/\K.f 26=iv .i64 k/\
   xr p.funcs gr gm K.gen K.obj/\∀j,1100<=j->K.obj j=N) (z p.funcs) ?_ ?_
 .refine⟨0,rfl,a8,?_⟩
  simp only[go_sem,e];exact⟨E,ar⟩
 clear w e q I c o1 H E ar L Q Z A;rintro m f Y U ⟨k,Z,W,e,q,I,c,E,ar⟩;simp only at e q I c E ar;have A:=ac (k:=k) a7;by_cases L:k<z p.funcs
 .have Q:(k:Int)<(z p.funcs:Int):=a7
  have V:(0:Int)<=(k:Int):=a7;obtain⟨x,l⟩:=getq L;have B:=kf (p:=p) (l6 l);unfold szP at B;have bk:fnD x=[.str x.name,.sl (x.params.map λs=>[.str s]),.sl (x.locals.map λs=>[.str s]),.bool x.word,.sl (x.body.map smD)]:=rfl;have J:fnV x=.agg [.d (.str x.name),.d (.sl (x.params.map λs=>[.str s])),.d (.sl (x.locals.map λs=>[.str s])),.d (.bool x.word),.d (.sl (x.body.map smD))]:=rfl;have a:=Be (fs:=p.funcs) (gr:=gr) (gm:=gm) x (aD x.body) x.body (l7 _) a7;obtain⟨y,n⟩:∃y,bh p.funcs x.word x.body=y:=⟨_,rfl⟩
  rw[n,J]at a;simp only[go_sem,e,q,I,c,Q,V,l,bk];refine cl aE rfl a VG 2000 a7 (λi hi=>nt (ar i a7)) ⟨by simp[upd];exact E.or,by simp[upd];exact E.om,by simp[upd];exact E.gr,by simp[upd];exact E.gm⟩ ?_;cases y
  .rw[l8 (Src.all_false (p:=λf=>bh p.funcs f.word f.body) l n)]at b
   subst b;exact hx
  .simp only[go_sem,c,A]
   refine ah (m-1) a7 ⟨k+1,a7,Src.TR W l n,?_⟩;simp only[go_sem,e,q,I];exact⟨⟨by simp[upd];exact E.or,by simp[upd];exact E.om,by simp[upd];exact E.gr,by simp[upd];exact E.gm⟩,λj v=>nt (ar j v)⟩
 have Q:¬(k:Int)<(z p.funcs:Int):=a7;obtain rfl:k=z p.funcs:=a7;rw[s6 (l7 _)]at W;rw[j8 (by rw[W];simp)]at b;subst b;simp only[go_sem,I,c,Q]
def Kn{o:cF}(ho:jS o)(p:Src.Prog)(az:szP p<=1000000000):bP Tryz.prog 1 o 43 [bS p] (·=iv .i64 (aX p:Nat)):=by
 refine hdG Tryz.func43 rfl [.tmp 2] λO bn s0 w0 g=>?_;obtain⟨X,a⟩:∃X,aX p=X:=⟨_,rfl⟩
 rw[a];unfold aX at a;have G:bS p=.agg [.d (.sl (p.vars.map λs=>[.str s])),.d (.sl (p.arrays.map arD)),.d (.sl (p.funcs.map fnD))]:=rfl;have hR:=CD ho p az;have hT:=Km (o:=o) p az;rw[G]at hR hT|-;simp only[go_sem];refine cG rfl Xo ?_;rintro _ rfl;cases V:dX p
 .rw[l8 V]at a
  subst a;exact hx
 rw[j8 (by rw[V];simp)]at a
 have e:1<=z p.funcs:=by
  unfold dX at V;simp at V;exact V.1.1.1
 have hS:=Kj (o:=o) p e az;rw[G]at hS;simp only[go_sem];refine cG rfl W0 ?_;rintro _ rfl;by_cases b:iZ p=0
 .rw[j8 (by simp[b])]at a
  simp only[go_sem,b];refine cG rfl VT ?_;rintro _ rfl;rw[a];exact hx
 .rw[l8 b]at a
  have bl:¬((iZ p:Nat):Int)=0:=a7;rw[a]at bl|-;simp only[go_sem,bl]
end
end Go.Proofs.YtlacbjnmkhndiaaGreatDoor
namespace Go.Lower
section
structure Ins where
 op:Int
 a:Int
 b:Int
 n:Int
inductive Ex where
 |mk (kind op num slot size:Int) (kids:List Ex)
inductive Stm where
 |mk (kind slot size:Int) (e:List Ex) (th el:List Stm)
abbrev Sig:=List (Int×Bool)
def within(w a n:Int):Prop:=0<=a/\0<=n/\a<=w/\n<=w-a
def callee(ps:Sig)(f:Nat)(g:Int)(args:Nat)(word:Bool):Prop:=∃k:Nat,g=(k:Int)/\k<f/\ps[k]?=S ((args:Int),word)
def okE(w:Int)(ps:Sig)(f:Nat)(q:Int)(kind op num slot size:Int)(n:Nat):Prop:=
 q<=24/\(kind=1\/num=0)/\(kind=6\/op=0)/\(kind=3\/size=0)/\(kind=2\/kind=3\/kind=4\/slot=0)/\
 (((kind=1\/kind=5)/\n=0)\/(kind=2/\within w slot 1/\n=0)\/(kind=3/\1<=size/\size<=4096/\within w slot size/\n=1)\/
  (kind=4/\callee ps f slot n T)\/(kind=6/\4<=op/\op<=15/\n=2)\/(kind=7/\n=1)\/((kind=8\/kind=9)/\n=2))
mutual
def rE(w:Int)(ps:Sig)(f:Nat)(q:Int):Ex->Prop
 |.mk kind op num slot size kids=>okE w ps f q kind op num slot size (z kids)/\rEs w ps f (q+1) kids
def rEs(w:Int)(ps:Sig)(f:Nat)(q:Int):List Ex->Prop
 |[]=>True
 |e::l=>rE w ps f q e/\rEs w ps f q l
end
def okS(w:Int)(ps:Sig)(f:Nat)(word:Bool)(q:Int)(kind slot size:Int)(n nt ne:Nat):Prop:=
 q<=24/\(kind=2\/size=0)/\(kind=1\/kind=2\/kind=6\/slot=0)/\(kind=4\/ne=0)/\(kind=4\/kind=5\/nt=0)/\
 ((kind=1/\within w slot 1/\n=1)\/(kind=2/\1<=size/\size<=4096/\within w slot size/\n=2)\/((kind=3\/kind=4\/kind=5)/\n=1)\/
  (kind=6/\callee ps f slot n F)\/(kind=7/\(n=0\/(word=T/\n=1))))
mutual
def rS(w:Int)(ps:Sig)(f:Nat)(word:Bool)(q:Int):Stm->Prop
 |.mk kind slot size e a el=>okS w ps f word q kind slot size (z e) (z a) (z el)/\rEs w ps f (q+1) e/\rSs w ps f word (q+1) a/\rSs w ps f word (q+1) el
def rSs(w:Int)(ps:Sig)(f:Nat)(word:Bool)(q:Int):List Stm->Prop
 |[]=>True
 |e::l=>rS w ps f word q e/\rSs w ps f word q l
end
abbrev Code:=List (Ins×Int)
def one(kind op num slot size:Int)(d:Int):Code:=
 if kind=1 then [(⟨1,0,0,num⟩,d)]else if kind=2 then [(⟨2,slot,0,0⟩,d)]else if kind=3 then [(⟨4,slot,size,0⟩,d)]else if kind=4 then [(⟨10,slot,0,0⟩,d)]
 else if kind=5 then [(⟨12,0,0,0⟩,d)]else if kind=6 then [(⟨6,op,0,0⟩,d)]else if kind=7 then [(⟨7,0,0,0⟩,d)]else []
def gY(kind d:Int):Code:=if kind=8 then [(⟨7,0,0,0⟩,d+1)]else []
def jM(at':Nat)(d kind:Int)(c0:Code)(c1:Nat->Code):Code:=
 let r:=at'+z c0+z (gY kind d)
 c0++(gY kind d++((⟨9,(r+3:Nat),0,0⟩,d+1)::(⟨1,0,0,if kind=8 then 0 else 1⟩,d)::(⟨8,(r+3+z (c1 (r+3))+2:Nat),0,0⟩,d+1)::(c1 (r+3)++[(⟨7,0,0,0⟩,d+1),(⟨7,0,0,0⟩,d+1)])))
mutual
def cE(at':Nat)(d:Int):Ex->Code
 |.mk kind op num slot size kids=>
   if kind=8\/kind=9 then cAO at' d kind kids
   else cEs at' d kids++one kind op num slot size (d+z kids)
def cEs(at':Nat)(d:Int):List Ex->Code
 |[]=>[]
 |e::l=>cE at' d e++cEs (at'+z (cE at' d e)) (d+1) l
def cAO(at':Nat)(d kind:Int):List Ex->Code
 |[]=>[]
 |e::l=>jM at' d kind (cE at' d e) (λr=>jv r d l)
def jv(at':Nat)(d:Int):List Ex->Code
 |[]=>[]
 |e::_=>cE at' d e
end
def takes(ps:Sig)(word:Bool)(x:Ins):Option (Int×Int):=
 if x.op=1\/x.op=2\/x.op=12 then S (0,1)else if x.op=3\/x.op=9\/x.op=13 then S (1,0)else if x.op=4\/x.op=7 then S (1,1)
 else if x.op=5 then S (2,0)else if x.op=6 then S (2,1)else if x.op=8 then S (0,0)
 else if x.op=10 then(if x.a<0 then N else(ps[x.a.toNat]?).map λp=>(p.1,if p.2 then 1 else 0))
 else if x.op=11 then S (if word then(1,0)else(0,0))else N
def next(x:Ins)(at':Nat):List Int:=if x.op=8 then [x.a]else if x.op=9 then [((at'+1:Nat):Int),x.a]else if x.op=11 then []else [((at'+1:Nat):Int)]
def OkI(ps:Sig)(word:Bool)(E:Nat->Option Int)(at':Nat)(x:Ins)(d:Int):Prop:=
 ∃t p,takes ps word x=S (t,p)/\0<=t/\t<=d/\(x.op=11->d=t)/\∀k∈next x at',∃a:Nat,k=(a:Int)/\E a=S (d-t+p)
def Seg(E:Nat->Option Int):Nat->Code->Prop
 |_,[]=>True
 |at',(_,d)::c=>E at'=S d/\Seg E (at'+1) c
def Good(ps:Sig)(word:Bool)(E:Nat->Option Int):Nat->Code->Prop
 |_,[]=>True
 |at',(x,d)::c=>OkI ps word E at' x d/\Good ps word E (at'+1) c
def ig{E:Nat->Option Int}:∀{a b:Code}{at':Nat},Seg E at' (a++b)↔Seg E at' a/\Seg E (at'+z a) b
 |[],b,at'=>by simp[Seg]
 |(x,d)::a,b,at'=>by simp only[C3,Seg,ig (a:=a),j9,and_assoc];rw[show at'+(z a+1)=at'+1+z a by omega]
def fB{ps:Sig}{word:Bool}{E:Nat->Option Int}:∀{a b:Code}{at':Nat},Good ps word E at' (a++b)↔Good ps word E at' a/\Good ps word E (at'+z a) b
 |[],b,at'=>by simp[Good]
 |(x,d)::a,b,at'=>by simp only[C3,Good,fB (a:=a),j9,and_assoc];rw[show at'+(z a+1)=at'+1+z a by omega]
end
end Go.Lower
namespace Go.Src
section
open Go.Asm (Str)
abbrev Pl:=List (Str×Int×Int)
def jx:Pl->Str->Option (Int×Int)
 |[],_=>N
 |t::l,s=>if t.1=s then S t.2 else jx l s
def bV(o i:Pl)(s:Str):Int×Int:=match jx i s with|some x=>x|none=>(jx o s).getD (0,0)
mutual
def di(o i:Pl):Ex->Lower.Ex
 |.mk kind op num name kids=>.mk kind op num (bV o i name).1 (bV o i name).2 (aU o i kids)
def aU(o i:Pl):List Ex->List Lower.Ex
 |[]=>[]
 |e::l=>di o i e::aU o i l
end
def kO(o i:Pl):∀l:List Ex,aU o i l=l.map (di o i)
 |[]=>by simp[aU]
 |e::l=>by simp[aU,kO o i l]
mutual
def coreS(o i:Pl):Stm->Lower.Stm
 |.mk kind name e a el=>.mk kind (bV o i name).1 (bV o i name).2 (aU o i e) (bA o i a) (bA o i el)
def bA(o i:Pl):List Stm->List Lower.Stm
 |[]=>[]
 |s::l=>coreS o i s::bA o i l
end
def kP(o i:Pl):∀l:List Stm,bA o i l=l.map (coreS o i)
 |[]=>by simp[bA]
 |e::l=>by simp[bA,kP o i l]
structure CFn where
 params:Int
 slots:Int
 first:Int
 word:Bool
 body:List Lower.Stm
def gV:List Str->Pl->Int->Pl×Int
 |[],m,w=>(m,w)
 |n::l,m,w=>gV l ((n,w,0)::m) (w+1)
def gA:List (Str×Int)->Pl->Int->Pl×Int
 |[],m,w=>(m,w)
 |a::l,m,w=>gA l ((a.1,w,a.2)::m) (w+a.2)
def gF:Nat->List Fn->Pl->Pl
 |_,[],m=>m
 |i,f::l,m=>gF (i+1) l ((f.name,(i:Int),0)::m)
def ai(p:Prog):Pl×Int:=
 (gF 0 p.funcs (gA p.arrays (gV p.vars [] 0).1 (gV p.vars [] 0).2).1,(gA p.arrays (gV p.vars [] 0).1 (gV p.vars [] 0).2).2)
def lP(w:Int):Nat->List Str->Pl->Pl
 |_,[],m=>m
 |i,n::l,m=>lP w (i+1) l ((n,w+i,0)::m)
def lR(o:Pl)(f:Fn)(w:Int):CFn:=
 ⟨z f.params,z f.params+z f.locals,w,f.word,bA o (lP (w+z f.params) 0 f.locals (lP w 0 f.params [])) f.body⟩
def cR(o:Pl):List Fn->Int->List CFn×Int
 |[],w=>([],w)
 |f::l,w=>(lR o f w::(cR o l (w+(z f.params+z f.locals))).1,(cR o l (w+(z f.params+z f.locals))).2)
structure Core where
 words:Int
 funcs:List CFn
def ab(p:Prog):Core:=⟨(cR (ai p).1 p.funcs (ai p).2).2,(cR (ai p).1 p.funcs (ai p).2).1⟩
def iN(p:Prog):Core×Nat:=
 if aX p≠0 then(⟨0,[]⟩,aX p)else if 32768<(ab p).words then(⟨0,[]⟩,2)else(ab p,0)
end
end Go.Src

/- A part of the proof; no conditions. -/
import Derived.Test.YtlacbjnmkhndiaaGreatDoorPart21
set_option linter.unusedSimpArgs false
set_option linter.unusedVariables false
set_option linter.defProp false
open List renaming length -> z
open Option renaming some -> S, none -> N
open Bool renaming true -> T, false -> F
set_option maxHeartbeats 64000000
set_option maxRecDepth 100000
namespace Go.Proofs.YtlacbjnmkhndiaaGreatDoor.Low
section
attribute [local congr] Go.Am.ite_cc
open Go Go.Am Go.Lower
section
def wn(fs:List Src.CFn):Nat:=(fs.map λx=>eJ x.body).sum
def qD(fs:List Src.CFn)(k:Nat):Nat:=wn (fs.take k)
def Bh(fs:List Src.CFn)(k:Nat):qD fs k<=wn fs:=by
 conv=>rhs;rw[<-H3 k fs]
 simp only[qD,wn,B5,L6];omega
variable{w:Int}{ps:Sig}{fs:List Src.CFn}{x:Src.CFn}
def xu{k:Nat}(h:fs[k]?=S x):qD fs (k+1)=qD fs k+eJ x.body:=by
 simp only[qD,wn,D0,h,J3,B5,L6,l9,w9,D9,QI];omega
def bE(x:Ins):List D:=[.int .i64 x.op,.int .i64 x.a,.int .i64 x.b,.int .u32 x.n]
abbrev sP(l:Lower.Code):D:=.sl ((l.map Prod.fst).map bE)
def KG{fi:Nat}{a:Bool}{l:List Stm}{q:Int}(c:eJ l<=100000000000)(V:rSs w ps fi a q l):eK 77 [slS l] (bL l):=
 uA a7 λk s hs=>OC (mO s) s q (l7 _) W9 (sZ V hs)
def OD{fi:Nat}{n:Bool}(V:rSs w ps fi n 1 x.body)(q:eJ x.body<=100000000000)(hl:z (codeOf x.word x.body)<=1000000000):
  ax Tryz.prog 49 [.agg ((cfD x).map .d)] (·=.one (.d (sP (codeOf x.word x.body)))):=by
 refine hdP Tryz.func49 rfl [2] λg=>?_;have r:z (cSs x.word 0 x.body)+z (leave x.word)<=1000000000:=by rw[codeOf,j7]at hl;exact hl
 simp only[go_sem,cfD,j6];refine BP _ (ej (t:=3) (o:=3) (b:=20) (j:=1) (sz:=4) (off:=0) rfl rfl rfl b9) ?_;simp only[St.claimAt]
 have u:Prog 21 21 3 20 x.word [] (upd (upd (upd g 1 (nxC 108 (g 1))) 3 (nxC 165 (g 3))) 20 (g 20+1)) _ _ _:=Prog.start (ob:=upd (upd (upd (upd (upd (λ_=>N) 1 (S [.d (.int .i64 x.params),.d (.int .i64 x.slots),.d (.int .i64 x.first),.d (.bool x.word),.d (.sl (x.body.map csD))])) 3 (S [.d (.bool F),.d .nsl])) 3 (S [.d (.bool x.word),.d .nsl])) 3 (S [.d (.bool x.word),.osl 20 (g 20+1) 4 0 0])) 20 (S []))
  ⟨by simp[upd],by simp[upd,En],b9⟩ b9 b9 (λi hi=>by simp only[upd];rw[j8 a7,j8 a7,j8 a7,j8 a7,j8 a7]) (l7 _)
 refine bQ (KG q V) u rfl (p:=nxC 165 (g 3)) VF (by simp only[slS,nJ];rfl) (by simp only[bL,j6,l4,C7];omega) ?_;intro J av v A K;have H:([]++bL x.body x.word (z ([]:List Ins))).length=z (cSs x.word 0 x.body):=by simp only[bL,A6,j6,l4]
 simp only[go_sem];refine bQ CN v rfl VF rfl (by rw[H,j6];exact r) ?_;intro E bo k G L;have e:[]++bL x.body x.word (z ([]:List Ins))++(leave x.word).map Prod.fst=(codeOf x.word x.body).map Prod.fst:=by simp only[bL,codeOf,A6,B5,l4]
 rw[e]at k;have I:E 3=nxC 165 (g 3):=by rw[G 3 b9 b9,A 3 b9 b9];simp[upd]
 simp only[go_sem,k.tape.t,I];refine⟨_,⟨_,dN (s:=⟨_,_,_⟩) rfl ((codeOf x.word x.body).map Prod.fst) bE k.tape.b j0 (λa _ y l=>?_) (λ_ _=>rfl) (j6 _),rfl⟩,rfl⟩;simp only[bE,A3,A9,E6]at l;rcases l with rfl|rfl|rfl|rfl<;>rfl
def sfD(x:Src.CFn):List D:=[.int .i64 x.params,.int .i64 x.slots,.int .i64 x.first,.bool x.word,sP (codeOf x.word x.body)]
def iX(w:Int)(fs:List Src.CFn):AV:=.agg [.d (.int .i64 w),.d (.sl (fs.map sfD))]
def KH(x:Src.CFn):z (sfD x)=5:=rfl
def Nh(fs:List Src.CFn):Prop:=∀x∈fs,z (codeOf x.word x.body)<=1000000000
def OE(hN:wn fs<=100000000000)(hF:z fs<=1000000)(p:Nh fs)(V:∀(k:Nat)(x:Src.CFn),fs[k]?=S x->rSs w ps k x.word 1 x.body):ax Tryz.prog 22 [pp ⟨w,fs⟩] (·=iX w fs):=by
 refine hdR Tryz.func22 rfl [.cell 2 69] λg=>?_;unfold pp;simp only[go_sem,j6]
 refine xZ _ (ej (t:=3) (o:=3) (b:=30) (j:=1) (sz:=5) (off:=0) rfl rfl rfl b9) (λn s=>∃k:Nat,n+k=z fs/\s.f 2=.one (.ptr 2 (s.gen 2) 0)/\s.f 3=.one (.ptr 3 (s.gen 3) 0)/\s.f 10=.one (.d (.sl (fs.map cfD)))/\s.f 11=iv .i64 (z fs)/\s.f 12=iv .i64 k/\s.obj 2=S [.d (.int .i64 0),.d .nsl]/\s.obj 3=S [.d (.int .i64 w),.osl 30 (s.gen 30) 5 0 k]/\
  s.obj 30=S ((fs.take k).flatMap λx=>(sfD x).map .d)) (z fs) ?_ ?_
 .refine⟨0,rfl,?_⟩
  simp only[St.claimAt];simp only[go_sem,List.flatMap_nil]
  try rfl
 .clear g
  rintro n f g ob ⟨k,hk,v,q,e,A,h,E,B,m⟩;simp only at v q e A h E B m;have L:=ac (k:=k) a7
  have O:∀l:List Src.CFn,z (l.flatMap λx=>(sfD x).map C.d)=z l*5:=by
   intro l
   induction l with
   |nil=>rfl
   |cons a l U=>simp only[G2,j7,U,j6,KH,j9];omega
  by_cases K:k<z fs
  .obtain⟨x,I⟩:=getq K
   have u:eJ x.body<=100000000000:=by
    have h2:=xu I;have h3:=Bh fs (k+1);omega
   have Y:z (fs.take k)=k:=by rw[D1];omega
   simp only[go_sem,v,q,e,A,h,E,B,m,K,I,j6,cfD];refine fL aA mixed [29,30,3] [([3],[0],[],F),([16],[0],[],F),([5],[],[],F),([18],[],[],F),([5],[],[],F),([20],[],[],F),([5],[],[],F),([22],[],[],F),([5],[],[],F),([24],[],[],F),([5],[],[],F),([26],[],[],F),([19,21,23,25,27],[],[],F),([28],[],[0],F),([17,29],[],[1],F),([3],[],[],F),([31,30],[],[],T)] 3 c8 rfl b9 ?_;simp only[go_sem]
   iterate 11 (apply aI;· (intro G ga H r J;simp only[go_sem,q,B,setAt]at J|-;exact J))
   apply aI
   .intro G ga H r J
    simp only[go_sem]at J|-;refine vH rfl (OD (V k x I) u (p x (l6 I))) j0 ?_;exact SF
   (apply aI;· (intro G ga H r J;simp only[go_sem,q,B]at J|-;exact J))
   (apply cJ;· (intro G ga H r J;simp only[go_sem,q,B]at J|-;exact J))
   apply cJ
   .intro G ga H r J
    simp only[go_sem,m,O,Y]at J|-;refine⟨?_,?_,J⟩
    .omega
    .exact⟨b9,a7⟩
   (apply aI;· (intro G ga H r J;simp only[go_sem,q,B]at J|-;exact J))
   apply cL;intro r W;simp only[go_sem,q,B];refine W _ ?_;simp only[go_sem,v,q,e,A,h,E,L];refine dG (n-1) a7 ⟨k+1,a7,?_⟩;simp only[go_sem,v,q,e,A,h,E,L];rw[D0,I,N3,s6 (by rw[O,Y];exact l7 _)];rfl
  .have X:k=z fs:=a7
   subst X;simp only[go_sem,v,q,e,A,h,E,B,K,j6];rw[H8]at m;refine⟨_,⟨[.int .i64 w,.sl (fs.map sfD)],rfl,λi c Z=>?_,rfl⟩,rfl⟩
   match i,Z with
   |0,Z=>cases Z;exact⟨_,rfl,.d _⟩
   |1,Z=>
     cases Z;refine⟨_,rfl,dN (s:=⟨_,_,_⟩) rfl fs sfD ?_ rfl (λa _ y Q=>?_) (λ_ _=>rfl) rfl⟩
     .simp only[upd];exact m
     .simp only[sfD,A3,A9,E6]at Q
      rcases Q with rfl|rfl|rfl|rfl|rfl<;>rfl
end
end
end Go.Proofs.YtlacbjnmkhndiaaGreatDoor.Low
namespace Go.Src
section
open Go.Asm (Str)
open Go.Lower (Sig within callee rE rEs rS rSs)
section
def sigs(fs:List Fn):Sig:=fs.map λf=>((z f.params:Int),f.word)
structure pb (fs:List Fn) (W:Int) (k:Nat) (g:Str->Option (Nat×Nat)) (pl:Str->Int×Int):Prop where
 no:pl []=(0,0)
 var:∀s kd n,g s=some (kd,n)->kd=1\/kd=2->within W (pl s).1 1/\(pl s).2=0
 arr:∀s n,g s=some (3,n)->1<=(pl s).2/\(pl s).2<=4096/\within W (pl s).1 (pl s).2
 fn:∀s n,g s=some (4,n)->n<k->(pl s).1=n/\(pl s).2=0/\∃f,fs[n]?=some f/\cn fs s=some f
section
variable{fs:List Fn}{W:Int}{k:Nat}{o i:Pl}{g:Str->Option (Nat×Nat)}
def vb:∀l:List Ex,z (aU o i l)=z l:=λl=>by rw[kO,j6]
def vc:∀l:List Stm,z (bA o i l)=z l:=λl=>by rw[kP,j6]
def lI(H:pb fs W k g (bV o i)){name:Str}{args:Nat}{w:Bool}(U:bj g k 4 name=T)(a:eP g fs k 4 name args=T)(b:fJ fs name=w):callee (sigs fs) k (bV o i name).1 args w/\(bV o i name).2=0:=by
 unfold bj at U;cases c:g name with
 |none=>rw[c]at U;cases U
 |some t=>
   obtain⟨l,n⟩:=t;rw[c]at U;simp only[show ¬(4:Nat)=2 by decide,show ¬(4:Nat)=3 by decide,A8,s5,I3,B4]at U;obtain⟨rfl,d⟩:=U;obtain⟨e,h,f,Y,j⟩:=H.fn name n c d;unfold eP at a;rw[c]at a;simp[d,Y]at a;unfold fJ at b;rw[j]at b;simp only at b;refine⟨⟨n,e,d,?_⟩,h⟩;unfold sigs;rw[x8,Y,z7,a,b]
mutual
theorem Ab(H:pb fs W k g (bV o i)):∀(e:Ex)(q:Nat),eW q e=T->okE (λa b _=>bj g k a b) e=T->okE (λa b c=>eP g fs k a b c) e=T->dg fs e≠0->rE W (sigs fs) k q (di o i e)
 |.mk kind op num name kids,q,U,y,G,p=>by
   rw[eW]at U;rw[okE]at y G;rw[dg]at p;simp only[s5,B4]at U y G;obtain⟨j,d,v⟩:=U;rw[di,rE];have f:(q:Int)<=24:=a7;have bd:=vb (o:=o) (i:=i) kids;unfold Lower.okE;rw[bd];have A:kids=[]->rEs W (sigs fs) k (q+1) (aU o i kids):=λe=>by rw[e,aU,rEs];trivial
   have r:∀t,cA fs t kids=T->t≠0->rEs W (sigs fs) k (q+1) (aU o i kids):=λt K Y=>by
    have:=mI H kids (q+1) t v y.2 G.2 K Y;exact SV
   have u:name=[]->bV o i name=(0,0):=λe=>by rw[e];exact H.no
   unfold bD am at d;by_cases k1:kind=1
   .subst k1
    simp at d;obtain⟨⟨ho,s⟩,hl⟩:=d;have w:kids=[]:=by first|exact hl|exact G4.1 hl
    rw[u s];exact⟨⟨f,.inl rfl,.inr ho,.inr rfl,.inr (.inr (.inr rfl)),.inl ⟨.inl rfl,by rw[w];rfl⟩⟩,A w⟩
   by_cases L:kind=2
   .subst L
    simp at d;obtain⟨⟨⟨ho,m⟩,s⟩,hl⟩:=d;have w:kids=[]:=by first|exact hl|exact G4.1 hl
    have l:=y.1;simp only[B1]at l;unfold bj at l;cases x:g name with
    |none=>rw[x]at l;cases l
    |some t=>
      obtain⟨X,n⟩:=t;rw[x]at l;simp at l;obtain⟨Z,w2⟩:=H.var name X n x l;exact⟨⟨f,.inr m,.inr ho,.inr w2,.inl rfl,.inr (.inl ⟨rfl,Z,by rw[w];rfl⟩)⟩,A w⟩
   by_cases O:kind=5
   .subst O
    simp at d;obtain⟨⟨⟨ho,m⟩,s⟩,hl⟩:=d;have w:kids=[]:=by first|exact hl|exact G4.1 hl
    rw[u s];exact⟨⟨f,.inr m,.inr ho,.inr rfl,.inr (.inr (.inr rfl)),.inl ⟨.inr rfl,by rw[w];rfl⟩⟩,A w⟩
   by_cases I:kind=3
   .subst I
    simp at d;obtain⟨⟨⟨ho,m⟩,s⟩,hl⟩:=d;have l:=y.1;simp at l;unfold bj at l;simp at p;cases x:g name with
    |none=>rw[x]at l;cases l
    |some t=>
      obtain⟨X,n⟩:=t;rw[x]at l;simp at l;subst l;obtain⟨a1,a2,E⟩:=H.arr name n x;exact⟨⟨f,.inr m,.inr ho,.inl rfl,.inr (.inl rfl),.inr (.inr (.inl ⟨rfl,a1,a2,E,hl⟩))⟩,r 1 p b9⟩
   by_cases J:kind=4
   .subst J
    simp at d;obtain⟨⟨⟨ho,m⟩,s⟩,hl⟩:=d;have l:=y.1;have B:=G.1;simp at l B p;obtain⟨c1,c2⟩:=lI H l B p.1;exact⟨⟨f,.inr m,.inr ho,.inr c2,.inr (.inr (.inl rfl)),.inr (.inr (.inr (.inl ⟨rfl,c1⟩)))⟩,r 1 p.2 b9⟩
   by_cases P:kind=6
   .subst P
    simp at d;obtain⟨⟨⟨ho,m⟩,s⟩,hl⟩:=d;simp at p;rw[u s];exact⟨⟨f,.inr m,.inl rfl,.inr rfl,.inr (.inr (.inr rfl)),.inr (.inr (.inr (.inr (.inl ⟨rfl,ho.1,ho.2,hl⟩))))⟩,r 1 p.1 b9⟩
   by_cases Q:kind=7
   .subst Q
    simp at d;obtain⟨⟨⟨ho,m⟩,s⟩,hl⟩:=d;simp at p;rw[u s];exact⟨⟨f,.inr m,.inr ho,.inr rfl,.inr (.inr (.inr rfl)),.inr (.inr (.inr (.inr (.inr (.inl ⟨rfl,hl⟩)))))⟩,r 2 p b9⟩
   by_cases V:kind=8\/kind=9
   .simp[k1,L,I,J,O,P,Q,V]at d
    obtain⟨⟨⟨ho,m⟩,s⟩,hl⟩:=d
    have K:cA fs 2 kids=T:=by
     rw[j8 a7,j8 a7,j8 I,j8 J,j8 P]at p;simpa using p
    rw[u s];exact⟨⟨f,.inr m,.inr ho,.inr rfl,.inr (.inr (.inr rfl)),.inr (.inr (.inr (.inr (.inr (.inr ⟨V,hl⟩)))))⟩,r 2 K b9⟩
   .simp[k1,L,I,J,O,P,Q,V]at d
theorem mI(H:pb fs W k g (bV o i)):∀(l:List Ex)(q:Nat)(t:Int),bg q l=T->df (λa b _=>bj g k a b) l=T->df (λa b c=>eP g fs k a b c) l=T->cA fs t l=T->t≠0->rEs W (sigs fs) k q (aU o i l)
 |[],q,t,_,_,_,_,_=>by rw[aU,rEs];trivial
 |e::l,q,t,U,d,f,h,j=>by
   rw[bg,s5]at U;rw[df,s5]at d f;rw[cA,s5,B4]at h;rw[aU,rEs];exact⟨Ab H e q U.1 d.1 f.1 (by rw[h.1];exact j),mI H l q t U.2 d.2 f.2 h.2 j⟩
end
mutual
theorem Ac{w:Bool}(H:pb fs W k g (bV o i)):∀(s:Stm)(q:Nat),eL q s=T->okS (λa b _=>bj g k a b) s=T->okS (λa b c=>eP g fs k a b c) s=T->ja fs w s=T->rS W (sigs fs) k w q (coreS o i s)
 |.mk kind name e J el,q,U,p,y,A=>by
   rw[eL]at U;rw[okS]at p y;rw[ja]at A;simp only[s5,B4]at U p y A;obtain⟨⟨j,d,v⟩,G,a6⟩:=U;obtain⟨⟨⟨K,I⟩,bs⟩,r,b2⟩:=A;rw[coreS,rS];have f:(q:Int)<=24:=a7;unfold Lower.okS;rw[vb,vc,vc]
   have r1:rEs W (sigs fs) k (q+1) (aU o i e):=by
    have:=mI H e (q+1) _ v p.1.1.2 y.1.1.2 bs (by split<;>decide);exact SV
   have r2:rSs W (sigs fs) k w (q+1) (bA o i J):=by
    have:=kl H J (q+1) G p.1.2 y.1.2 r;exact SV
   have r3:rSs W (sigs fs) k w (q+1) (bA o i el):=by
    have:=kl H el (q+1) a6 p.2 y.2 b2;exact SV
   refine⟨?_,r1,r2,r3⟩;have u:name=[]->bV o i name=(0,0):=λe=>by rw[e];exact H.no
   have m:bj g k 2 name=T->within W (bV o i name).1 1/\(bV o i name).2=0:=λh=>by
    unfold bj at h;cases x:g name with
    |none=>rw[x]at h;cases h
    |some t=>
      obtain⟨L,n⟩:=t;rw[x]at h;simp at h;exact H.var name L n x h
   unfold cp am at d;by_cases O:kind=1
   .subst O
    simp at d;have l:=p.1.1.1;simp at l;obtain⟨w1,w2⟩:=m l;exact⟨f,.inr w2,.inl rfl,.inr Wa,.inr (.inr Wb),.inl ⟨rfl,w1,d.2.1⟩⟩
   by_cases Q:kind=2
   .subst Q
    simp at d;have l:=p.1.1.1;simp at l;unfold bj at l;cases x:g name with
    |none=>rw[x]at l;cases l
    |some t=>
      obtain⟨L,n⟩:=t;rw[x]at l;simp at l;subst l;obtain⟨a1,a2,E⟩:=H.arr name n x;exact⟨f,.inl rfl,.inr (.inl rfl),.inr Wa,.inr (.inr Wb),.inr (.inl ⟨rfl,a1,a2,E,d.2.1⟩)⟩
   by_cases V:kind=3
   .subst V
    simp at d;rw[u d.1];exact⟨f,.inr rfl,.inr (.inr (.inr rfl)),.inr Wa,.inr (.inr Wb),.inr (.inr (.inl ⟨.inl rfl,d.2.1⟩))⟩
   by_cases X:kind=4
   .subst X
    simp at d;rw[u d.1];exact⟨f,.inr rfl,.inr (.inr (.inr rfl)),.inl rfl,.inl rfl,.inr (.inr (.inl ⟨.inr (.inl rfl),d.2⟩))⟩
   by_cases Y:kind=5
   .subst Y
    simp at d;rw[u d.1];exact⟨f,.inr rfl,.inr (.inr (.inr rfl)),.inr (by first|exact d.2.2|(simp[d.2.2])),.inr (.inl rfl),.inr (.inr (.inl ⟨.inr (.inr rfl),d.2.1⟩))⟩
   by_cases P:kind=6
   .subst P
    simp at d;have l:=p.1.1.1;have B:=y.1.1.1;simp at l B K;obtain⟨d1,d2⟩:=lI H l B K;exact⟨f,.inr d2,.inr (.inr (.inl rfl)),.inr Wa,.inr (.inr Wb),.inr (.inr (.inr (.inl ⟨rfl,d1⟩)))⟩
   by_cases Z:kind=7
   .subst Z
    simp at d I;rw[u d.1];refine⟨f,.inr rfl,.inr (.inr (.inr rfl)),.inr Wa,.inr (.inr Wb),.inr (.inr (.inr (.inr ⟨rfl,?_⟩)))⟩;by_cases h0:z e=0
    .exact .inl h0
    .have hp:0<z e:=a7
     exact .inr ⟨by first|exact I hp|exact I (N2.1 hp)|(simp_all),by omega⟩
   .simp[O,Q,V,X,Y,P,Z]at d
theorem kl{w:Bool}(H:pb fs W k g (bV o i)):∀(l:List Stm)(q:Nat),ba q l=T->dy (λa b _=>bj g k a b) l=T->dy (λa b c=>eP g fs k a b c) l=T->bh fs w l=T->rSs W (sigs fs) k w q (bA o i l)
 |[],q,_,_,_,_=>by rw[bA,rSs];trivial
 |s::l,q,U,d,e,f=>by
   rw[ba,s5]at U;rw[dy,s5]at d e;rw[bh,s5]at f;rw[bA,rSs];exact⟨Ac H s q U.1 d.1 e.1 f.1,kl H l q U.2 d.2 e.2 f.2⟩
end
end
end
section
def kZ{A β b:Type}(f:Nat->A->β)(g:β->b)(l:List A):(l.mapIdx f).map g=l.mapIdx λi a=>g (f i a):=by
 apply M5;intro i;rw[x8,Nu,Nu];cases l[i]?<;>rfl
def It:∀(l:List Str)(m:Pl)(w:Int),gV l m w=((l.mapIdx λi n=>((n,w+(i:Int),0):Str×Int×Int)).reverse++m,w+z l)
 |[],m,w=>by simp[gV]
 |n::l,m,w=>by
   rw[gV,It l,Mm];simp only[M6,u7,I5,j9,IT];refine⟨?_,by push_cast;omega⟩;congr 1
   .congr 1
    congr 1;funext i n;simp only[IT,L8,R9]
    push_cast;omega
   .simp
def Iu:∀(l:List (Str×Int))(m:Pl)(w:Int),gA l m w=((l.mapIdx λi a=>((a.1,w+((l.take i).map (·.2)).sum,a.2):Str×Int×Int)).reverse++m,w+(l.map (·.2)).sum)
 |[],m,w=>by simp[gA]
 |n::l,m,w=>by
   rw[gA,Iu l,Mm];simp only[M6,u7,I5,l9,D9,IT];refine⟨?_,a7⟩;congr 1
   .congr 1
    congr 1;funext i n;simp only[G5,l9,D9,IT,L8,R9];omega
   .simp
def No:∀(l:List Fn)(j:Nat)(m:Pl),gF j l m=(l.mapIdx λi f=>((f.name,((j+i:Nat):Int),0):Str×Int×Int)).reverse++m
 |[],j,m=>by simp[gF]
 |n::l,j,m=>by
   rw[gF,No l,Mm];simp only[M6,u7,I5];congr 1
   .congr 1
    congr 1;funext i n;simp only[IT,L8,R9]
    push_cast;omega
def Iv(w:Int):∀(l:List Str)(j:Nat)(m:Pl),lP w j l m=(l.mapIdx λi n=>((n,w+((j+i:Nat):Int),0):Str×Int×Int)).reverse++m
 |[],j,m=>by simp[lP]
 |n::l,j,m=>by
   rw[lP,Iv w l,Mm];simp only[M6,u7,I5];congr 1
   .congr 1
    congr 1;funext i n;simp only[IT,L8,R9]
    push_cast;omega
def uZ(enc:Nat×Nat->Int×Int)(s:Str):∀(n:Nat)(E:List Th),z E=n->bR [] E=T->jx ((E.map λt=>(t.1,enc t.2)).reverse) s=(aG E s).map enc:=by
 intro n
 induction n with
 |zero=>intro E a _;rw[G4.1 a];rfl
 |succ n d=>
   intro E a L;obtain⟨l,t,rfl⟩:∃l t,E=l++[t]:=⟨E.dropLast,E.getLast (by intro h;rw[h]at a;cases a),(M1 _).symm⟩
   rw[qW,s5]at L;have hl:z l=n:=by rw[j7]at a;simpa using a
   have c:aG l t.1=N:=by simpa using L.2
   rw[B5,Qt,lf];simp only[l9,w9,M6,List.reverse_nil,A6,I5,jx];by_cases b:t.1=s
   .rw[l8 b]
    rw[b]at c;rw[c];simp[aG,b]
   .rw[j8 b,d l hl L.1]
    cases aG l s with
    |some x=>rfl
    |none=>simp[aG,b]
def eD(p:Prog)(n:Nat):Int:=z p.vars+((p.arrays.take n).map (·.2)).sum
def kj(p:Prog)(n:Nat):Int:=((p.arrays[n]?).map (·.2)).getD 0
def jN(p:Prog)(w:Int)(t:Nat×Nat):Int×Int:=if t.1=3 then(eD p t.2,kj p t.2)else if t.1=1 then(w+t.2,0)else((t.2:Int),0)
def va(p:Prog)(w:Int):(ai p).1=((aO p).map λt=>(t.1,jN p w t.2)).reverse:=by
 unfold ai aO;simp only;rw[No,Iu,It];simp only[B5,Qt,s7];congr 1
 .congr 1
  unfold thF;rw[kZ];congr 1;funext i f;simp[jN]
 .congr 1
  .congr 1
   apply M5;intro i;unfold thA;rw[x8,Nu,Nu];cases b:p.arrays[i]? with
   |none=>rfl
   |some a=>simp[jN,eD,kj,b]
  .congr 1
   unfold thV;rw[kZ];congr 1;funext i f;simp[jN]
def vC(p:Prog)(f:Fn)(w:Int):lP (w+z f.params) 0 f.locals (lP w 0 f.params [])=((aV f).map λt=>(t.1,jN p w t.2)).reverse:=by
 unfold aV;rw[Iv,Iv];simp only[B5,Qt,s7];congr 1
 .congr 1
  unfold thL;rw[kZ];congr 1;funext i f;simp[jN];omega
 .congr 1
  unfold thL;rw[kZ];congr 1
def qV(p:Prog)(f:Fn)(w:Int)(U:bR [] (aO p)=T)(a:bR [] (aV f)=T)(s:Str):
  bV (ai p).1 (lP (w+z f.params) 0 f.locals (lP w 0 f.params [])) s=((aQ (aO p) (aV f) s).map (jN p w)).getD (0,0):=by
 unfold bV aQ;rw[va p w,vC p f w,uZ _ s _ _ rfl U,uZ _ s _ _ rfl a];cases aG (aV f) s<;>rfl
def wE(s:Str):∀(fs:List Fn)(j n:Nat),aG (fs.mapIdx λi f=>((f.name,4,j+i):Th)) s=S (4,n)->∃m f,n=j+m/\fs[m]?=S f/\cn fs s=S f
 |[],j,n,h=>by simp[aG]at h
 |f::fs,j,n,h=>by
   rw[Mm]at h;simp only[aG,cn]at h|-;by_cases a:f.name=s
   .rw[l8 a]at h
    cases h;exact⟨0,f,rfl,rfl,by rw[l8 a]⟩
   .rw[j8 a]at h
    have e:(fs.mapIdx λi f=>((f.name,4,j+(i+1)):Th))=fs.mapIdx λi f=>((f.name,4,(j+1)+i):Th):=by
     congr 1;funext i f;simp only[IT,R9];omega
    rw[e]at h;obtain⟨m,g,U,b,c⟩:=wE s fs (j+1) n h;exact⟨m+1,g,a7,b,by rw[j8 a];exact c⟩
variable{t:Th}{vs:List Str}{o:List (Str×Int)}
def Iw{s:Str}{k n:Nat}(h:(s,k,n)∈thA o):∃a,o[n]?=S a/\k=3:=by
 simp only[thA,J1]at h;obtain⟨i,b,e⟩:=h;cases e;exact⟨_,v8 b,rfl⟩
def Ix{s:Str}{k n:Nat}(h:(s,k,n)∈thV vs):n<z vs/\k=2:=by
 simp only[thV,J1]at h;obtain⟨i,a,e⟩:=h;cases e;exact⟨a,rfl⟩
def Pz(h:t∈thV vs):t.1∈vs:=by
 simp only[thV,J1]at h;obtain⟨i,a,rfl⟩:=h;exact I8 a
def PA(h:t∈thA o):∃a∈o,t.1=a.1:=by
 simp only[thA,J1]at h;obtain⟨i,b,rfl⟩:=h;exact⟨_,I8 b,rfl⟩
def PB{fs:List Fn}(h:t∈thF fs):∃f∈fs,t.1=f.name:=by
 simp only[thF,J1]at h;obtain⟨i,a,rfl⟩:=h;exact⟨_,I8 a,rfl⟩
def Iy{j:Nat}(h:t∈thL j vs):t.1∈vs:=by
 simp only[thL,J1]at h;obtain⟨i,a,rfl⟩:=h;exact I8 a
def dJ:aT []=F:=by simp[aT]
def Iz{p:Prog}{f:Fn}(V:dX p=T)(hf:f∈p.funcs):aQ (aO p) (aV f) []=N:=by
 unfold dX at V;simp only[s5,y8]at V;obtain⟨⟨_,e⟩,g,b⟩:=V;have d:=b f hf;unfold fp at d;simp only[s5,y8]at d;unfold aQ
 have i:aG (aV f) []=N:=by
  cases h:aG (aV f) []with
  |none=>rfl
  |some x=>
    exfalso;have c:=dw h;unfold aV at c;rcases C4.1 c with c|c
    .have:=d.2.1.1 _ (Iy c);simp only[dJ]at this;cases this
    .have:=d.2.1.2 _ (Iy c);simp only[dJ]at this;cases this
 have j:aG (aO p) []=N:=by
  cases h:aG (aO p) []with
  |none=>rfl
  |some x=>
    exfalso;have c:=dw h;unfold aO at c;rcases C4.1 c with c|c
    .rcases C4.1 c with c|c
     .have:=e _ (Pz c);simp only[dJ]at this;cases this
     .obtain⟨a,c0,cc⟩:=PA c
      have:=g a c0;unfold ij at this;exact T6
    .obtain⟨a,c0,cc⟩:=PB c
     have:=b a c0;unfold fp at this;exact T6
 rw[i,j]
def mH(o:Pl):∀(l:List Fn)(w:Int)(k:Nat)(f:Fn),l[k]?=S f->∃G,w<=G/\(cR o l w).1[k]?=S (lR o f G)/\G+(z f.params+z f.locals)<=(cR o l w).2
 |[],w,k,f,h=>by simp at h
 |g::l,w,0,f,h=>by
   simp at h;subst h;refine⟨w,C5 _,rfl,?_⟩;simp only[cR]
   have:∀(l:List Fn)(w:Int),w<=(cR o l w).2:=by
    intro l
    induction l with
    |nil=>intro w;exact C5 _
    |cons a l b=>intro w;simp only[cR];have:=b (w+(z a.params+z a.locals));omega
   exact this _ _
 |g::l,w,k+1,f,h=>by
   obtain⟨G,U,c,d⟩:=mH o l (w+(z g.params+z g.locals)) k f Wl;refine⟨G,a7,?_,?_⟩
   .simp only[cR,s9];exact c
   .simp only[cR];exact d
def wF(o:Pl):∀(l:List Fn)(w:Int),w<=(cR o l w).2
 |[],w=>C5 _
 |a::l,w=>by simp only[cR];have:=wF o l (w+(z a.params+z a.locals));omega
def kN(o:Pl):∀(l:List Fn)(w:Int),z (cR o l w).1=z l
 |[],w=>rfl
 |a::l,w=>by simp only[cR,j9,kN o l]
def sF:∀(l:List (Str×Int))(n:Nat)(a:Str×Int),(∀x∈l,1<=x.2)->l[n]?=S a->((l.take n).map (·.2)).sum+a.2<=(l.map (·.2)).sum/\0<=((l.take n).map (·.2)).sum
 |[],n,a,_,h=>by simp at h
 |x::l,0,a,b,h=>by
   simp at h;subst h
   have:∀m:List (Str×Int),(∀x∈m,1<=x.2)->0<=(m.map (·.2)).sum:=by
    intro m c
    induction m with
    |nil=>simp
    |cons y m d=>have U:=d (λX hz=>c X Xi);have e:=c y a8;simp only[l9,D9];omega
   have f:=this l (λX hz=>b X Xi);simp only[L5,w9,QI,l9,D9];omega
 |x::l,n+1,a,b,h=>by
   have d:=sF l n a (λX hz=>b X Xi) Wl;have:=b x a8;simp only[G5,l9,D9];omega
def IA{p:Prog}{f:Fn}{k:Nat}{w W:Int}(V:dX p=T)(U:bR [] (aO p)=T)(r:bR [] (aV f)=T)(hf:f∈p.funcs)(a6:(ai p).2<=w)(hW:w+(z f.params+z f.locals)<=W):
  pb p.funcs W k (aQ (aO p) (aV f)) (bV (ai p).1 (lP (w+z f.params) 0 f.locals (lP w 0 f.params []))):=by
 have K:(ai p).2=z p.vars+(p.arrays.map (·.2)).sum:=by
  unfold ai;simp only;rw[Iu,It];simp
 have u:∀a∈p.arrays,1<=a.2/\a.2<=4096:=by
  unfold dX at V;simp only[s5,y8]at V;intro a l;have:=V.2.1 a l;unfold ij at this;simp at this;omega
 have b:∀a∈p.arrays,1<=a.2:=λa l=>(u a l).1
 have d:0<=(p.arrays.map (·.2)).sum:=by
  have:∀m:List (Str×Int),(∀x∈m,1<=x.2)->0<=(m.map (·.2)).sum:=by
   intro m j
   induction m with
   |nil=>simp
   |cons y m G=>have U:=G (λX hz=>j X Xi);have r:=j y a8;simp only[l9,D9];omega
  exact this _ b
 have J:∀{s:Str}{t:Nat×Nat},aG (aV f) s=S t->t.1=1/\t.2<z f.params+z f.locals:=λ{s t}h=>by
  have j:=dw h;unfold aV at j;rcases C4.1 j with j|j
  .have:=De j;exact⟨this.1,a7⟩
  .have:=De j;exact⟨this.1,a7⟩
 have v:∀{s:Str}{t:Nat×Nat},aG (aO p) s=S t->(t.1=2/\t.2<z p.vars)\/(t.1=3/\∃a,p.arrays[t.2]?=S a)\/t.1=4:=λ{s t}h=>by
  have j:=dw h;unfold aO at j;rcases C4.1 j with j|j
  .rcases C4.1 j with j|j
   .have:=Ix j;exact .inl ⟨this.2,this.1⟩
   .obtain⟨a,l,A⟩:=Iw j;exact .inr (.inl ⟨A,a,l⟩)
  .exact .inr (.inr (IH j).1)
 refine⟨?_,λs L n hs A=>?_,λs n hs=>?_,λs n hs O=>?_⟩
 .rw[qV p f w U r,Iz V hf];rfl
 .rw[qV p f w U r,hs]
  simp only[z7,A5];unfold aQ at hs;cases hq:aG (aV f) s with
  |some t=>
    rw[hq]at hs;cases hs;have:=J hq;simp only at this;obtain⟨rfl,Q⟩:=this;simp only[jN,show ¬(1:Nat)=3 by decide,A8,B1];exact⟨⟨a7,a7,a7,a7⟩,trivial⟩
  |none=>
    rw[hq]at hs;simp only at hs;rcases v hs with⟨q,B⟩|⟨q,_⟩|q
    .simp only at q B
     subst q;simp only[jN,show ¬(2:Nat)=3 by decide,show ¬(2:Nat)=1 by decide,A8];exact⟨⟨a7,a7,a7,a7⟩,trivial⟩
    .simp only at q;omega
    .simp only at q;omega
 .rw[qV p f w U r,hs]
  simp only[z7,A5];unfold aQ at hs;cases hq:aG (aV f) s with
  |some t=>
    exact Vt
  |none=>
    rw[hq]at hs;simp only at hs;rcases v hs with⟨q,B⟩|⟨_,a,l⟩|q
    .simp only at q;omega
    .simp only at l
     simp only[jN,B1,eD,kj,l,z7,A5];have E:=u a (l6 l);have bl:=sF p.arrays n a b l;exact⟨E.1,E.2,a7,a7,a7,a7⟩
    .simp only at q;omega
 .rw[qV p f w U r,hs]
  simp only[z7,A5,jN,show ¬(4:Nat)=3 by decide,show ¬(4:Nat)=1 by decide,A8,R9];unfold aQ at hs;cases hq:aG (aV f) s with
  |some t=>
    exact Vt
  |none=>
    rw[hq]at hs;simp only at hs;unfold aO at hs;rw[lf]at hs;cases c:aG (thV p.vars++thA p.arrays) s with
    |some t=>
      rw[c]at hs;cases hs;have j:=dw c;rcases C4.1 j with j|j
      .have:=(Ix j).2;omega
      .obtain⟨_,_,h⟩:=Iw j;omega
    |none=>
      rw[c]at hs;simp only at hs;unfold thF at hs
      have e:(p.funcs.mapIdx λi f=>((f.name,4,i):Th))=p.funcs.mapIdx λi f=>((f.name,4,0+i):Th):=by
       congr 1;funext i f;simp
      rw[e]at hs;obtain⟨m,g,Y,H,I⟩:=wE s p.funcs 0 n hs;obtain rfl:n=m:=a7;exact⟨g,H,I⟩
end
section
def qb{A:Type}{c:Nat->A->Bool}:∀{l:List A}{j k:Nat}{x:A},bp c j l=T->l[k]?=S x->c (j+k) x=T
 |[],j,k,x,_,h=>by simp at h
 |a::l,j,0,x,U,b=>by
   simp at b;subst b;rw[bp,s5]at U;exact U.1
 |a::l,j,k+1,x,U,b=>by
   rw[bp,s5]at U;have:=qb U.2 (k:=k) (x:=x) (by simpa using b);rw[show j+(k+1)=j+1+k by omega];exact this
variable{p:Prog}
def zU(h:aX p=0):dX p=T/\iZ p=0/\qd p=0:=by
 unfold aX at h;split at h
 .cases h
 .rename_i V
  split at h
  .rename_i a;exact absurd h a
  .rename_i a
   exact⟨by simpa using V,by simpa using a,h⟩
def zV(h:iZ p=0)(hl:1<=z p.funcs):bR [] (aO p)=T/\bp (jw p) 0 p.funcs=T/\bp (xN p) 0 p.funcs=T:=by
 unfold iZ at h;split at h
 .cases h
 .rename_i c
  have a:(bR [] (aO p)&&bp (jw p) 0 p.funcs)=T:=by simpa using c
  rw[s5]at a;split at h
  .rename_i b
   rw[List.getLast?_eq_none_iff]at b;rw[b]at hl;simp at hl
  .split at h
   .rename_i Z;exact⟨a.1,a.2,Z.1⟩
   .cases h
def BL(h:aX p=0){k:Nat}{x:CFn}(I:(ab p).funcs[k]?=S x):rSs (ab p).words (sigs p.funcs) k x.word 1 x.body:=by
 obtain⟨V,l,d⟩:=zU h;have hl:1<=z p.funcs:=by unfold dX at V;simp at V;exact V.1.1.1
 obtain⟨L,c,b⟩:=zV l hl;unfold ab at I|-;simp only at I|-
 have m:k<z p.funcs:=by
  have:=(l5.1 I).1;rw[kN]at this;exact this
 obtain⟨f,g⟩:∃f,p.funcs[k]?=S f:=⟨_,v8 m⟩
 obtain⟨G,U,j,r⟩:=mH (ai p).1 p.funcs (ai p).2 k f g;rw[I]at j;cases j;have t:=l6 g;have e:=qb c g;have i:=qb b g;rw[C7]at e i;unfold jw at e;rw[s5]at e;unfold xN at i
 have Y:fp f=T:=by
  unfold dX at V;simp only[s5,y8]at V;exact V.2.2 f t
 have a:ba 1 f.body=T:=by
  unfold fp at Y;simp only[s5]at Y;exact Y.2.2
 have n:bh p.funcs f.word f.body=T:=by
  unfold qd at d;split at d
  .cases d
  .split at d
   .cases d
   .rename_i o
    have:(p.funcs.all λf=>bh p.funcs f.word f.body)=T:=by simpa using o
    rw[y8]at this;exact this f t
 have q:=IA (p:=p) (f:=f) (k:=k) (w:=G) (W:=(cR (ai p).1 p.funcs (ai p).2).2) V L e.1 t U a7;unfold lR;simp only;have:=kl (w:=f.word) q f.body 1 a e.2 i n;exact SV
end
end
section
open Go.Lower (cE cEs cAO jv cS cSs one jM gY leave gu ifC pY codeOf)
mutual
def cnE:Lower.Ex->Nat
 |.mk _ _ _ _ _ kids=>ph kids+1
def ph:List Lower.Ex->Nat
 |[]=>0
 |e::l=>cnE e+ph l
end
mutual
def cnS:Lower.Stm->Nat
 |.mk _ _ _ e a el=>ph e+mZ a+mZ el+1
def mZ:List Lower.Stm->Nat
 |[]=>0
 |s::l=>cnS s+mZ l
end
mutual
theorem IB(o i:Pl):∀e:Ex,cnE (di o i e)=szE e
 |.mk kind op num name kids=>by rw[di,cnE,szE,rX o i kids]
theorem rX(o i:Pl):∀l:List Ex,ph (aU o i l)=bc l
 |[]=>by rw[aU,ph,bc]
 |e::l=>by rw[aU,ph,bc,IB o i e,rX o i l]
end
mutual
theorem IC(o i:Pl):∀e:Stm,cnS (coreS o i e)=szS e
 |.mk kind name e a el=>by rw[coreS,cnS,szS,rX,oZ o i a,oZ o i el]
theorem oZ(o i:Pl):∀l:List Stm,mZ (bA o i l)=aD l
 |[]=>by rw[bA,mZ,aD]
 |e::l=>by rw[bA,mZ,aD,IC o i e,oZ o i l]
end
def one_le{kind op num slot size d:Int}:z (Lower.one kind op num slot size d)<=1:=by
 unfold Lower.one
 repeat' split
 all_goals simp
def ID{kind d:Int}:z (gY kind d)<=1:=by unfold gY;split<;>simp
mutual
theorem IE:∀(e:Lower.Ex)(at':Nat)(d:Int),z (cE at' d e)<=6*cnE e
 |.mk kind op num slot size kids,at',d=>by
   rw[cE,cnE];split
   .exact PD kids at' d kind
   .rw[j7]
    have:=rM kids at' d;have:=one_le (kind:=kind) (op:=op) (num:=num) (slot:=slot) (size:=size) (d:=d+z kids);omega
theorem rM:∀(l:List Lower.Ex)(at':Nat)(d:Int),z (cEs at' d l)<=6*ph l
 |[],at',d=>by rw[cEs];simp
 |e::l,at',d=>by
   rw[cEs,ph,j7];have:=IE e at' d;have:=rM l (at'+z (cE at' d e)) (d+1);omega
theorem PD:∀(l:List Lower.Ex)(at':Nat)(d kind:Int),z (cAO at' d kind l)<=6*(ph l+1)
 |[],at',d,kind=>by rw[cAO];simp
 |e::l,at',d,kind=>by
   rw[cAO,ph];unfold jM;simp only[j7,j9,l4];have U:=IE e at' d;have a:=Dd l (at'+z (cE at' d e)+z (gY kind d)+3) d;have b:=ID (kind:=kind) (d:=d);omega
theorem Dd:∀(l:List Lower.Ex)(at':Nat)(d:Int),z (jv at' d l)<=6*ph l
 |[],at',d=>by rw[jv];simp
 |e::l,at',d=>by
   rw[jv,ph];have:=IE e at' d;omega
end
def zW{w:Bool}:z (leave w)<=2:=by unfold leave;split<;>simp
def LS{w:Bool}{kind slot size:Int}{n:Nat}:z (pY w kind slot size n)<=2:=by
 unfold pY;have:=zW (w:=w)
 repeat' split
 all_goals first|assumption|simp
mutual
theorem TQ(w:Bool):∀(s:Lower.Stm)(at':Nat),z (cS w at' s)<=6*cnS s
 |.mk kind slot size e a el,at'=>by
   rw[cS,cnS];split
   .unfold gu
    simp only[j7,j9,l4];have U:=Dd e at' 0;have b:=nL w a (at'+z (jv at' 0 e)+1);omega
   .rw[j7]
    have U:=rM e at' 0;split
    .unfold ifC
     split
     .simp only[j7,j9,l4]
      have b:=nL w a (at'+z (cEs at' 0 e)+1);have c:=nL w el (at'+z (cEs at' 0 e)+1+(cSs w (at'+z (cEs at' 0 e)+1) a).length+1);omega
     .simp only[j9]
      have b:=nL w a (at'+z (cEs at' 0 e)+1);omega
    .have:=LS (w:=w) (kind:=kind) (slot:=slot) (size:=size) (n:=z e)
     omega
theorem nL(w:Bool):∀(l:List Lower.Stm)(at':Nat),z (cSs w at' l)<=6*mZ l
 |[],at'=>by rw[cSs];simp
 |e::l,at'=>by
   rw[cSs,mZ,j7];have:=TQ w e at';have:=nL w l (at'+z (cS w at' e));omega
end
def QD(w:Bool)(l:List Lower.Stm):z (codeOf w l)<=6*mZ l+2:=by
 unfold codeOf;rw[j7];have:=nL w l 0;have:=zW (w:=w);omega
def LT{A:Type}(f:A->Nat):∀{l:List A}{x:A},x∈l->f x<=(l.map f).sum
 |a::l,x,h=>by
   simp only[l9,D9];rcases A3.1 h with rfl|h
   .omega
   .have:=LT f h;omega
def zX(o:Pl):∀(l:List Fn)(w:Int),((cR o l w).1.map λx=>mZ x.body).sum=(l.map λf=>aD f.body).sum
 |[],w=>rfl
 |f::l,w=>by
   simp only[cR,l9,D9,zX o l];unfold lR;simp only[oZ]
end
end Go.Src

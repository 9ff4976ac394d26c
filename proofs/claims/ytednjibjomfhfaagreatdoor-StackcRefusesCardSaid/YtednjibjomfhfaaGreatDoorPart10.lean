/- A part of the proof; no conditions. -/
import Derived.Test.YtednjibjomfhfaaGreatDoorPart9
set_option linter.all false
open List renaming length -> z
open Option renaming some -> S, none -> N
open Bool renaming true -> T, false -> F
set_option maxHeartbeats 64000000
set_option maxRecDepth 100000
namespace Go.Proofs.YtednjibjomfhfaaGreatDoor
section
open Go Go.Am Go.Asm
open Go.Src (PR lW Ex Stm)
attribute[local congr]ite_cc
section
def iu(p:Src.Prog):List C:=(je p).map .d
variable{src:Str}{g:Nat->Nat}{p:Src.Prog}
def Ml{A:List Src.Tok}{fin c k gr gc:Nat}{ob:Obs}(hl:z A<=100000)(an:∀t∈A,t.num<=4294967295)(d:4*z A+7<=k)(l:c<100)(b:∀i,200<=i->ob i=N)(ho:ob 125=S (rdC A 0 fin))(bz:∃x y X,ob c=S [x,y,X])(bc:g 125=gr)(a:g c=gc):
  fv Tryz.prog 44 [.one (.ptr 125 gr 0),kJ (.ptr c gc 0)] g ob (λ_ g' Z=>g'=g/\∃p m,lW A k 0=.ok p m/\Z=upd (upd ob 125 (S (rdC A m fin))) c (S (iu p))) (NoR A fin (lW A k 0) g ob):=by
 obtain⟨x,y,X,bz⟩:=bz;subst bc a;refine hdX 1000 Tryz.func44 rfl [] λO bo s0 w0=>?_;have q:(c=125)=False:=by simp;omega
 simp only[go_sem];refine FV aa rfl (by simp only[go_sem];exact Qr hl an d 200 g ob a6 b ho) ?_;rintro _ g' Z ⟨rfl,p,m,e,rfl,rfl⟩;unfold cn je;simp only[go_sem,kJ,q,bz];exact⟨_,ae.refl _,rfl,p,m,e,rfl⟩
structure RdG (src:Str) (c:Nat) (g:Nat->Nat) (ob:Obs) (s:St):Prop where
 f0:s.f 0=sv src
 f1:s.f 1=.one (.clo 44 [.ptr c (g c) 0])
 f4:s.f 4=.one (.ptr 104 (nxC 4 (g 104)) 0)
 f5:s.f 5=.one (.ptr 105 (nxC 31 (g 105)) 0)
 gn:s.gen=upd (upd g 104 (nxC 4 (g 104))) 105 (nxC 31 (g 105))
 on:s.obj=upd (upd ob 104 (some [.d (.int .i64 0)])) 105 (some [.d (.int .i64 0)])
structure RdE (c:Nat) (g:Nat->Nat) (ob:Obs) (s:St):Prop where
 f4:s.f 4=.one (.ptr 104 (nxC 4 (g 104)) 0)
 f5:s.f 5=.one (.ptr 105 (nxC 31 (g 105)) 0)
 g4:s.gen 104=nxC 4 (g 104)
 g5:s.gen 105=nxC 31 (g 105)
 o4:s.obj 104=some [.d (.int .i64 0)]
 o5:s.obj 105=some [.d (.int .i64 0)]
 gc:s.gen c=g c
 fr:∀i,i<100->i≠c->s.gen i=g i/\s.obj i=ob i
def Pj(src:Str)(c:Nat)(g:Nat->Nat)(ob:Obs)(r:AV)(g':Nat->Nat)(Z:Obs):Prop:=
 (∀i,i<100->i≠c->g' i=g i/\Z i=ob i)/\g' c=g c/\
   match Src.Ky src with
   |(.ok p,_)=>r=.tup [iv .i64 0,iv .i64 0]/\Z c=S (iu p)
   |(.err e,k)=>r=.tup [iv .i64 (k:Nat),iv .i64 (e:Nat)]
def Qt{o:cg}(ho:kC o){c:Nat}{ob:Obs}(hc:c<100)(b:∀i,100<=i->ob i=N)(bz:∃x y X,ob c=S [x,y,X]):
  Aj Tryz.prog 4 o 43 [sv src,.one (.clo 44 [.ptr c (g c) 0])] g ob (Pj src c g ob):=by
 obtain⟨cx,cy,cz,bz⟩:=bz;have b3:(c=104)=False:=by simp;omega
 have q:(c=105)=False:=by simp;omega
 have b7:(c=125)=False:=by simp;omega
 refine⟨⟨_,Tryz.func43,c9,c8⟩,λO av β a fa w vs cu bs cb hv=>?_⟩;refine jr (n:=0) (callsIn_of_wp_defers Tryz.func43 c9 trivial ?_);have V:=mE (av:=Tryz.f43.ntmps) (by simp[Tryz.ntmps43]) cb hv;refine xA (B:=100) (ds:=[]) aR mixed aL c8 c8 V ⟨⟨cu,bs⟩,rfl,Tr.refl⟩ (K:=RdG src c g ob) ?_ ?_
 .simp only[go_sem]
  exact⟨rfl,rfl,rfl,rfl,rfl,rfl⟩
 rintro s1 j a1 dh P k1 b2 af;refine xA (B:=100) aR mixed aL c8 c8 b2 af (K:=λs=>RdG src c g ob s/\s.f 6=.one (.d (jG (Src.qT src).1))/\s.f 7=iv .i64 ((Src.qT src).2.1:Nat)/\s.f 8=iv .i64 ((Src.qT src).2.2:Nat)) ?_ ?_
 .obtain⟨f,g1,ad⟩:=s1
  obtain⟨q0,q1,q4,q5,rfl,rfl⟩:=k1;simp only at q0 q1 q4 q5;simp only[go_sem,q0];refine jS aL (λs β ds w h=>h.1.2) rfl (by simp only[go_sem,q0];exact Vn ho src) (by simp only[go_sem,q0];rfl) ?_;rintro _ rfl;unfold Vm;simp only[go_sem];refine⟨?_,?_,?_,?_,rfl,rfl⟩<;>(simp only[go_sem,q0,q1,q4,q5])
 rintro s2 bl a2 cc w2 ⟨k2,r,k7,k8⟩ b5 c6
 refine CP (B:=100) aR mixed aL c8 c8 b5 c6 (K:=λs=>RdG src c g ob s/\s.f 6=.one (.d (jG (Src.qT src).1))/\(Src.qT src).2.2=0)
  (K2:=λs=>(Src.qT src).2.2≠0/\s.f 4=.one (.ptr 104 (s.gen 104) 0)/\s.f 5=.one (.ptr 105 (s.gen 105) 0)/\s.obj 104=S [.d (.int .i64 ((Src.qT src).2.1:Nat))]/\s.obj 105=S [.d (.int .i64 ((Src.qT src).2.2:Nat))]/\∀i,i<100->s.gen i=g i/\s.obj i=ob i) ?_ ?_ ?_
 .obtain⟨f,g1,ad⟩:=s2
  obtain⟨q0,q1,q4,q5,rfl,rfl⟩:=k2;simp only at q0 q1 q4 q5 r k7 k8;by_cases he:(Src.qT src).2.2=0
  .rw[he]at k8
   simp only[go_sem,k8,r,he];refine .inl ⟨?_,?_,?_,?_,rfl,rfl⟩<;>(simp only[go_sem,q0,q1,q4,q5])
  .have ca:¬((Src.qT src).2.2:Int)=0:=a6
   simp only[go_sem,k8,r,k7,he,ca,q4,q5];refine .inr λi hi=>?_
   (repeat rw[j8 (by omega)])
   exact⟨rfl,rfl⟩
 case refine_3=>
  rintro s3 b0 G cv w3 ⟨he,z4,z5,y4,y5,L⟩ bk I;obtain rfl:cv=[]:=I.2.1
  have hE:lN Tt s3 [.cell 4 3,.cell 5 30] (bx λQ=>pack Q=.tup [iv .i64 ((Src.qT src).2.1:Nat),iv .i64 ((Src.qT src).2.2:Nat)]):=by
   obtain⟨f3,g3,cf⟩:=s3;simp only at z4 z5 y4 y5;simp only[go_sem,z4,z5,y4,y5];rfl
  obtain⟨v,Q,U,Y,h3,_⟩:=dY (fn:=Tryz.f43) aR bk c9 hE;refine⟨v,U,v,_,_,_,b0,rfl,⟨λi hi _=>L i hi,(L c hc).1,?_⟩,h3,bk.obj,bk.inj,?_⟩
  .rw[Y]
   unfold Src.Ky;rw[l7 he]
  .have H:=I.2.2
   exact⟨H.size,H.old,H.keep,H.os⟩
 rintro s3 b0 G cv w3 ⟨k3,r,he⟩ bk I;obtain rfl:cv=[]:=I.2.1;refine FX (B:=100) (t:=20) (f:=73) (bf:=[.ptr 104 (nxC 4 (g 104)) 0,.ptr 105 (nxC 31 (g 105)) 0]) aR aL rfl rfl rfl (λd h=>by cases h;simp[Tryz.ntmps43]) rfl rfl bk I (K:=λs=>RdG src c g ob s/\s.f 6=.one (.d (jG (Src.qT src).1))) ?_ ?_
 .obtain⟨f,g1,ad⟩:=s3
  obtain⟨q0,q1,q4,q5,rfl,rfl⟩:=k3;simp only at q0 q1 q4 q5 r;simp only[go_sem,q4,q5,r];refine⟨?_,?_,?_,?_,rfl,rfl⟩<;>(simp only[go_sem,q0,q1,q4,q5])
 rintro s4 dk a4 w4 vs ⟨k4,r⟩ c' cm b8;obtain⟨f4,g4,c0⟩:=s4;obtain⟨q0,q1,q4,q5,rfl,rfl⟩:=k4;simp only at q0 q1 q4 q5 r;obtain⟨hl,an⟩:=Src.Kx (s:=src);unfold Pj Src.Ky;rw[j8 (by simp[he])];obtain⟨A,J⟩:∃A,(Src.qT src).1=A:=⟨_,rfl⟩
 rw[J]at r hl an|-;obtain⟨pr,b1⟩:∃pr,lW A (4*z A+7) 0=pr:=⟨_,rfl⟩
 rw[b1]
 refine FW (B:=100) aR mixed (sF (d:=[⟨.fn (.func 73) vs.toArray,#[]⟩])) (λch s=>(∃m,ch=vT (lS A (z src) m)/\(pr=.no m\/∃p,pr=.ok p m/\m<z A))/\RdE c g ob s)
  (λe s=>e=.ret/\(∃p m,pr=.ok p m/\¬m<z A/\s.obj c=S (iu p))/\RdE c g ob s) c8 c8 c' ⟨rfl,Tr.refl⟩ ?_ ?_
 .simp only[go_sem,q0,q1,q4,q5,r]
  refine ba (f:=44) (bf:=[.ptr c (g c) 0]) sF rfl (by simp only[go_sem,q1]) (by simp only[go_sem];exact Ml (k:=4*z A+7) (A:=A) (fin:=z src) (c:=c) a6 an a6 hc (λi hi=>by simp only[upd];(repeat rw[j8 (by omega)]);exact b i (by omega)) (by simp[upd,rdC]) ⟨cx,cy,cz,by simp[upd,b3,q,b7,bz]⟩ (by simp[upd]) (by simp[upd,b3,q,b7])) ?_ ?_
  .rintro ch g' Z ⟨rfl,m,hp,rfl,rfl⟩
   rw[b1]at hp;refine⟨⟨m,rfl,.inl hp⟩,?_⟩;refine⟨by simp only[go_sem,q4],by simp only[go_sem,q5],by simp only[go_sem],by simp only[go_sem],by simp only[go_sem],by simp only[go_sem],by simp only[go_sem,b3,q,b7],λi hi b4=>?_⟩;simp only[upd]
   (repeat rw[j8 (by omega)])
   exact⟨rfl,rfl⟩
  .rintro _ g' Z ⟨rfl,p,m,hp,rfl⟩
   rw[b1]at hp;have e5:(125=c)=False:=by simp;omega
   have e4:(104=c)=False:=by simp;omega
   have l:(105=c)=False:=by simp;omega
   unfold rdC jG;simp only[go_sem,e4,e5,l];refine bh b9 ?_;by_cases hm:m<z A
   .have bd:(m:Int)<(z A:Int):=a6
    simp only[go_sem,e4,e5,l,bd,j5];refine bX sF rfl (by simp only[go_sem];exact yU (n:=m) (A:=A) (fin:=z src) (by simp[upd,e5,rdC,jG])) ?_ ?_
    case refine_2=>exact λ_ _ _ h=>h.elim
    rintro ch g' Z ⟨rfl,rfl,rfl⟩;refine⟨⟨m,rfl,.inr ⟨p,hp,hm⟩⟩,?_⟩;exact sn
   .have bd:¬(m:Int)<(z A:Int):=a6
    simp only[go_sem,e4,e5,l,bd,j5,q4,q5];refine⟨⟨p,m,hp,hm,by simp only[go_sem,b3,q,b7]⟩,?_⟩;exact sn
 rintro e s' E W bc w' b' c7 ⟨rfl,cd⟩;rcases b' with⟨rfl,⟨p,m,hp,hm,dc⟩,z4,z5,e4,e5,o4,o5,gc,hF⟩|⟨ch,rfl,⟨m,rfl,hp⟩,z4,z5,e4,e5,o4,o5,gc,hF⟩
 .show LeavesIn _ _ _ _ W.tmps _ _ _ _
  refine CQ (B:=200) (fnD:=Tryz.f73) aR mixed Tryz.func73 c9 c8 rfl rfl rfl rfl rfl rfl Xu Xu c9 c8 c8 (aR 20 rfl).desc c7 (aO.keep cd.keep _ b8) Xu
   (K:=λg' Z=>g'=s'.gen/\Z=s'.obj) ?_ ?_
  .intro bo s0 w0
   exact hG
  .rintro _ _ c1 w6 ⟨rfl,rfl⟩ b6 c2
   have hE:lN Tt ⟨s'.f,s'.gen,s'.obj⟩ [.cell 4 3,.cell 5 30] (bx λQ=>pack Q=.tup [iv .i64 0,iv .i64 0]):=by
    simp only[go_sem,z4,z5,e4,e5,o4,o5];rfl
   obtain⟨v,Q,U,Y,h3,_⟩:=dY (fn:=Tryz.f43) aR b6 c9 hE;refine⟨v,U,v,_,_,_,c1,rfl,⟨λi hi b4=>hF i hi b4,gc,?_⟩,h3,b6.obj,b6.inj,?_⟩
   .rw[hp]
    simp only[j8 hm];exact⟨Y,dc⟩
   .have H:=(cm.2.2.trans cd).trans c2
    exact⟨H.size,H.old,H.keep,H.os⟩
 show LeavesIn _ _ _ _ W.tmps _ _ _ _
 refine CN (B:=200) (fnD:=Tryz.f73) aR mixed Tryz.func73 c9 c8 rfl rfl rfl rfl rfl rfl Xu Xu c9 c8 c8 (aR 20 rfl).desc (t:=154) (u:=.agg #[.int .i64 (lS A (z src) m:Nat)]) c7 (aO.keep cd.keep _ b8) Xu
  (K:=λg' Z=>g' 104=nxC 4 (g 104)/\g' 105=nxC 31 (g 105)/\Z 104=S [.d (.int .i64 (lS A (z src) m:Nat))]/\Z 105=S [.d (.int .i64 3)]/\g' c=g c/\∀i,i<100->i≠c->g' i=g i/\Z i=ob i) ?_ ?_
 .intro bo s0 w0
  simp only[go_sem];refine yH (k:=bx _) aa rfl (aR 154 rfl).desc (kd:=.i64) (n:=(lS A (z src) m:Nat)) Wh ?_;have c4:(c=203)=False:=by simp;omega
  simp only[go_sem,e4,e5,o4,o5,kJ,b3,q,c4,gc];intro i hi b4;have U:=(hF i a6 b4).1;have Y:=(hF i a6 b4).2
  (repeat rw[j8 (by omega)])
  exact⟨U,Y⟩
 .rintro g' Z c1 w6 ⟨x4,x5,y4,y5,dd,L⟩ b6 c2
  have hE:lN Tt ⟨s'.f,g',Z⟩ [.cell 4 3,.cell 5 30] (bx λQ=>pack Q=.tup [iv .i64 (lS A (z src) m:Nat),iv .i64 3]):=by
   simp only[go_sem,z4,z5,x4,x5,y4,y5];rfl
  obtain⟨v,Q,U,Y,h3,_⟩:=dY (fn:=Tryz.f43) aR b6 c9 hE;refine⟨v,U,v,_,_,_,c1,rfl,⟨L,dd,?_⟩,h3,b6.obj,b6.inj,?_⟩
  .rcases hp with hp|⟨p,hp,hm⟩
   .rw[hp]
    exact Y
   .rw[hp]
    simp only[l7 hm];exact Y
  .have H:=(cm.2.2.trans cd).trans c2
   exact⟨H.size,H.old,H.keep,H.os⟩
def Dh:Src.Prog:=⟨[],[],[]⟩
def jW(src:Str):Src.Prog×Nat×Nat:=
 match Src.Ky src with
 |(.err e,k)=>(Dh,k,e)
 |(.ok p,_)=>if Src.cD p=T then(p,0,0)else(Dh,0,2)
def IF(r:Src.Prog×Nat×Nat):AV:=.tup [cn r.1,iv .i64 (r.2.1:Nat),iv .i64 (r.2.2:Nat)]
def Gj{e k:Nat}(h:Src.Ky src=(.err e,k)):e≠0:=by
 unfold Src.Ky at h;split at h
 .cases h;assumption
 .split at h
  .split at h
   .cases h;decide
   .cases h
  .cases h;decide
def IG{k:Nat}(h:Src.Ky src=(.ok p,k)):Src.szP p<=20001:=by
 unfold Src.Ky at h;split at h
 .cases h
 .split at h
  .rename_i a
   split at h
   .cases h
   .cases h;exact Src.Ps a
  .cases h
def yX(h:Src.szP p<=20001):szP p<=1000000000:=by
 have e:szP p=Src.szP p:=by
  unfold szP Src.szP Src.Cb;show _+(p.funcs.map Src.szF).sum=_;omega
 omega
def Qu{o:cg}(ho:kC o)(src:Str):bP Tryz.prog 4 o 20 [sv src] (·=IF (jW src)):=by
 refine hdG Tryz.func20 rfl [.cell 2 26,.tmp 3,.tmp 4] λO bo s0 w0 g=>?_;simp only[go_sem];refine sE aG (λs t ds w h=>h.1) rfl (by simp only[go_sem];exact Qt ho (c:=5) a7 (λi u=>by simp only[upd];(repeat rw[j8 (by omega)])) ⟨_,_,_,by simp[upd];exact⟨rfl,rfl,rfl⟩⟩) ?_;rintro r v y ⟨f1,gc,U⟩;have d:=(f1 2 a7 a7).1;have l:=(f1 2 a7 a7).2;simp[upd]at d l gc;unfold jW;cases m:Src.Ky src with
 |mk x k=>
 rw[m]at U;cases x with
 |err e=>
   obtain rfl:=U;have q:¬(e:Int)=0:=by have:=Gj m;omega
   simp only[go_sem,d,l,q];exact⟨_,⟨_,⟨_,_,rfl,rJ [.nsl,.nsl,.nsl],_,_,rfl,kj _,_,_,rfl,kj _,rfl⟩,rfl⟩,rfl⟩
 |ok p=>
   obtain⟨rfl,b⟩:=U;unfold iu je at b;have a:=EN ho p (yX (IG m));unfold cn je at a;obtain⟨X,n⟩:∃X,Src.cD p=X:=⟨_,rfl⟩
   rw[n]at a;simp only[go_sem,d,l,gc,b];refine cK rfl (by simp only[go_sem];exact a) ?_;rintro _ rfl;cases X
   .simp only[go_sem,d,l,gc,b]
    refine⟨_,⟨_,⟨_,_,rfl,rJ [.nsl,.nsl,.nsl],_,_,rfl,kj _,_,_,rfl,kj _,rfl⟩,rfl⟩,?_⟩;simp only[n];rfl
   .simp only[go_sem,d,l,gc,b]
    refine⟨_,⟨_,⟨_,_,rfl,rJ (je p),_,_,rfl,kj _,_,_,rfl,kj _,rfl⟩,rfl⟩,?_⟩;simp only[n];rfl
end
end
end Go.Proofs.YtednjibjomfhfaaGreatDoor
namespace Go.Src
section
open Go.Asm (Str)
section
abbrev Th:=Str×Nat×Nat
def aP:List Th->Str->Option (Nat×Nat)
 |[],_=>N
 |t::l,s=>if t.1=s then S t.2 else aP l s
def lX(l m:List Th)(s:Str):aP (l++m) s=match aP l s with|some x=>S x|none=>aP m s:=by
 induction l with
 |nil=>rfl
 |cons t l a=>simp only[u7,aP];split<;>simp_all
def fI:∀{l:List Th}{s:Str}{x:Nat×Nat},aP l s=S x->(s,x)∈l
 |t::l,s,x,h=>by
   unfold aP at h;split at h
   .rename_i e;cases h;subst e;simp
   .exact Pz _ (fI h)
def bW:List Th->List Th->Bool
 |_,[]=>T
 |seen,t::l=>(aP seen t.1).isNone&&bW (seen++[t]) l
def sf(t:Th):∀(l a:List Th),bW a (l++[t])=(bW a l&&(aP (a++l) t.1).isNone)
 |[],a=>by simp[bW]
 |x::l,a=>by simp only[u7,bW,sf t l];rw[l6,H9,E5]
def thV(vs:List Str):List Th:=vs.mapIdx λi n=>(n,2,i)
def thA(b:List (Str×Int)):List Th:=b.mapIdx λi a=>(a.1,3,i)
def thF(fs:List Fn):List Th:=fs.mapIdx λi f=>(f.name,4,i)
def bA(p:Prog):List Th:=thV p.vars++thA p.arrays++thF p.funcs
def thL(k:Nat)(o:List Str):List Th:=o.mapIdx λi n=>(n,1,k+i)
def bC(f:Fn):List Th:=thL 0 f.params++thL (z f.params) f.locals
def bw(o i:List Th)(s:Str):Option (Nat×Nat):=match aP i s with|some x=>S x|none=>aP o s
def cl(m:Str->Option (Nat×Nat))(i:Nat)(kind:Nat)(name:Str):Bool:=
 match m name with
 |none=>F
 |some (k,n)=>if kind=2 then k == 1 || k == 2 else if kind=3 then k == 3 else k == 4 && decide (n<i)
def gZ(m:Str->Option (Nat×Nat))(fs:List Fn)(i:Nat)(kind:Nat)(name:Str)(args:Nat):Bool:=
 match m name with
 |none=>T
 |some (k,n)=>if kind=4/\k=4/\n<i then(match fs[n]? with|some f=>z f.params == args|none=>T)else T
mutual
def okE(u:Nat->Str->Nat->Bool):Ex->Bool
 |.mk kind _ _ name kids=>(if kind=2 then u 2 name 0 else if kind=3 then u 3 name 0 else if kind=4 then u 4 name (z kids)else T) && ep u kids
def ep(u:Nat->Str->Nat->Bool):List Ex->Bool
 |[]=>T
 |e::l=>okE u e&&ep u l
end
mutual
def okS(u:Nat->Str->Nat->Bool):Stm->Bool
 |.mk kind name e a el=>(if kind=1 then u 2 name 0 else if kind=2 then u 3 name 0 else if kind=6 then u 4 name (z e)else T) && ep u e && eP u a && eP u el
def eP(u:Nat->Str->Nat->Bool):List Stm->Bool
 |[]=>T
 |s::l=>okS u s&&eP u l
end
def jY(p:Prog)(i:Nat)(f:Fn):Bool:=bW [] (bC f)&&eP (λk n _=>cl (bw (bA p) (bC f)) i k n) f.body
def zB(p:Prog)(i:Nat)(f:Fn):Bool:=eP (λk n a=>gZ (bw (bA p) (bC f)) p.funcs i k n a) f.body
def bE{b:Type}(c:Nat->b->Bool):Nat->List b->Bool
 |_,[]=>T
 |i,a::l=>c i a&&bE c (i+1) l
def Cd{b:Type}(c:Nat->b->Bool)(x:b):∀(l:List b)(i:Nat),bE c i (l++[x])=(bE c i l&&c (i+z l) x)
 |[],i=>by simp[bE]
 |a::l,i=>by simp only[u7,bE,Cd c x l,j6,E5];rw[show i+1+z l=i+(z l+1) by omega]
def Pt:Str:=[109,97,105,110]
def jx(p:Prog):Nat:=
 if (bW [] (bA p) && bE (jY p) 0 p.funcs)=F then 4
 else match p.funcs.getLast? with
  |none=>0
  |some f=>if bE (zB p) 0 p.funcs=T/\f.name=Pt/\f.params=[]/\f.word=F then 0 else 1
variable{s:Str}{k n:Nat}{fs:List Str}
def Kz{fs:List Fn}(h:(s,k,n)∈thF fs):k=4/\n<z fs:=by
 simp only[thF,I4]at h;obtain⟨i,a,e⟩:=h;cases e;exact⟨rfl,a⟩
def Vy(h:(s,k,n)∈thV fs):k=2:=by
 simp only[thV,I4]at h;obtain⟨i,a,e⟩:=h;cases e;rfl
def Vz{fs:List (Str×Int)}(h:(s,k,n)∈thA fs):k=3:=by
 simp only[thA,I4]at h;obtain⟨i,a,e⟩:=h;cases e;rfl
def Fu{j:Nat}(h:(s,k,n)∈thL j fs):k=1/\n<j+z fs:=by
 simp only[thL,I4]at h;obtain⟨i,a,e⟩:=h;cases e;exact⟨rfl,a6⟩
def SX{p:Prog}{f:Fn}{n:Nat}(h:bw (bA p) (bC f) s=S (4,n)):n<z p.funcs:=by
 unfold bw at h;split at h
 .rename_i a
  cases h;have:=fI a;unfold bC at this;rcases D7.1 this with h|h
  .exact absurd (Fu h).1 a7
  .exact absurd (Fu h).1 a7
 .have:=fI h
  unfold bA at this;rcases D7.1 this with h|h
  .rcases D7.1 h with h|h
   .exact absurd (Vy h) a7
   .exact absurd (Vz h) a7
  .exact(Kz h).2
end
end
end Go.Src

/- A part of the proof; no conditions. -/
import Derived.Test.YtbojbioflppbdaaGreatDoorPart10
set_option linter.unusedSimpArgs false
set_option linter.unusedVariables false
set_option maxHeartbeats 64000000
set_option maxRecDepth 100000
namespace Go.Proofs.YtbojbioflppbdaaGreatDoor
section
attribute [local congr] Go.Am.ite_cc
open Go Go.Am Go.Asm
open Go.Src (PR lC Ex Stm)
section
def gL (p:Src.Prog):List C:=(gU p).map .d
variable {src:Str}{g:Nat→Nat}{p:Src.Prog}
theorem Gf {ts:List Src.Tok}{fin c k gr gc:Nat}{ob:Obs} (hl:ts.length≤100000) (hnum:∀t∈ts,t.num≤4294967295) (hk:4*ts.length+7≤k) (hc:c<100) (hfree:∀i,200≤i→ob i=none) (ho:ob 125=some (rdC ts 0 fin)) (hoc:∃x y z,ob c=some [x,y,z]) (hgr:g 125=gr) (hgc:g c=gc) :
  eJ Tryz.prog 16 [.one (.ptr 125 gr 0),jc (.ptr c gc 0)] g ob (fun _ g' ob'=>g'=g∧∃p m,lC ts k 0=.ok p m∧ob'=upd (upd ob 125 (some (rdC ts m fin))) c (some (gL p))) (NoR ts fin (lC ts k 0) g ob):=by
 obtain⟨x,y,z,hoc⟩:=hoc
 subst hgr hgc
 refine ez 1000 ac mixed Tryz.func16 rfl b9 [] rfl c8 c8 (by simp[Tryz.ntmps16]) fun b₀ β0 s0 w0=>?_
 have hc5:(c=125)=False:=by simp;omega
 simp only[go_sem]
 refine Ap aa rfl (by simp only[go_sem];exact JX hl hnum hk 200 g ob a6 hfree ho) ?_
 rintro _ g' ob' ⟨rfl,p,m,hp,rfl,rfl⟩
 unfold eg gU
 simp only[go_sem,jc,hc5,hoc]
 exact⟨_,ag.refl _,rfl,p,m,hp,rfl⟩
structure RdG (src:Str) (c:Nat) (g:Nat→Nat) (ob:Obs) (s:St):Prop where
 f0:s.f 0=sv src
 f1:s.f 1=.one (.clo 16 [.ptr c (g c) 0])
 f4:s.f 4=.one (.ptr 104 (nxC 4 (g 104)) 0)
 f5:s.f 5=.one (.ptr 105 (nxC 29 (g 105)) 0)
 gn:s.gen=upd (upd g 104 (nxC 4 (g 104))) 105 (nxC 29 (g 105))
 on:s.obj=upd (upd ob 104 (some [.d (.int .i64 0)])) 105 (some [.d (.int .i64 0)])
structure RdE (c:Nat) (g:Nat→Nat) (ob:Obs) (s:St):Prop where
 f4:s.f 4=.one (.ptr 104 (nxC 4 (g 104)) 0)
 f5:s.f 5=.one (.ptr 105 (nxC 29 (g 105)) 0)
 g4:s.gen 104=nxC 4 (g 104)
 g5:s.gen 105=nxC 29 (g 105)
 o4:s.obj 104=some [.d (.int .i64 0)]
 o5:s.obj 105=some [.d (.int .i64 0)]
 gc:s.gen c=g c
 fr:∀i,i<100→i≠c→s.gen i=g i∧s.obj i=ob i
def ID (src:Str) (c:Nat) (g:Nat→Nat) (ob:Obs) (r:AV) (g':Nat→Nat) (ob':Obs):Prop:=
 (∀i,i<100→i≠c→g' i=g i∧ob' i=ob i)∧g' c=g c∧
   match Src.RQ src with
   |(.ok p,_)=>r=.tup [iv .i64 0,iv .i64 0]∧ob' c=some (gL p)
   |(.err e,k)=>r=.tup [iv .i64 (k:Nat),iv .i64 (e:Nat)]
theorem JZ {o:cN} (ho:iK o){c:Nat}{ob:Obs} (hc:c<100) (hfree:∀i,100≤i→ob i=none) (hoc:∃x y z,ob c=some [x,y,z]) :
  Ce Tryz.prog 1 o 15 [sv src,.one (.clo 16 [.ptr c (g c) 0])] g ob (ID src c g ob):=by
 obtain⟨cx,cy,cz,hoc⟩:=hoc
 have hc4:(c=104)=False:=by simp;omega
 have hc5:(c=105)=False:=by simp;omega
 have hc6:(c=125)=False:=by simp;omega
 refine⟨⟨_,Tryz.func15,b9,c8⟩,fun b₀ N β a fa w vs hgb hheld hr0 hv=>?_⟩
 refine jd (n:=0) (callsIn_of_wp_defers Tryz.func15 b9 trivial ?_)
 have hr:=lT (N:=Tryz.f15.ntmps) (by simp[Tryz.ntmps15]) hr0 hv
 refine tv (B:=100) (ds:=[]) ac mixed kq c8 c8 hr ⟨⟨hgb,hheld⟩,rfl,Tr.refl⟩ (K:=RdG src c g ob) ?_ ?_
 ·simp only[go_sem]
  exact⟨rfl,rfl,rfl,rfl,rfl,rfl⟩
 rintro s1 β1 a1 ds1 w1 k1 hr1 hφ1
 refine tv (B:=100) ac mixed kq c8 c8 hr1 hφ1 (K:=fun s=>RdG src c g ob s∧s.f 6=.one (.d (gX (Src.pC src).1))∧s.f 7=iv .i64 ((Src.pC src).2.1:Nat)∧s.f 8=iv .i64 ((Src.pC src).2.2:Nat)) ?_ ?_
 ·obtain⟨f,g1,ob1⟩:=s1
  obtain⟨q0,q1,q4,q5,rfl,rfl⟩:=k1
  simp only at q0 q1 q4 q5
  simp only[go_sem,q0]
  refine am kq (fun s β ds w h=>h.1.2) rfl (by simp only[go_sem,q0];exact OL ho src) (by simp only[go_sem,q0];rfl) ?_
  rintro _ rfl
  unfold OK
  simp only[go_sem]
  refine⟨?_,?_,?_,?_,rfl,rfl⟩ <;> (simp only[go_sem,q0,q1,q4,q5])
 rintro s2 β2 a2 ds2 w2 ⟨k2,k6,k7,k8⟩ hr2 hφ2
 refine xI (B:=100) ac mixed kq c8 c8 hr2 hφ2 (K:=fun s=>RdG src c g ob s∧s.f 6=.one (.d (gX (Src.pC src).1))∧(Src.pC src).2.2=0)
  (K2:=fun s=>(Src.pC src).2.2≠0∧s.f 4=.one (.ptr 104 (s.gen 104) 0)∧s.f 5=.one (.ptr 105 (s.gen 105) 0)∧s.obj 104=some [.d (.int .i64 ((Src.pC src).2.1:Nat))]∧s.obj 105=some [.d (.int .i64 ((Src.pC src).2.2:Nat))]∧∀i,i<100→s.gen i=g i∧s.obj i=ob i) ?_ ?_ ?_
 ·obtain⟨f,g1,ob1⟩:=s2
  obtain⟨q0,q1,q4,q5,rfl,rfl⟩:=k2
  simp only at q0 q1 q4 q5 k6 k7 k8
  by_cases he:(Src.pC src).2.2=0
  ·rw[he] at k8
   simp only[go_sem,k8,k6,he]
   refine .inl ⟨?_,?_,?_,?_,rfl,rfl⟩ <;> (simp only[go_sem,q0,q1,q4,q5])
  ·have he2:¬((Src.pC src).2.2:Int)=0:=a6
   simp only[go_sem,k8,k6,k7,he,he2,q4,q5]
   refine .inr fun i hi=>?_
   (repeat rw[if_neg (by omega)])
   exact⟨rfl,rfl⟩
 case refine_3=>
  rintro s3 β3 a3 ds3 w3 ⟨he,z4,z5,y4,y5,hfr⟩ hr3 hφ3
  obtain rfl:ds3=[]:=hφ3.2.1
  have hE:iC Tt s3 [.cell 4 3,.cell 5 28] (bx fun avs=>pack avs=.tup [iv .i64 ((Src.pC src).2.1:Nat),iv .i64 ((Src.pC src).2.2:Nat)]):=by
   obtain⟨f3,g3,ob3⟩:=s3
   simp only at z4 z5 y4 y5
   simp only[go_sem,z4,z5,y4,y5]
   rfl
  obtain⟨v,avs,h1,h2,h3,_⟩:=dt (fn:=Tryz.f15) ac hr3 b9 hE
  refine⟨v,h1,v,_,_,_,β3,rfl,⟨fun i hi _=>hfr i hi,(hfr c hc).1,?_⟩,h3,hr3.obj,hr3.inj,?_⟩
  ·rw[h2]
   unfold Src.RQ
   rw[if_pos he]
  ·have hta:=hφ3.2.2
   exact⟨hta.size,hta.old,hta.keep,hta.os⟩
 rintro s3 β3 a3 ds3 w3 ⟨k3,k6,he⟩ hr3 hφ3
 obtain rfl:ds3=[]:=hφ3.2.1
 refine Ar (B:=100) (t:=20) (f:=34) (caps:=[.ptr 104 (nxC 4 (g 104)) 0,.ptr 105 (nxC 29 (g 105)) 0]) ac kq rfl rfl rfl (fun d h=>by cases h;simp[Tryz.ntmps15]) rfl rfl hr3 hφ3 (K:=fun s=>RdG src c g ob s∧s.f 6=.one (.d (gX (Src.pC src).1))) ?_ ?_
 ·obtain⟨f,g1,ob1⟩:=s3
  obtain⟨q0,q1,q4,q5,rfl,rfl⟩:=k3
  simp only at q0 q1 q4 q5 k6
  simp only[go_sem,q4,q5,k6]
  refine⟨?_,?_,?_,?_,rfl,rfl⟩ <;> (simp only[go_sem,q0,q1,q4,q5])
 rintro s4 β4 a4 w4 vs ⟨k4,k6⟩ hr4 hφ4 hcaps
 obtain⟨f4,g4,ob4⟩:=s4
 obtain⟨q0,q1,q4,q5,rfl,rfl⟩:=k4
 simp only at q0 q1 q4 q5 k6
 obtain⟨hl,hnum⟩:=Src.EF (s:=src)
 unfold ID Src.RQ
 rw[if_neg (by simp[he])]
 obtain⟨ts,hts⟩:∃ts,(Src.pC src).1=ts:=⟨_,rfl⟩
 rw[hts] at k6 hl hnum ⊢
 obtain⟨pr,hpr⟩:∃pr,lC ts (4*ts.length+7) 0=pr:=⟨_,rfl⟩
 rw[hpr]
 refine Aq (B:=100) ac mixed (oY (d:=[⟨.fn (.func 34) vs.toArray,#[]⟩])) (fun ch s=>(∃m,ch=rN (kw ts src.length m)∧(pr=.no m∨∃p,pr=.ok p m∧m<ts.length))∧RdE c g ob s)
  (fun e s=>e=.ret∧(∃p m,pr=.ok p m∧¬m<ts.length∧s.obj c=some (gL p))∧RdE c g ob s) c8 c8 hr4 ⟨rfl,Tr.refl⟩ ?_ ?_
 ·simp only[go_sem,q0,q1,q4,q5,k6]
  refine aM (f:=16) (caps:=[.ptr c (g c) 0]) oY rfl (by simp only[go_sem,q1]) (by simp only[go_sem];exact Gf (k:=4*ts.length+7) (ts:=ts) (fin:=src.length) (c:=c) a6 hnum a6 hc (fun i hi=>by simp only[upd];(repeat rw[if_neg (by omega)]);exact hfree i (by omega)) (by simp[upd,rdC]) ⟨cx,cy,cz,by simp[upd,hc4,hc5,hc6,hoc]⟩ (by simp[upd]) (by simp[upd,hc4,hc5,hc6])) ?_ ?_
  ·rintro ch g' ob' ⟨rfl,m,hp,rfl,rfl⟩
   rw[hpr] at hp
   refine⟨⟨m,rfl,.inl hp⟩,?_⟩
   refine⟨by simp only[go_sem,q4],by simp only[go_sem,q5],by simp only[go_sem],by simp only[go_sem],by simp only[go_sem],by simp only[go_sem],by simp only[go_sem,hc4,hc5,hc6],fun i hi hic=>?_⟩
   simp only[upd]
   (repeat rw[if_neg (by omega)])
   exact⟨rfl,rfl⟩
  ·rintro _ g' ob' ⟨rfl,p,m,hp,rfl⟩
   rw[hpr] at hp
   have e5:(125=c)=False:=by simp;omega
   have e4:(104=c)=False:=by simp;omega
   have e6:(105=c)=False:=by simp;omega
   unfold rdC gX
   simp only[go_sem,e4,e5,e6]
   refine aU c9 ?_
   by_cases hm:m<ts.length
   ·have hmi:(m:Int)<(ts.length:Int):=a6
    simp only[go_sem,e4,e5,e6,hmi,j5]
    refine bu oY rfl (by simp only[go_sem];exact uQ (n:=m) (ts:=ts) (fin:=src.length) (by simp[upd,e5,rdC,gX])) ?_ ?_
    case refine_2=>exact fun _ _ _ h=>h.elim
    rintro ch g' ob' ⟨rfl,rfl,rfl⟩
    refine⟨⟨m,rfl,.inr ⟨p,hp,hm⟩⟩,?_⟩
    refine⟨by simp only[go_sem,q4],by simp only[go_sem,q5],by simp only[go_sem],by simp only[go_sem],by simp only[go_sem,e4,e5,e6],by simp only[go_sem,e4,e5,e6],by simp only[go_sem,hc4,hc5,hc6],fun i hi hic=>?_⟩
    simp only[upd]
    (repeat rw[if_neg (by omega)])
    exact⟨rfl,rfl⟩
   ·have hmi:¬(m:Int)<(ts.length:Int):=a6
    simp only[go_sem,e4,e5,e6,hmi,j5,q4,q5]
    refine⟨⟨p,m,hp,hm,by simp only[go_sem,hc4,hc5,hc6]⟩,?_⟩
    refine⟨by simp only[go_sem,q4],by simp only[go_sem,q5],by simp only[go_sem],by simp only[go_sem],by simp only[go_sem,e4,e5,e6],by simp only[go_sem,e4,e5,e6],by simp only[go_sem,hc4,hc5,hc6],fun i hi hic=>?_⟩
    simp only[upd]
    (repeat rw[if_neg (by omega)])
    exact⟨rfl,rfl⟩
 rintro e s' β' a' ds' w' hend hr5 ⟨rfl,ht5⟩
 rcases hend with⟨rfl,⟨p,m,hp,hm,hcp⟩,z4,z5,e4,e5,o4,o5,gc,hF⟩|⟨ch,rfl,⟨m,rfl,hp⟩,z4,z5,e4,e5,o4,o5,gc,hF⟩
 ·show LeavesIn _ _ _ _ a'.tmps _ _ _ _
  refine xK (B:=200) (fnD:=Tryz.f34) ac mixed Tryz.func34 b9 c8 rfl rfl rfl rfl rfl rfl (by simp[Tryz.ntmps34]) (by simp[Tryz.ntmps34]) b9 c8 c8 (ac 20 rfl).desc hr5 (aE.keep ht5.keep _ hcaps) (by simp[Tryz.ntmps34])
   (K:=fun g' ob'=>g'=s'.gen∧ob'=s'.obj) ?_ ?_
  ·intro β0 s0 w0
   simp only[go_sem]
  ·rintro _ _ β6 w6 ⟨rfl,rfl⟩ hr6 ht6
   have hE:iC Tt ⟨s'.f,s'.gen,s'.obj⟩ [.cell 4 3,.cell 5 28] (bx fun avs=>pack avs=.tup [iv .i64 0,iv .i64 0]):=by
    simp only[go_sem,z4,z5,e4,e5,o4,o5]
    rfl
   obtain⟨v,avs,h1,h2,h3,_⟩:=dt (fn:=Tryz.f15) ac hr6 b9 hE
   refine⟨v,h1,v,_,_,_,β6,rfl,⟨fun i hi hic=>hF i hi hic,gc,?_⟩,h3,hr6.obj,hr6.inj,?_⟩
   ·rw[hp]
    simp only[if_neg hm]
    exact⟨h2,hcp⟩
   ·have hta:=(hφ4.2.2.trans ht5).trans ht6
    exact⟨hta.size,hta.old,hta.keep,hta.os⟩
 show LeavesIn _ _ _ _ a'.tmps _ _ _ _
 refine xH (B:=200) (fnD:=Tryz.f34) ac mixed Tryz.func34 b9 c8 rfl rfl rfl rfl rfl rfl (by simp[Tryz.ntmps34]) (by simp[Tryz.ntmps34]) b9 c8 c8 (ac 20 rfl).desc (t:=93) (u:=.agg #[.int .i64 (kw ts src.length m:Nat)]) hr5 (aE.keep ht5.keep _ hcaps) (by simp[Tryz.ntmps34])
  (K:=fun g' ob'=>g' 104=nxC 4 (g 104)∧g' 105=nxC 29 (g 105)∧ob' 104=some [.d (.int .i64 (kw ts src.length m:Nat))]∧ob' 105=some [.d (.int .i64 3)]∧g' c=g c∧∀i,i<100→i≠c→g' i=g i∧ob' i=ob i) ?_ ?_
 ·intro β0 s0 w0
  simp only[go_sem]
  refine uE (k:=bx _) aa rfl (ac 93 rfl).desc (kd:=.i64) (n:=(kw ts src.length m:Nat)) (by simp only[go_sem]) ?_
  have hc203:(c=203)=False:=by simp;omega
  simp only[go_sem,e4,e5,o4,o5,jc,hc4,hc5,hc203,gc]
  intro i hi hic
  have h1:=(hF i a6 hic).1
  have h2:=(hF i a6 hic).2
  (repeat rw[if_neg (by omega)])
  exact⟨h1,h2⟩
 ·rintro g' ob' β6 w6 ⟨x4,x5,y4,y5,gc',hfr⟩ hr6 ht6
  have hE:iC Tt ⟨s'.f,g',ob'⟩ [.cell 4 3,.cell 5 28] (bx fun avs=>pack avs=.tup [iv .i64 (kw ts src.length m:Nat),iv .i64 3]):=by
   simp only[go_sem,z4,z5,x4,x5,y4,y5]
   rfl
  obtain⟨v,avs,h1,h2,h3,_⟩:=dt (fn:=Tryz.f15) ac hr6 b9 hE
  refine⟨v,h1,v,_,_,_,β6,rfl,⟨hfr,gc',?_⟩,h3,hr6.obj,hr6.inj,?_⟩
  ·rcases hp with hp|⟨p,hp,hm⟩
   ·rw[hp]
    exact h2
   ·rw[hp]
    simp only[if_pos hm]
    exact h2
  ·have hta:=(hφ4.2.2.trans ht5).trans ht6
   exact⟨hta.size,hta.old,hta.keep,hta.os⟩
def Df:Src.Prog:=⟨[],[],[]⟩
def fq (src:Str):Src.Prog×Nat×Nat:=
 match Src.RQ src with
 |(.err e,k)=>(Df,k,e)
 |(.ok p,_)=>if Src.dZ p=true then(p,0,0) else(Df,0,2)
def yb (r:Src.Prog×Nat×Nat):AV:=.tup [eg r.1,iv .i64 (r.2.1:Nat),iv .i64 (r.2.2:Nat)]
theorem AI{e k:Nat} (h:Src.RQ src=(.err e,k)):e≠0:=by
 unfold Src.RQ at h
 split at h
 ·cases h;assumption
 ·split at h
  ·split at h
   ·cases h;decide
   ·cases h
  ·cases h;decide
theorem Dg{k:Nat} (h:Src.RQ src=(.ok p,k)):Src.szP p≤20001:=by
 unfold Src.RQ at h
 split at h
 ·cases h
 ·split at h
  ·rename_i hp
   split at h
   ·cases h
   ·cases h;exact Src.IN hp
  ·cases h
theorem uT (h:Src.szP p≤20001):szP p≤1000000000:=by
 have e:szP p=Src.szP p:=by
  unfold szP Src.szP Src.xl
  show _+(p.funcs.map Src.szF).sum=_
  omega
 omega
theorem Dh {o:cN} (ho:iK o) (src:Str):bR Tryz.prog 1 o 6 [sv src] (· = yb (fq src)):=by
 refine ax 0 1 o ac mixed Tryz.func6 rfl b9 [.cell 2 27,.tmp 3,.tmp 4] rfl c8 c8 (by simp[Tryz.ntmps6]) fun b₀ β0 s0 w0 g=>?_
 simp only[go_sem]
 refine Al ab (fun s β ds w h=>h.1) rfl (by simp only[go_sem];exact JZ ho (c:=5) a8 (fun i hi=>by simp only[upd];(repeat rw[if_neg (by omega)])) ⟨_,_,_,by simp[upd];exact⟨rfl,rfl,rfl⟩⟩) ?_
 rintro r g1 ob1 ⟨f1,gc,h1⟩
 have e2:=(f1 2 a8 a8).1
 have o2:=(f1 2 a8 a8).2
 simp[upd] at e2 o2 gc
 unfold fq
 cases hR:Src.RQ src with
 |mk x k=>
 rw[hR] at h1
 cases x with
 |err e=>
   obtain rfl:=h1
   have he:¬(e:Int)=0:=by have:=AI hR;omega
   simp only[go_sem,e2,o2,he]
   exact⟨_,⟨_,⟨_,_,rfl,rO [.nsl,.nsl,.nsl],_,_,rfl,jf _,_,_,rfl,jf _,rfl⟩,rfl⟩,rfl⟩
 |ok p=>
   obtain⟨rfl,oc⟩:=h1
   unfold gL gU at oc
   have hrg:=zx ho p (uT (Dg hR))
   unfold eg gU at hrg
   obtain⟨z,hz⟩:∃z,Src.dZ p=z:=⟨_,rfl⟩
   rw[hz] at hrg
   simp only[go_sem,e2,o2,gc,oc]
   refine am ab (fun s β ds w h=>h.1.2) rfl (by simp only[go_sem];exact hrg) (by simp only[go_sem];rfl) ?_
   rintro _ rfl
   cases z
   ·simp only[go_sem,e2,o2,gc,oc]
    refine⟨_,⟨_,⟨_,_,rfl,rO [.nsl,.nsl,.nsl],_,_,rfl,jf _,_,_,rfl,jf _,rfl⟩,rfl⟩,?_⟩
    simp only[hz]
    rfl
   ·simp only[go_sem,e2,o2,gc,oc]
    refine⟨_,⟨_,⟨_,_,rfl,rO (gU p),_,_,rfl,jf _,_,_,rfl,jf _,rfl⟩,rfl⟩,?_⟩
    simp only[hz]
    rfl
end
end
end Go.Proofs.YtbojbioflppbdaaGreatDoor
namespace Go.Src
section
open Go.Asm (Str)
section
abbrev Th:=Str×Nat×Nat
def aK:List Th→Str→Option (Nat×Nat)
 |[],_=>none
 |t::l,s=>if t.1=s then some t.2 else aK l s
theorem qm (l m:List Th) (s:Str):aK (l++m) s=match aK l s with|some x=>some x|none=>aK m s:=by
 induction l with
 |nil=>rfl
 |cons t l ih=>simp only[A0,aK];split <;> simp_all
theorem eu:∀{l:List Th}{s:Str}{x:Nat×Nat},aK l s=some x→(s,x)∈l
 |t::l,s,x,h=>by
   unfold aK at h
   split at h
   ·rename_i e;cases h;subst e;simp
   ·exact List.mem_cons_of_mem _ (eu h)
def bL:List Th→List Th→Bool
 |_,[]=>true
 |seen,t::l=>(aK seen t.1).isNone&&bL (seen++[t]) l
theorem oJ (t:Th):∀(l seen:List Th),bL seen (l++[t])=(bL seen l&&(aK (seen++l) t.1).isNone)
 |[],seen=>by simp[bL]
 |x::l,seen=>by simp only[A0,bL,oJ t l];rw[s6,H0,D4]
def thV (vs:List Str):List Th:=vs.mapIdx fun i n=>(n,2,i)
def thA (as_:List (Str×Int)):List Th:=as_.mapIdx fun i a=>(a.1,3,i)
def thF (fs:List Fn):List Th:=fs.mapIdx fun i f=>(f.name,4,i)
def bm (p:Prog):List Th:=thV p.vars++thA p.arrays++thF p.funcs
def thL (k:Nat) (ns:List Str):List Th:=ns.mapIdx fun i n=>(n,1,k+i)
def bt (f:Fn):List Th:=thL 0 f.params++thL f.params.length f.locals
def aX (o i:List Th) (s:Str):Option (Nat×Nat):=match aK i s with|some x=>some x|none=>aK o s
def bE (fnd:Str→Option (Nat×Nat)) (i:Nat) (kind:Nat) (name:Str):Bool:=
 match fnd name with
 |none=>false
 |some (k,n)=>if kind=2 then k == 1 || k == 2 else if kind=3 then k == 3 else k == 4 && decide (n<i)
def fu (fnd:Str→Option (Nat×Nat)) (fs:List Fn) (i:Nat) (kind:Nat) (name:Str) (args:Nat):Bool:=
 match fnd name with
 |none=>true
 |some (k,n)=>if kind=4∧k=4∧n<i then(match fs[n]? with|some f=>f.params.length == args|none=>true) else true
mutual
def okE (u:Nat→Str→Nat→Bool):Ex→Bool
 |.mk kind _ _ name kids=>(if kind=2 then u 2 name 0 else if kind=3 then u 3 name 0 else if kind=4 then u 4 name kids.length else true) && dg u kids
def dg (u:Nat→Str→Nat→Bool):List Ex→Bool
 |[]=>true
 |e::l=>okE u e&&dg u l
end
mutual
def okS (u:Nat→Str→Nat→Bool):Stm→Bool
 |.mk kind name e th el=>(if kind=1 then u 2 name 0 else if kind=2 then u 3 name 0 else if kind=6 then u 4 name e.length else true) && dg u e && dJ u th && dJ u el
def dJ (u:Nat→Str→Nat→Bool):List Stm→Bool
 |[]=>true
 |s::l=>okS u s&&dJ u l
end
def jZ (p:Prog) (i:Nat) (f:Fn):Bool:=bL [] (bt f)&&dJ (fun k n _=>bE (aX (bm p) (bt f)) i k n) f.body
def yM (p:Prog) (i:Nat) (f:Fn):Bool:=dJ (fun k n a=>fu (aX (bm p) (bt f)) p.funcs i k n a) f.body
def dk {α:Type} (c:Nat→α→Bool):Nat→List α→Bool
 |_,[]=>true
 |i,a::l=>c i a&&dk c (i+1) l
theorem xn {α:Type} (c:Nat→α→Bool) (x:α):∀(l:List α) (i:Nat),dk c i (l++[x])=(dk c i l&&c (i+l.length) x)
 |[],i=>by simp[dk]
 |a::l,i=>by simp only[A0,dk,xn c x l,j6,D4];rw[show i+1+l.length=i+(l.length+1) by omega]
def Pa:Str:=[109,97,105,110]
def iT (p:Prog):Nat:=
 if (bL [] (bm p) && dk (jZ p) 0 p.funcs)=false then 4
 else match p.funcs.getLast? with
  |none=>0
  |some f=>if dk (yM p) 0 p.funcs=true∧f.name=Pa∧f.params=[]∧f.word=false then 0 else 1
variable {s:Str}{k n:Nat}{fs:List Str}
theorem EG {fs:List Fn} (h:(s,k,n)∈thF fs):k=4∧n<fs.length:=by
 simp only[thF,H6] at h
 obtain⟨i,hi,e⟩:=h
 cases e
 exact⟨rfl,hi⟩
theorem Pb (h:(s,k,n)∈thV fs):k=2:=by
 simp only[thV,H6] at h
 obtain⟨i,hi,e⟩:=h
 cases e
 rfl
theorem Pc {fs:List (Str×Int)} (h:(s,k,n)∈thA fs):k=3:=by
 simp only[thA,H6] at h
 obtain⟨i,hi,e⟩:=h
 cases e
 rfl
theorem zV {j:Nat} (h:(s,k,n)∈thL j fs):k=1∧n<j+fs.length:=by
 simp only[thL,H6] at h
 obtain⟨i,hi,e⟩:=h
 cases e
 exact⟨rfl,a6⟩
theorem Ma {p:Prog}{f:Fn}{n:Nat} (h:aX (bm p) (bt f) s=some (4,n)):n<p.funcs.length:=by
 unfold aX at h
 split at h
 ·rename_i hf
  cases h
  have:=eu hf
  unfold bt at this
  rcases C8.1 this with h|h
  ·exact absurd (zV h).1 a8
  ·exact absurd (zV h).1 a8
 ·have:=eu h
  unfold bm at this
  rcases C8.1 this with h|h
  ·rcases C8.1 h with h|h
   ·exact absurd (Pb h) a8
   ·exact absurd (Pc h) a8
  ·exact(EG h).2
end
end
end Go.Src

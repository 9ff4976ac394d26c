/- A part of the proof; no conditions. -/
import Derived.Test.YtgiigidgdhplfaaGreatDoorPart10
set_option linter.unusedSimpArgs false
set_option linter.unusedVariables false
set_option maxHeartbeats 64000000
set_option maxRecDepth 100000
namespace Go.Proofs.YtgiigidgdhplfaaGreatDoor
section
attribute [local congr] Go.Am.ite_cc
open Go Go.Am Go.Asm
open Go.Src (PR lG Ex Stm)
section
def gw (p:Src.Prog):List C:=(iX p).map .d
variable {src:Str}{g:Nat→Nat}{p:Src.Prog}
theorem HM {ts:List Src.Tok}{fin c k gr gc:Nat}{ob:Obs} (hl:ts.length≤100000) (hnum:∀t∈ts,t.num≤4294967295) (hk:4*ts.length+7≤k) (hc:c<100) (hfree:∀i,200≤i→ob i=none) (ho:ob 125=some (rdC ts 0 fin)) (hoc:∃x y z,ob c=some [x,y,z]) (hgr:g 125=gr) (hgc:g c=gc) :
  cB Tryz.prog 34 [.one (.ptr 125 gr 0),iN (.ptr c gc 0)] g ob (fun _ g' ob'=>g'=g∧∃p m,lG ts k 0=.ok p m∧ob'=upd (upd ob 125 (some (rdC ts m fin))) c (some (gw p))) (NoR ts fin (lG ts k 0) g ob):=by
 obtain⟨x,y,z,hoc⟩:=hoc
 subst hgr hgc
 refine hdX 1000 Tryz.func34 rfl [] fun b₀ β0 s0 w0=>?_
 have hc5:(c=125)=False:=by simp;omega
 simp only[go_sem]
 refine bQ aa rfl (by simp only[go_sem];exact LS hl hnum hk 200 g ob a6 hfree ho) ?_
 rintro _ g' ob' ⟨rfl,p,m,hp,rfl,rfl⟩
 unfold eF iX
 simp only[go_sem,iN,hc5,hoc]
 exact⟨_,ab.refl _,rfl,p,m,hp,rfl⟩
structure RdG (src:Str) (c:Nat) (g:Nat→Nat) (ob:Obs) (s:St):Prop where
 f0:s.f 0=sv src
 f1:s.f 1=.one (.clo 34 [.ptr c (g c) 0])
 f4:s.f 4=.one (.ptr 104 (nxC 4 (g 104)) 0)
 f5:s.f 5=.one (.ptr 105 (nxC 24 (g 105)) 0)
 gn:s.gen=upd (upd g 104 (nxC 4 (g 104))) 105 (nxC 24 (g 105))
 on:s.obj=upd (upd ob 104 (some [.d (.int .i64 0)])) 105 (some [.d (.int .i64 0)])
structure RdE (c:Nat) (g:Nat→Nat) (ob:Obs) (s:St):Prop where
 f4:s.f 4=.one (.ptr 104 (nxC 4 (g 104)) 0)
 f5:s.f 5=.one (.ptr 105 (nxC 24 (g 105)) 0)
 g4:s.gen 104=nxC 4 (g 104)
 g5:s.gen 105=nxC 24 (g 105)
 o4:s.obj 104=some [.d (.int .i64 0)]
 o5:s.obj 105=some [.d (.int .i64 0)]
 gc:s.gen c=g c
 fr:∀i,i<100→i≠c→s.gen i=g i∧s.obj i=ob i
def Kx (src:Str) (c:Nat) (g:Nat→Nat) (ob:Obs) (r:AV) (g':Nat→Nat) (ob':Obs):Prop:=
 (∀i,i<100→i≠c→g' i=g i∧ob' i=ob i)∧g' c=g c∧
   match Src.UH src with
   |(.ok p,_)=>r=.tup [iv .i64 0,iv .i64 0]∧ob' c=some (gw p)
   |(.err e,k)=>r=.tup [iv .i64 (k:Nat),iv .i64 (e:Nat)]
theorem LU {o:bE} (ho:gK o){c:Nat}{ob:Obs} (hc:c<100) (hfree:∀i,100≤i→ob i=none) (hoc:∃x y z,ob c=some [x,y,z]) :
  ru Tryz.prog 3 o 33 [sv src,.one (.clo 34 [.ptr c (g c) 0])] g ob (Kx src c g ob):=by
 obtain⟨cx,cy,cz,hoc⟩:=hoc
 have hc4:(c=104)=False:=by simp;omega
 have hc5:(c=105)=False:=by simp;omega
 have hc6:(c=125)=False:=by simp;omega
 refine⟨⟨_,Tryz.func33,c9,c8⟩,fun b₀ N β a fa w vs hgb hheld hr0 hv=>?_⟩
 refine eX (n:=0) (callsIn_of_wp_defers Tryz.func33 c9 trivial ?_)
 have hr:=jr (N:=Tryz.f33.ntmps) (by simp[Tryz.ntmps33]) hr0 hv
 refine kq (B:=100) (ds:=[]) aB mixed cn c8 c8 hr ⟨⟨hgb,hheld⟩,rfl,Tr.refl⟩ (K:=RdG src c g ob) ?_ ?_
 ·simp only[go_sem]
  exact⟨rfl,rfl,rfl,rfl,rfl,rfl⟩
 rintro s1 β1 a1 ds1 w1 k1 hr1 hφ1
 refine kq (B:=100) aB mixed cn c8 c8 hr1 hφ1 (K:=fun s=>RdG src c g ob s∧s.f 6=.one (.d (dF (Src.pG src).1))∧s.f 7=iv .i64 ((Src.pG src).2.1:Nat)∧s.f 8=iv .i64 ((Src.pG src).2.2:Nat)) ?_ ?_
 ·obtain⟨f,g1,ob1⟩:=s1
  obtain⟨q0,q1,q4,q5,rfl,rfl⟩:=k1
  simp only at q0 q1 q4 q5
  simp only[go_sem,q0]
  refine il cn (fun s β ds w h=>h.1.2) rfl (by simp only[go_sem,q0];exact KE ho src) (by simp only[go_sem,q0];rfl) ?_
  rintro _ rfl
  unfold MQ
  simp only[go_sem]
  refine⟨?_,?_,?_,?_,rfl,rfl⟩ <;> (simp only[go_sem,q0,q1,q4,q5])
 rintro s2 β2 a2 ds2 w2 ⟨k2,k6,k7,k8⟩ hr2 hφ2
 refine yr (B:=100) aB mixed cn c8 c8 hr2 hφ2 (K:=fun s=>RdG src c g ob s∧s.f 6=.one (.d (dF (Src.pG src).1))∧(Src.pG src).2.2=0)
  (K2:=fun s=>(Src.pG src).2.2≠0∧s.f 4=.one (.ptr 104 (s.gen 104) 0)∧s.f 5=.one (.ptr 105 (s.gen 105) 0)∧s.obj 104=some [.d (.int .i64 ((Src.pG src).2.1:Nat))]∧s.obj 105=some [.d (.int .i64 ((Src.pG src).2.2:Nat))]∧∀i,i<100→s.gen i=g i∧s.obj i=ob i) ?_ ?_ ?_
 ·obtain⟨f,g1,ob1⟩:=s2
  obtain⟨q0,q1,q4,q5,rfl,rfl⟩:=k2
  simp only at q0 q1 q4 q5 k6 k7 k8
  by_cases he:(Src.pG src).2.2=0
  ·rw[he] at k8
   simp only[go_sem,k8,k6,he]
   refine .inl ⟨?_,?_,?_,?_,rfl,rfl⟩ <;> (simp only[go_sem,q0,q1,q4,q5])
  ·have he2:¬((Src.pG src).2.2:Int)=0:=a6
   simp only[go_sem,k8,k6,k7,he,he2,q4,q5]
   refine .inr fun i hi=>?_
   (repeat rw[if_neg (by omega)])
   exact⟨rfl,rfl⟩
 case refine_3=>
  rintro s3 β3 a3 ds3 w3 ⟨he,z4,z5,y4,y5,hfr⟩ hr3 hφ3
  obtain rfl:ds3=[]:=hφ3.2.1
  have hE:gU Tt s3 [.cell 4 3,.cell 5 23] (bx fun avs=>pack avs=.tup [iv .i64 ((Src.pG src).2.1:Nat),iv .i64 ((Src.pG src).2.2:Nat)]):=by
   obtain⟨f3,g3,ob3⟩:=s3
   simp only at z4 z5 y4 y5
   simp only[go_sem,z4,z5,y4,y5]
   rfl
  obtain⟨v,avs,h1,h2,h3,_⟩:=ce (fn:=Tryz.f33) aB hr3 c9 hE
  refine⟨v,h1,v,_,_,_,β3,rfl,⟨fun i hi _=>hfr i hi,(hfr c hc).1,?_⟩,h3,hr3.obj,hr3.inj,?_⟩
  ·rw[h2]
   unfold Src.UH
   rw[if_pos he]
  ·have hta:=hφ3.2.2
   exact⟨hta.size,hta.old,hta.keep,hta.os⟩
 rintro s3 β3 a3 ds3 w3 ⟨k3,k6,he⟩ hr3 hφ3
 obtain rfl:ds3=[]:=hφ3.2.1
 refine tO (B:=100) (t:=20) (f:=56) (caps:=[.ptr 104 (nxC 4 (g 104)) 0,.ptr 105 (nxC 24 (g 105)) 0]) aB cn rfl rfl rfl (fun d h=>by cases h;simp[Tryz.ntmps33]) rfl rfl hr3 hφ3 (K:=fun s=>RdG src c g ob s∧s.f 6=.one (.d (dF (Src.pG src).1))) ?_ ?_
 ·obtain⟨f,g1,ob1⟩:=s3
  obtain⟨q0,q1,q4,q5,rfl,rfl⟩:=k3
  simp only at q0 q1 q4 q5 k6
  simp only[go_sem,q4,q5,k6]
  refine⟨?_,?_,?_,?_,rfl,rfl⟩ <;> (simp only[go_sem,q0,q1,q4,q5])
 rintro s4 β4 a4 w4 vs ⟨k4,k6⟩ hr4 hφ4 hcaps
 obtain⟨f4,g4,ob4⟩:=s4
 obtain⟨q0,q1,q4,q5,rfl,rfl⟩:=k4
 simp only at q0 q1 q4 q5 k6
 obtain⟨hl,hnum⟩:=Src.Gf (s:=src)
 unfold Kx Src.UH
 rw[if_neg (by simp[he])]
 obtain⟨ts,hts⟩:∃ts,(Src.pG src).1=ts:=⟨_,rfl⟩
 rw[hts] at k6 hl hnum ⊢
 obtain⟨pr,hpr⟩:∃pr,lG ts (4*ts.length+7) 0=pr:=⟨_,rfl⟩
 rw[hpr]
 refine tN (B:=100) aB mixed (kp (d:=[⟨.fn (.func 56) vs.toArray,#[]⟩])) (fun ch s=>(∃m,ch=rR (kw ts src.length m)∧(pr=.no m∨∃p,pr=.ok p m∧m<ts.length))∧RdE c g ob s)
  (fun e s=>e=.ret∧(∃p m,pr=.ok p m∧¬m<ts.length∧s.obj c=some (gw p))∧RdE c g ob s) c8 c8 hr4 ⟨rfl,Tr.refl⟩ ?_ ?_
 ·simp only[go_sem,q0,q1,q4,q5,k6]
  refine aH (f:=34) (caps:=[.ptr c (g c) 0]) kp rfl (by simp only[go_sem,q1]) (by simp only[go_sem];exact HM (k:=4*ts.length+7) (ts:=ts) (fin:=src.length) (c:=c) a6 hnum a6 hc (fun i hi=>by simp only[upd];(repeat rw[if_neg (by omega)]);exact hfree i (by omega)) (by simp[upd,rdC]) ⟨cx,cy,cz,by simp[upd,hc4,hc5,hc6,hoc]⟩ (by simp[upd]) (by simp[upd,hc4,hc5,hc6])) ?_ ?_
  ·rintro ch g' ob' ⟨rfl,m,hp,rfl,rfl⟩
   rw[hpr] at hp
   refine⟨⟨m,rfl,.inl hp⟩,?_⟩
   refine⟨by simp only[go_sem,q4],by simp only[go_sem,q5],by simp only[go_sem],by simp only[go_sem],by simp only[go_sem],by simp only[go_sem],by simp only[go_sem,hc4,hc5,hc6],fun i hi hic=>?_⟩
   simp only[upd]
   (repeat rw[if_neg (by omega)])
   exact⟨rfl,rfl⟩
  ·rintro _ g' ob' ⟨rfl,p,m,hp,rfl⟩
   rw[hpr] at hp
   have e5:(125=c)=False:=by simp;omega
   have e4:(104=c)=False:=by simp;omega
   have e6:(105=c)=False:=by simp;omega
   unfold rdC dF
   simp only[go_sem,e4,e5,e6]
   refine aJ b9 ?_
   by_cases hm:m<ts.length
   ·have hmi:(m:Int)<(ts.length:Int):=a6
    simp only[go_sem,e4,e5,e6,hmi,j5]
    refine bq kp rfl (by simp only[go_sem];exact vt (n:=m) (ts:=ts) (fin:=src.length) (by simp[upd,e5,rdC,dF])) ?_ ?_
    case refine_2=>exact fun _ _ _ h=>h.elim
    rintro ch g' ob' ⟨rfl,rfl,rfl⟩
    refine⟨⟨m,rfl,.inr ⟨p,hp,hm⟩⟩,?_⟩
    exact VX
   ·have hmi:¬(m:Int)<(ts.length:Int):=a6
    simp only[go_sem,e4,e5,e6,hmi,j5,q4,q5]
    refine⟨⟨p,m,hp,hm,by simp only[go_sem,hc4,hc5,hc6]⟩,?_⟩
    exact VX
 rintro e s' β' a' ds' w' hend hr5 ⟨rfl,ht5⟩
 rcases hend with⟨rfl,⟨p,m,hp,hm,hcp⟩,z4,z5,e4,e5,o4,o5,gc,hF⟩|⟨ch,rfl,⟨m,rfl,hp⟩,z4,z5,e4,e5,o4,o5,gc,hF⟩
 ·show LeavesIn _ _ _ _ a'.tmps _ _ _ _
  refine yv (B:=200) (fnD:=Tryz.f56) aB mixed Tryz.func56 c9 c8 rfl rfl rfl rfl rfl rfl Yp Yp c9 c8 c8 (aB 20 rfl).desc hr5 (aA.keep ht5.keep _ hcaps) Yp
   (K:=fun g' ob'=>g'=s'.gen∧ob'=s'.obj) ?_ ?_
  ·intro β0 s0 w0
   exact VU
  ·rintro _ _ β6 w6 ⟨rfl,rfl⟩ hr6 ht6
   have hE:gU Tt ⟨s'.f,s'.gen,s'.obj⟩ [.cell 4 3,.cell 5 23] (bx fun avs=>pack avs=.tup [iv .i64 0,iv .i64 0]):=by
    simp only[go_sem,z4,z5,e4,e5,o4,o5]
    rfl
   obtain⟨v,avs,h1,h2,h3,_⟩:=ce (fn:=Tryz.f33) aB hr6 c9 hE
   refine⟨v,h1,v,_,_,_,β6,rfl,⟨fun i hi hic=>hF i hi hic,gc,?_⟩,h3,hr6.obj,hr6.inj,?_⟩
   ·rw[hp]
    simp only[if_neg hm]
    exact⟨h2,hcp⟩
   ·exact WE
 show LeavesIn _ _ _ _ a'.tmps _ _ _ _
 refine ry (B:=200) (fnD:=Tryz.f56) aB mixed Tryz.func56 c9 c8 rfl rfl rfl rfl rfl rfl Yp Yp c9 c8 c8 (aB 20 rfl).desc (t:=117) (u:=.agg #[.int .i64 (kw ts src.length m:Nat)]) hr5 (aA.keep ht5.keep _ hcaps) Yp
  (K:=fun g' ob'=>g' 104=nxC 4 (g 104)∧g' 105=nxC 24 (g 105)∧ob' 104=some [.d (.int .i64 (kw ts src.length m:Nat))]∧ob' 105=some [.d (.int .i64 3)]∧g' c=g c∧∀i,i<100→i≠c→g' i=g i∧ob' i=ob i) ?_ ?_
 ·intro β0 s0 w0
  simp only[go_sem]
  refine nW (k:=bx _) aa rfl (aB 117 rfl).desc (kd:=.i64) (n:=(kw ts src.length m:Nat)) XP ?_
  have hc203:(c=203)=False:=by simp;omega
  simp only[go_sem,e4,e5,o4,o5,iN,hc4,hc5,hc203,gc]
  intro i hi hic
  have h1:=(hF i a6 hic).1
  have h2:=(hF i a6 hic).2
  (repeat rw[if_neg (by omega)])
  exact⟨h1,h2⟩
 ·rintro g' ob' β6 w6 ⟨x4,x5,y4,y5,gc',hfr⟩ hr6 ht6
  have hE:gU Tt ⟨s'.f,g',ob'⟩ [.cell 4 3,.cell 5 23] (bx fun avs=>pack avs=.tup [iv .i64 (kw ts src.length m:Nat),iv .i64 3]):=by
   simp only[go_sem,z4,z5,x4,x5,y4,y5]
   rfl
  obtain⟨v,avs,h1,h2,h3,_⟩:=ce (fn:=Tryz.f33) aB hr6 c9 hE
  refine⟨v,h1,v,_,_,_,β6,rfl,⟨hfr,gc',?_⟩,h3,hr6.obj,hr6.inj,?_⟩
  ·rcases hp with hp|⟨p,hp,hm⟩
   ·rw[hp]
    exact h2
   ·rw[hp]
    simp only[if_pos hm]
    exact h2
  ·exact WE
def vw:Src.Prog:=⟨[],[],[]⟩
def jV (src:Str):Src.Prog×Nat×Nat:=
 match Src.UH src with
 |(.err e,k)=>(vw,k,e)
 |(.ok p,_)=>if Src.dS p=true then(p,0,0) else(vw,0,2)
def Eu (r:Src.Prog×Nat×Nat):AV:=.tup [eF r.1,iv .i64 (r.2.1:Nat),iv .i64 (r.2.2:Nat)]
theorem BJ{e k:Nat} (h:Src.UH src=(.err e,k)):e≠0:=by
 unfold Src.UH at h
 split at h
 ·cases h;assumption
 ·split at h
  ·split at h
   ·cases h;decide
   ·cases h
  ·cases h;decide
theorem Ev{k:Nat} (h:Src.UH src=(.ok p,k)):Src.szP p≤20001:=by
 unfold Src.UH at h
 split at h
 ·cases h
 ·split at h
  ·rename_i hp
   split at h
   ·cases h
   ·cases h;exact Src.KJ hp
  ·cases h
theorem vx (h:Src.szP p≤20001):szP p≤1000000000:=by
 have e:szP p=Src.szP p:=by
  unfold szP Src.szP Src.xU
  show _+(p.funcs.map Src.szF).sum=_
  omega
 omega
theorem LV {o:bE} (ho:gK o) (src:Str):bi Tryz.prog 3 o 12 [sv src] (· = Eu (jV src)):=by
 refine hdG Tryz.func12 rfl [.cell 2 45,.tmp 3,.tmp 4] fun b₀ β0 s0 w0 g=>?_
 simp only[go_sem]
 refine ji ay (fun s β ds w h=>h.1) rfl (by simp only[go_sem];exact LU ho (c:=5) a8 (fun i hi=>by simp only[upd];(repeat rw[if_neg (by omega)])) ⟨_,_,_,by simp[upd];exact⟨rfl,rfl,rfl⟩⟩) ?_
 rintro r g1 ob1 ⟨f1,gc,h1⟩
 have e2:=(f1 2 a8 a8).1
 have o2:=(f1 2 a8 a8).2
 simp[upd] at e2 o2 gc
 unfold jV
 cases hR:Src.UH src with
 |mk x k=>
 rw[hR] at h1
 cases x with
 |err e=>
   obtain rfl:=h1
   have he:¬(e:Int)=0:=by have:=BJ hR;omega
   simp only[go_sem,e2,o2,he]
   exact⟨_,⟨_,⟨_,_,rfl,rT [.nsl,.nsl,.nsl],_,_,rfl,eN _,_,_,rfl,eN _,rfl⟩,rfl⟩,rfl⟩
 |ok p=>
   obtain⟨rfl,oc⟩:=h1
   unfold gw iX at oc
   have hrg:=Ay ho p (vx (Ev hR))
   unfold eF iX at hrg
   obtain⟨z,hz⟩:∃z,Src.dS p=z:=⟨_,rfl⟩
   rw[hz] at hrg
   simp only[go_sem,e2,o2,gc,oc]
   refine cp rfl (by simp only[go_sem];exact hrg) ?_
   rintro _ rfl
   cases z
   ·simp only[go_sem,e2,o2,gc,oc]
    refine⟨_,⟨_,⟨_,_,rfl,rT [.nsl,.nsl,.nsl],_,_,rfl,eN _,_,_,rfl,eN _,rfl⟩,rfl⟩,?_⟩
    simp only[hz]
    rfl
   ·simp only[go_sem,e2,o2,gc,oc]
    refine⟨_,⟨_,⟨_,_,rfl,rT (iX p),_,_,rfl,eN _,_,_,rfl,eN _,rfl⟩,rfl⟩,?_⟩
    simp only[hz]
    rfl
end
end
end Go.Proofs.YtgiigidgdhplfaaGreatDoor

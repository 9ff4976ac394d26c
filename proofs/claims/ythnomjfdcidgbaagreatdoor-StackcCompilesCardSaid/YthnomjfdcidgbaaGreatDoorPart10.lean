/- A part of the proof; no conditions. -/
import Derived.Test.YthnomjfdcidgbaaGreatDoorPart9
set_option linter.unusedSimpArgs false
set_option linter.unusedVariables false
set_option maxHeartbeats 64000000
set_option maxRecDepth 100000
namespace Go.Proofs.YthnomjfdcidgbaaGreatDoor
section
attribute [local congr] Go.Am.ite_cc
open Go Go.Am Go.Asm
open Go.Src (PR jI Ex Stm)
section
def iS (p:Src.Prog):List C:=(gY p).map .d
variable {src:Str}{g:Nat→Nat}{p:Src.Prog}
theorem HP {ts:List Src.Tok}{fin c k gr gc:Nat}{ob:Obs} (hl:ts.length≤100000) (hnum:∀t∈ts,t.num≤4294967295) (hk:4*ts.length+7≤k) (hc:c<100) (hfree:∀i,200≤i→ob i=none) (ho:ob 125=some (rdC ts 0 fin)) (hoc:∃x y z,ob c=some [x,y,z]) (hgr:g 125=gr) (hgc:g c=gc) :
  dN Tryz.prog 41 [.one (.ptr 125 gr 0),jV (.ptr c gc 0)] g ob (fun _ g' ob'=>g'=g∧∃p m,jI ts k 0=.ok p m∧ob'=upd (upd ob 125 (some (rdC ts m fin))) c (some (iS p))) (NoR ts fin (jI ts k 0) g ob):=by
 obtain⟨x,y,z,hoc⟩:=hoc
 subst hgr hgc
 refine hdX 1000 Tryz.func41 rfl [] fun b₀ β0 s0 w0=>?_
 have hc5:(c=125)=False:=by simp;omega
 simp only[go_sem]
 refine Cl aa rfl (by simp only[go_sem];exact LU hl hnum hk 200 g ob a6 hfree ho) ?_
 rintro _ g' ob' ⟨rfl,p,m,hp,rfl,rfl⟩
 unfold de gY
 simp only[go_sem,jV,hc5,hoc]
 exact⟨_,ab.refl _,rfl,p,m,hp,rfl⟩
structure RdG (src:Str) (c:Nat) (g:Nat→Nat) (ob:Obs) (s:St):Prop where
 f0:s.f 0=sv src
 f1:s.f 1=.one (.clo 41 [.ptr c (g c) 0])
 f4:s.f 4=.one (.ptr 104 (nxC 4 (g 104)) 0)
 f5:s.f 5=.one (.ptr 105 (nxC 24 (g 105)) 0)
 gn:s.gen=upd (upd g 104 (nxC 4 (g 104))) 105 (nxC 24 (g 105))
 on:s.obj=upd (upd ob 104 (some [.d (.int .i64 0)])) 105 (some [.d (.int .i64 0)])
structure RdE (c:Nat) (g:Nat→Nat) (ob:Obs) (s:St):Prop where
 f4:s.f 4=.one (.ptr 104 (nxC 4 (g 104)) 0)
 f5:s.f 5=.one (.ptr 105 (nxC 24 (g 105)) 0)
 g4:s.gen 104=nxC 4 (g 104)
 g5:s.gen 105=nxC 24 (g 105)
 o4:s.obj 104=some [.d (.int .i64 0)]
 o5:s.obj 105=some [.d (.int .i64 0)]
 gc:s.gen c=g c
 fr:∀i,i<100→i≠c→s.gen i=g i∧s.obj i=ob i
def Kv (src:Str) (c:Nat) (g:Nat→Nat) (ob:Obs) (r:AV) (g':Nat→Nat) (ob':Obs):Prop:=
 (∀i,i<100→i≠c→g' i=g i∧ob' i=ob i)∧g' c=g c∧
   match Src.Ul src with
   |(.ok p,_)=>r=.tup [iv .i64 0,iv .i64 0]∧ob' c=some (iS p)
   |(.err e,k)=>r=.tup [iv .i64 (k:Nat),iv .i64 (e:Nat)]
theorem LW {o:cO} (ho:jM o){c:Nat}{ob:Obs} (hc:c<100) (hfree:∀i,100≤i→ob i=none) (hoc:∃x y z,ob c=some [x,y,z]) :
  DN Tryz.prog 3 o 40 [sv src,.one (.clo 41 [.ptr c (g c) 0])] g ob (Kv src c g ob):=by
 obtain⟨cx,cy,cz,hoc⟩:=hoc
 have hc4:(c=104)=False:=by simp;omega
 have hc5:(c=105)=False:=by simp;omega
 have hc6:(c=125)=False:=by simp;omega
 refine⟨⟨_,Tryz.func40,c9,c8⟩,fun b₀ N β a fa w vs hgb hheld hr0 hv=>?_⟩
 refine jW (n:=0) (callsIn_of_wp_defers Tryz.func40 c9 trivial ?_)
 have hr:=mV (N:=Tryz.f40.ntmps) (by simp[Tryz.ntmps40]) hr0 hv
 refine uS (B:=100) (ds:=[]) aU mixed kX c8 c8 hr ⟨⟨hgb,hheld⟩,rfl,Tr.refl⟩ (K:=RdG src c g ob) ?_ ?_
 ·simp only[go_sem]
  exact⟨rfl,rfl,rfl,rfl,rfl,rfl⟩
 rintro s1 β1 a1 ds1 w1 k1 hr1 hφ1
 refine uS (B:=100) aU mixed kX c8 c8 hr1 hφ1 (K:=fun s=>RdG src c g ob s∧s.f 6=.one (.d (cF (Src.qN src).1))∧s.f 7=iv .i64 ((Src.qN src).2.1:Nat)∧s.f 8=iv .i64 ((Src.qN src).2.2:Nat)) ?_ ?_
 ·obtain⟨f,g1,ob1⟩:=s1
  obtain⟨q0,q1,q4,q5,rfl,rfl⟩:=k1
  simp only at q0 q1 q4 q5
  simp only[go_sem,q0]
  refine oT kX (fun s β ds w h=>h.1.2) rfl (by simp only[go_sem,q0];exact Rh ho src) (by simp only[go_sem,q0];rfl) ?_
  rintro _ rfl
  unfold IQ
  simp only[go_sem]
  refine⟨?_,?_,?_,?_,rfl,rfl⟩ <;> (simp only[go_sem,q0,q1,q4,q5])
 rintro s2 β2 a2 ds2 w2 ⟨k2,k6,k7,k8⟩ hr2 hφ2
 refine zz (B:=100) aU mixed kX c8 c8 hr2 hφ2 (K:=fun s=>RdG src c g ob s∧s.f 6=.one (.d (cF (Src.qN src).1))∧(Src.qN src).2.2=0)
  (K2:=fun s=>(Src.qN src).2.2≠0∧s.f 4=.one (.ptr 104 (s.gen 104) 0)∧s.f 5=.one (.ptr 105 (s.gen 105) 0)∧s.obj 104=some [.d (.int .i64 ((Src.qN src).2.1:Nat))]∧s.obj 105=some [.d (.int .i64 ((Src.qN src).2.2:Nat))]∧∀i,i<100→s.gen i=g i∧s.obj i=ob i) ?_ ?_ ?_
 ·obtain⟨f,g1,ob1⟩:=s2
  obtain⟨q0,q1,q4,q5,rfl,rfl⟩:=k2
  simp only at q0 q1 q4 q5 k6 k7 k8
  by_cases he:(Src.qN src).2.2=0
  ·rw[he] at k8
   simp only[go_sem,k8,k6,he]
   refine .inl ⟨?_,?_,?_,?_,rfl,rfl⟩ <;> (simp only[go_sem,q0,q1,q4,q5])
  ·have he2:¬((Src.qN src).2.2:Int)=0:=a6
   simp only[go_sem,k8,k6,k7,he,he2,q4,q5]
   refine .inr fun i hi=>?_
   (repeat rw[if_neg (by omega)])
   exact⟨rfl,rfl⟩
 case refine_3=>
  rintro s3 β3 a3 ds3 w3 ⟨he,z4,z5,y4,y5,hfr⟩ hr3 hφ3
  obtain rfl:ds3=[]:=hφ3.2.1
  have hE:jy Tt s3 [.cell 4 3,.cell 5 23] (bx fun avs=>pack avs=.tup [iv .i64 ((Src.qN src).2.1:Nat),iv .i64 ((Src.qN src).2.2:Nat)]):=by
   obtain⟨f3,g3,ob3⟩:=s3
   simp only at z4 z5 y4 y5
   simp only[go_sem,z4,z5,y4,y5]
   rfl
  obtain⟨v,avs,h1,h2,h3,_⟩:=dX (fn:=Tryz.f40) aU hr3 c9 hE
  refine⟨v,h1,v,_,_,_,β3,rfl,⟨fun i hi _=>hfr i hi,(hfr c hc).1,?_⟩,h3,hr3.obj,hr3.inj,?_⟩
  ·rw[h2]
   unfold Src.Ul
   rw[if_pos he]
  ·have hta:=hφ3.2.2
   exact⟨hta.size,hta.old,hta.keep,hta.os⟩
 rintro s3 β3 a3 ds3 w3 ⟨k3,k6,he⟩ hr3 hφ3
 obtain rfl:ds3=[]:=hφ3.2.1
 refine Cn (B:=100) (t:=20) (f:=73) (caps:=[.ptr 104 (nxC 4 (g 104)) 0,.ptr 105 (nxC 24 (g 105)) 0]) aU kX rfl rfl rfl (fun d h=>by cases h;simp[Tryz.ntmps40]) rfl rfl hr3 hφ3 (K:=fun s=>RdG src c g ob s∧s.f 6=.one (.d (cF (Src.qN src).1))) ?_ ?_
 ·obtain⟨f,g1,ob1⟩:=s3
  obtain⟨q0,q1,q4,q5,rfl,rfl⟩:=k3
  simp only at q0 q1 q4 q5 k6
  simp only[go_sem,q4,q5,k6]
  refine⟨?_,?_,?_,?_,rfl,rfl⟩ <;> (simp only[go_sem,q0,q1,q4,q5])
 rintro s4 β4 a4 w4 vs ⟨k4,k6⟩ hr4 hφ4 hcaps
 obtain⟨f4,g4,ob4⟩:=s4
 obtain⟨q0,q1,q4,q5,rfl,rfl⟩:=k4
 simp only at q0 q1 q4 q5 k6
 obtain⟨hl,hnum⟩:=Src.Gr (s:=src)
 unfold Kv Src.Ul
 rw[if_neg (by simp[he])]
 obtain⟨ts,hts⟩:∃ts,(Src.qN src).1=ts:=⟨_,rfl⟩
 rw[hts] at k6 hl hnum ⊢
 obtain⟨pr,hpr⟩:∃pr,jI ts (4*ts.length+7) 0=pr:=⟨_,rfl⟩
 rw[hpr]
 refine Cm (B:=100) aU mixed (qs (d:=[⟨.fn (.func 73) vs.toArray,#[]⟩])) (fun ch s=>(∃m,ch=tD (jC ts src.length m)∧(pr=.no m∨∃p,pr=.ok p m∧m<ts.length))∧RdE c g ob s)
  (fun e s=>e=.ret∧(∃p m,pr=.ok p m∧¬m<ts.length∧s.obj c=some (iS p))∧RdE c g ob s) c8 c8 hr4 ⟨rfl,Tr.refl⟩ ?_ ?_
 ·simp only[go_sem,q0,q1,q4,q5,k6]
  refine aL (f:=41) (caps:=[.ptr c (g c) 0]) qs rfl (by simp only[go_sem,q1]) (by simp only[go_sem];exact HP (k:=4*ts.length+7) (ts:=ts) (fin:=src.length) (c:=c) a6 hnum a6 hc (fun i hi=>by simp only[upd];(repeat rw[if_neg (by omega)]);exact hfree i (by omega)) (by simp[upd,rdC]) ⟨cx,cy,cz,by simp[upd,hc4,hc5,hc6,hoc]⟩ (by simp[upd]) (by simp[upd,hc4,hc5,hc6])) ?_ ?_
  ·rintro ch g' ob' ⟨rfl,m,hp,rfl,rfl⟩
   rw[hpr] at hp
   refine⟨⟨m,rfl,.inl hp⟩,?_⟩
   refine⟨by simp only[go_sem,q4],by simp only[go_sem,q5],by simp only[go_sem],by simp only[go_sem],by simp only[go_sem],by simp only[go_sem],by simp only[go_sem,hc4,hc5,hc6],fun i hi hic=>?_⟩
   simp only[upd]
   (repeat rw[if_neg (by omega)])
   exact⟨rfl,rfl⟩
  ·rintro _ g' ob' ⟨rfl,p,m,hp,rfl⟩
   rw[hpr] at hp
   have e5:(125=c)=False:=by simp;omega
   have e4:(104=c)=False:=by simp;omega
   have e6:(105=c)=False:=by simp;omega
   unfold rdC cF
   simp only[go_sem,e4,e5,e6]
   refine aM b9 ?_
   by_cases hm:m<ts.length
   ·have hmi:(m:Int)<(ts.length:Int):=a6
    simp only[go_sem,e4,e5,e6,hmi,j4]
    refine bN qs rfl (by simp only[go_sem];exact wj (n:=m) (ts:=ts) (fin:=src.length) (by simp[upd,e5,rdC,cF])) ?_ ?_
    case refine_2=>exact fun _ _ _ h=>h.elim
    rintro ch g' ob' ⟨rfl,rfl,rfl⟩
    refine⟨⟨m,rfl,.inr ⟨p,hp,hm⟩⟩,?_⟩
    exact Vo
   ·have hmi:¬(m:Int)<(ts.length:Int):=a6
    simp only[go_sem,e4,e5,e6,hmi,j4,q4,q5]
    refine⟨⟨p,m,hp,hm,by simp only[go_sem,hc4,hc5,hc6]⟩,?_⟩
    exact Vo
 rintro e s' β' a' ds' w' hend hr5 ⟨rfl,ht5⟩
 rcases hend with⟨rfl,⟨p,m,hp,hm,hcp⟩,z4,z5,e4,e5,o4,o5,gc,hF⟩|⟨ch,rfl,⟨m,rfl,hp⟩,z4,z5,e4,e5,o4,o5,gc,hF⟩
 ·show LeavesIn _ _ _ _ a'.tmps _ _ _ _
  refine zB (B:=200) (fnD:=Tryz.f73) aU mixed Tryz.func73 c9 c8 rfl rfl rfl rfl rfl rfl YA YA c9 c8 c8 (aU 20 rfl).desc hr5 (aE.keep ht5.keep _ hcaps) YA
   (K:=fun g' ob'=>g'=s'.gen∧ob'=s'.obj) ?_ ?_
  ·intro β0 s0 w0
   exact UO
  ·rintro _ _ β6 w6 ⟨rfl,rfl⟩ hr6 ht6
   have hE:jy Tt ⟨s'.f,s'.gen,s'.obj⟩ [.cell 4 3,.cell 5 23] (bx fun avs=>pack avs=.tup [iv .i64 0,iv .i64 0]):=by
    simp only[go_sem,z4,z5,e4,e5,o4,o5]
    rfl
   obtain⟨v,avs,h1,h2,h3,_⟩:=dX (fn:=Tryz.f40) aU hr6 c9 hE
   refine⟨v,h1,v,_,_,_,β6,rfl,⟨fun i hi hic=>hF i hi hic,gc,?_⟩,h3,hr6.obj,hr6.inj,?_⟩
   ·rw[hp]
    simp only[if_neg hm]
    exact⟨h2,hcp⟩
   ·exact Xk
 show LeavesIn _ _ _ _ a'.tmps _ _ _ _
 refine zx (B:=200) (fnD:=Tryz.f73) aU mixed Tryz.func73 c9 c8 rfl rfl rfl rfl rfl rfl YA YA c9 c8 c8 (aU 20 rfl).desc (t:=162) (u:=.agg #[.int .i64 (jC ts src.length m:Nat)]) hr5 (aE.keep ht5.keep _ hcaps) YA
  (K:=fun g' ob'=>g' 104=nxC 4 (g 104)∧g' 105=nxC 24 (g 105)∧ob' 104=some [.d (.int .i64 (jC ts src.length m:Nat))]∧ob' 105=some [.d (.int .i64 3)]∧g' c=g c∧∀i,i<100→i≠c→g' i=g i∧ob' i=ob i) ?_ ?_
 ·intro β0 s0 w0
  simp only[go_sem]
  refine vR (k:=bx _) aa rfl (aU 162 rfl).desc (kd:=.i64) (n:=(jC ts src.length m:Nat)) Xz ?_
  have hc203:(c=203)=False:=by simp;omega
  simp only[go_sem,e4,e5,o4,o5,jV,hc4,hc5,hc203,gc]
  intro i hi hic
  have h1:=(hF i a6 hic).1
  have h2:=(hF i a6 hic).2
  (repeat rw[if_neg (by omega)])
  exact⟨h1,h2⟩
 ·rintro g' ob' β6 w6 ⟨x4,x5,y4,y5,gc',hfr⟩ hr6 ht6
  have hE:jy Tt ⟨s'.f,g',ob'⟩ [.cell 4 3,.cell 5 23] (bx fun avs=>pack avs=.tup [iv .i64 (jC ts src.length m:Nat),iv .i64 3]):=by
   simp only[go_sem,z4,z5,x4,x5,y4,y5]
   rfl
  obtain⟨v,avs,h1,h2,h3,_⟩:=dX (fn:=Tryz.f40) aU hr6 c9 hE
  refine⟨v,h1,v,_,_,_,β6,rfl,⟨hfr,gc',?_⟩,h3,hr6.obj,hr6.inj,?_⟩
  ·rcases hp with hp|⟨p,hp,hm⟩
   ·rw[hp]
    exact h2
   ·rw[hp]
    simp only[if_pos hm]
    exact h2
  ·exact Xk
def wn:Src.Prog:=⟨[],[],[]⟩
def dq (src:Str):Src.Prog×Nat×Nat:=
 match Src.Ul src with
 |(.err e,k)=>(wn,k,e)
 |(.ok p,_)=>if Src.eJ p=true then(p,0,0) else(wn,0,2)
def wo (r:Src.Prog×Nat×Nat):AV:=.tup [de r.1,iv .i64 (r.2.1:Nat),iv .i64 (r.2.2:Nat)]
theorem ve{e k:Nat} (h:Src.Ul src=(.err e,k)):e≠0:=by
 unfold Src.Ul at h
 split at h
 ·cases h;assumption
 ·split at h
  ·split at h
   ·cases h;decide
   ·cases h
  ·cases h;decide
theorem ET{k:Nat} (h:Src.Ul src=(.ok p,k)):Src.szP p≤20001:=by
 unfold Src.Ul at h
 split at h
 ·cases h
 ·split at h
  ·rename_i hp
   split at h
   ·cases h
   ·cases h;exact Src.KB hp
  ·cases h
theorem wq (h:Src.szP p≤20001):szP p≤1000000000:=by
 have e:szP p=Src.szP p:=by
  unfold szP Src.szP Src.wQ
  show _+(p.funcs.map Src.szF).sum=_
  omega
 omega
theorem LX {o:cO} (ho:jM o) (src:Str):bW Tryz.prog 3 o 15 [sv src] (· = wo (dq src)):=by
 refine hdG Tryz.func15 rfl [.cell 2 30,.tmp 3,.tmp 4] fun b₀ β0 s0 w0 g=>?_
 simp only[go_sem]
 refine Cj aW (fun s β ds w h=>h.1) rfl (by simp only[go_sem];exact LW ho (c:=5) a8 (fun i hi=>by simp only[upd];(repeat rw[if_neg (by omega)])) ⟨_,_,_,by simp[upd];exact⟨rfl,rfl,rfl⟩⟩) ?_
 rintro r g1 ob1 ⟨f1,gc,h1⟩
 have e2:=(f1 2 a8 a8).1
 have o2:=(f1 2 a8 a8).2
 simp[upd] at e2 o2 gc
 unfold dq
 cases hR:Src.Ul src with
 |mk x k=>
 rw[hR] at h1
 cases x with
 |err e=>
   obtain rfl:=h1
   have he:¬(e:Int)=0:=by have:=ve hR;omega
   simp only[go_sem,e2,o2,he]
   exact Wa
 |ok p=>
   obtain⟨rfl,oc⟩:=h1
   unfold iS gY at oc
   have hrg:=Bx ho p (wq (ET hR))
   unfold de gY at hrg
   obtain⟨z,hz⟩:∃z,Src.eJ p=z:=⟨_,rfl⟩
   rw[hz] at hrg
   simp only[go_sem,e2,o2,gc,oc]
   refine cQ rfl (by simp only[go_sem];exact hrg) ?_
   rintro _ rfl
   cases z
   ·simp only[go_sem,e2,o2,gc,oc]
    refine⟨_,⟨_,⟨_,_,rfl,mu [.nsl,.nsl,.nsl],_,_,rfl,dv _,_,_,rfl,dv _,rfl⟩,rfl⟩,?_⟩
    simp only[hz]
    rfl
   ·simp only[go_sem,e2,o2,gc,oc]
    refine⟨_,⟨_,⟨_,_,rfl,mu (gY p),_,_,rfl,dv _,_,_,rfl,dv _,rfl⟩,rfl⟩,?_⟩
    simp only[hz]
    rfl
end
end
section
attribute [local congr] Go.Am.ite_cc
open Go Go.Am Go.Asm
open Go.Src (aS aj bE gp bp Ex szE bH inE tL)
theorem dH:aS []=false:=rfl
theorem yu (kind op num:Int) (name:Str) (kids:List Ex) (lv:Nat) (hlv0:lv≤25) (hK:lv≤24→aA Tryz.prog 135 [eM kids,iv .i64 (lv+1:Nat)] (· = bv (bp (lv+1) kids))):aA Tryz.prog 210 [exV (.mk kind op num name kids),iv .i64 lv] (· = bv (gp lv (.mk kind op num name kids))):=by
 refine hdP Tryz.func210 rfl [4] fun g=>?_
 have hE:exV (.mk kind op num name kids)=.agg [.d (.int .i64 kind),.d (.int .i64 op),.d (.int .u32 num),.d (.str name),.d (.sl (kids.map exD))]:=by simp only[exV,exD,aH,l6,v7]
 obtain⟨z,hz⟩:∃z,gp lv (.mk kind op num name kids)=z:=⟨_,rfl⟩
 rw[hz,hE]
 rw[gp] at hz
 by_cases hlv:(24:Int)<(lv:Int)
 ·obtain rfl:z=false:=by rw[←hz,x8 a6,x9]
  simp only[go_sem,hlv]
 have hle:lv≤24:=a6
 have hwl:=ae (k:=lv) a6
 have hK:=hK hle
 unfold eM at hK
 have hk:kind=1∨kind=2∨kind=3∨kind=4∨kind=5∨kind=6∨kind=7∨kind=8∨kind=9∨(¬kind=1∧¬kind=2∧¬kind=3∧¬kind=4∧¬kind=5∧¬kind=6∧¬kind=7∧¬kind=8∧¬kind=9):=a6
 rcases hk with rfl|rfl|rfl|rfl|rfl|rfl|rfl|rfl|rfl|⟨k1,k2,k3,k4,k5,k6,k7,k8,k9⟩
 ·-- 1
  by_cases hop:op=0
  case neg=>
   exact U2
  by_cases hnm:name=[]
  case neg=>
   obtain rfl:z=false:=by rw[←hz];simp[bE,aj,hnm]
   simp only[go_sem,hlv,hop,hnm]
  simp only[go_sem,hlv,hop,hnm]
  by_cases hkn:(kids.length:Int)=0
  ·obtain rfl:z=true:=by
    have:kids=[]:=v8 a6
    rw[←hz,this];simp[bE,aj,bp,hle,hnm,hop]
   simp only[go_sem,j4,hkn]
  ·exact VI
 ·-- 2
  by_cases hop:op=0
  case neg=>
   exact U2
  by_cases hnu:num=0
  case neg=>
   exact U8
  by_cases hnm:name=[]
  case pos=>
   exact Wd
  simp only[go_sem,hlv,hop,hnu,hnm]
  refine cP rfl Yd ?_
  rintro _ rfl
  cases hok:aS name
  ·exact WU
  by_cases hkn:(kids.length:Int)=0
  ·obtain rfl:z=true:=by
    have:kids=[]:=v8 a6
    rw[←hz,this];simp[bE,aj,bp,hle,hok,hnu,hop]
   simp only[go_sem,j4,hkn]
  ·exact VI
 ·-- 3
  by_cases hop:op=0
  case neg=>
   exact U2
  by_cases hnu:num=0
  case neg=>
   exact U8
  by_cases hnm:name=[]
  case pos=>
   exact Wd
  simp only[go_sem,hlv,hop,hnu,hnm]
  refine cP rfl Yd ?_
  rintro _ rfl
  cases hok:aS name
  ·exact WU
  by_cases hkn:(kids.length:Int)=1
  case neg=>
   exact WS
  simp only[go_sem,j4,hkn,hwl]
  refine cP rfl YC ?_
  rintro _ rfl
  obtain rfl:z=bp (lv+1) kids:=by
   have:kids.length=1:=a6
   rw[←hz];simp[bE,aj,hle,this,hok,hnu,hop]
  exact UO
 ·-- 4
  by_cases hop:op=0
  case neg=>
   exact U2
  by_cases hnu:num=0
  case neg=>
   exact U8
  by_cases hnm:name=[]
  case pos=>
   exact Wd
  simp only[go_sem,hlv,hop,hnu,hnm]
  refine cP rfl Yd ?_
  rintro _ rfl
  cases hok:aS name
  ·exact WU
  by_cases hkn:(kids.length:Int)≤6
  case neg=>
   obtain rfl:z=false:=by
    have:¬kids.length≤6:=a6
    rw[←hz];simp[bE,this]
   simp only[go_sem,j4,hkn]
  simp only[go_sem,j4,hkn,hwl]
  refine cP rfl YC ?_
  rintro _ rfl
  obtain rfl:z=bp (lv+1) kids:=by
   have:kids.length≤6:=a6
   rw[←hz];simp[bE,aj,hle,this,hok,hnu,hop]
  exact UO
 ·-- 5
  by_cases hop:op=0
  case neg=>
   exact U2
  by_cases hnu:num=0
  case neg=>
   exact U8
  by_cases hnm:name=[]
  case neg=>
   exact Xu
  simp only[go_sem,hlv,hop,hnu,hnm]
  by_cases hkn:(kids.length:Int)=0
  ·obtain rfl:z=true:=by
    have:kids=[]:=v8 a6
    rw[←hz,this];simp[bE,aj,bp,hle,hnm,hnu,hop]
   simp only[go_sem,j4,hkn]
  ·exact VI
 ·-- 6
  by_cases hnu:num=0
  case neg=>
   obtain rfl:z=false:=by rw[←hz];simp[bE,hnu]
   simp only[go_sem,hlv,hnu]
  by_cases hnm:name=[]
  case neg=>
   obtain rfl:z=false:=by rw[←hz];simp[bE,aj,hnm]
   simp only[go_sem,hlv,hnu,hnm]
  simp only[go_sem,hlv,hnu,hnm]
  by_cases h4:4≤op
  case neg=>
   obtain rfl:z=false:=by rw[←hz];simp[bE,h4]
   simp only[go_sem,j4,h4]
  by_cases h15:op≤15
  case neg=>
   obtain rfl:z=false:=by rw[←hz];simp[bE,h15]
   simp only[go_sem,j4,h4,h15]
  by_cases hkn:(kids.length:Int)=2
  case neg=>
   obtain rfl:z=false:=by
    have:¬kids.length=2:=a6
    rw[←hz];simp[bE,this]
   simp only[go_sem,j4,h4,h15,hkn]
  simp only[go_sem,j4,h4,h15,hkn,hwl]
  refine cP rfl YC ?_
  rintro _ rfl
  obtain rfl:z=bp (lv+1) kids:=by
   have:kids.length=2:=a6
   rw[←hz];simp[bE,aj,hle,this,hnm,hnu,h4,h15]
  exact UO
 ·-- 7
  by_cases hop:op=0
  case neg=>
   exact U2
  by_cases hnu:num=0
  case neg=>
   exact U8
  by_cases hnm:name=[]
  case neg=>
   exact Xu
  simp only[go_sem,hlv,hop,hnu,hnm]
  by_cases hkn:(kids.length:Int)=1
  case neg=>
   exact WS
  simp only[go_sem,j4,hkn,hwl]
  refine cP rfl YC ?_
  rintro _ rfl
  obtain rfl:z=bp (lv+1) kids:=by
   have:kids.length=1:=a6
   rw[←hz];simp[bE,aj,hle,this,hnm,hnu,hop]
  exact UO
 ·-- 8
  exact VJ
 ·-- 9
  exact VJ
 ·obtain rfl:z=false:=by rw[←hz];simp[bE,k1,k2,k3,k4,k5,k6,k7,k8,k9]
  by_cases hop:op=0
  case neg=>simp only[go_sem,hlv,k6,hop]
  by_cases hnu:num=0
  case neg=>simp only[go_sem,hlv,k6,hop,k1,hnu]
  by_cases hnm:name=[]
  case neg=>simp only[go_sem,hlv,k6,hop,k1,hnu,k2,k3,k4,hnm]
  simp only[go_sem,hlv,k6,hop,k1,hnu,k2,k3,k4,hnm,k5,k7,k8,k9]
theorem wH:∀(N:Nat) (l:List Ex) (lv:Nat),bH l≤N→l.length≤1000000000000000000→tL l→lv≤25→aA Tryz.prog 135 [eM l,iv .i64 lv] (· = bv (bp lv l)):=by
 intro N
 induction N using Nat.strongRecOn with
 |ind N ih=>
 intro l lv hN hl hin hlv
 refine hdP Tryz.func135 rfl [4] fun g=>?_
 obtain⟨z,hz⟩:∃z,bp lv l=z:=⟨_,rfl⟩
 rw[hz]
 rw[Src.yR] at hz
 unfold eM
 simp only[go_sem]
 refine my (fun k st=>(l.drop k).all (gp lv)=z∧st.f 0=.one (.d (.sl (l.map exD)))∧st.f 1=iv .i64 lv∧st.f 5=iv .i64 k) l.length ⟨hz,?_⟩ ?_
 ·exact UO
 rintro k f g1 ob1 hk ⟨hc,q0,q1,q5⟩
 simp only at q0 q1 q5
 have hw:=ae (k:=k) a6
 by_cases hlt:k<l.length
 case neg=>
  exact WG
 have hki:(k:Int)<(l.length:Int):=a6
 obtain⟨e,he⟩:=getq hlt
 obtain⟨h1,h2⟩:=ly hc he
 have hi:=Src.Fw hin he
 have hsz:=Src.Jf (l4 he)
 have hg:=getD_at (f:=exD) he
 have hel:=bY e
 obtain⟨kind,op,num,name,kids⟩:=e
 rw[szE] at hsz
 rw[inE] at hi
 have hE:=yu kind op num name kids lv hlv fun h=>ih (bH kids) a6 kids (lv+1) (j8 _) hi.1 hi.2 a6
 have hx:exD (.mk kind op num name kids)=[.int .i64 kind,.int .i64 op,.int .u32 num,.str name,.sl (kids.map exD)]:=by simp only[exD,aH]
 unfold exV at hE
 rw[hx] at hg hE
 simp only[l6,v7] at hE
 simp only[go_sem,q0,q1,q5,hki,j4,hg]
 refine cP rfl (by simp only[go_sem];exact hE) ?_
 rintro _ rfl
 cases hr:gp lv (.mk kind op num name kids)
 ·obtain rfl:=h2 hr
  exact UO
 ·simp only[go_sem,q5,hw]
  refine fu hlt ⟨h1 hr,?_⟩
  exact WL
end
section
attribute [local congr] Go.Am.ite_cc
open Go Go.Am Go.Asm
open Go.Src (aS aj cl bp fK bg Ex Stm szE bH szS bu inE tL inS tM)
theorem yv (kind:Int) (name:Str) (e:List Ex) (th el:List Stm) (lv:Nat) (hlv0:lv≤25) (hE:lv≤24→aA Tryz.prog 135 [eM e,iv .i64 (lv+1:Nat)] (· = bv (bp (lv+1) e)))
  (hT:lv≤24→aA Tryz.prog 53 [fQ th,iv .i64 (lv+1:Nat)] (· = bv (bg (lv+1) th))) (hL:lv≤24→aA Tryz.prog 53 [fQ el,iv .i64 (lv+1:Nat)] (· = bv (bg (lv+1) el))) :
  aA Tryz.prog 95 [smV (.mk kind name e th el),iv .i64 lv] (· = bv (fK lv (.mk kind name e th el))):=by
 refine hdP Tryz.func95 rfl [4] fun g=>?_
 have hS:smV (.mk kind name e th el)=.agg [.d (.int .i64 kind),.d (.str name),.d (.sl (e.map exD)),.d (.sl (th.map smD)),.d (.sl (el.map smD))]:=by simp only[smV,smD,aH,eg,l6,v7]
 obtain⟨z,hz⟩:∃z,fK lv (.mk kind name e th el)=z:=⟨_,rfl⟩
 rw[hz,hS]
 rw[fK] at hz
 by_cases hlv:(24:Int)<(lv:Int)
 ·obtain rfl:z=false:=by rw[←hz,x8 a6,x9,x9]
  simp only[go_sem,hlv]
 have hle:lv≤24:=a6
 have hwl:=ae (k:=lv) a6
 have hE:=hE hle
 have hT:=hT hle
 have hL:=hL hle
 unfold eM at hE
 unfold fQ at hT hL
 have hk:kind=1∨kind=2∨kind=3∨kind=4∨kind=5∨kind=6∨kind=7∨(¬kind=1∧¬kind=2∧¬kind=3∧¬kind=4∧¬kind=5∧¬kind=6∧¬kind=7):=a6
 rcases hk with rfl|rfl|rfl|rfl|rfl|rfl|rfl|⟨k1,k2,k3,k4,k5,k6,k7⟩
 case' inl=>
  by_cases hel:0<(el.length:Int)
  ·exact UG
  have he0:el=[]:=v8 a6
  by_cases hth:0<(th.length:Int)
  ·exact UN
  have ht0:th=[]:=v8 a6
  by_cases hnm:name=[]
  ·exact V9
  simp only[go_sem,j4,hlv,hel,hth,hnm]
  refine cP rfl Yd ?_
  rintro _ rfl
  cases hok:aS name
  ·exact WV
  by_cases hn:(e.length:Int)=1
  case neg=>
   exact Vp
  obtain rfl:z=(bp (lv+1) e&&(bg (lv+1) th&&bg (lv+1) el)):=by
   have:e.length=1:=a6
   rw[←hz];simp[cl,aj,hle,this,hok,he0,ht0]
  simp only[go_sem,j4,hn,hwl]
 case' inr.inl=>
  by_cases hel:0<(el.length:Int)
  ·exact UG
  have he0:el=[]:=v8 a6
  by_cases hth:0<(th.length:Int)
  ·exact UN
  have ht0:th=[]:=v8 a6
  by_cases hnm:name=[]
  ·exact V9
  simp only[go_sem,j4,hlv,hel,hth,hnm]
  refine cP rfl Yd ?_
  rintro _ rfl
  cases hok:aS name
  ·exact WV
  by_cases hn:(e.length:Int)=2
  case neg=>
   obtain rfl:z=false:=by
    have:¬e.length=2:=a6
    rw[←hz];simp[cl,this]
   simp only[go_sem,j4,hn]
  obtain rfl:z=(bp (lv+1) e&&(bg (lv+1) th&&bg (lv+1) el)):=by
   have:e.length=2:=a6
   rw[←hz];simp[cl,aj,hle,this,hok,he0,ht0]
  simp only[go_sem,j4,hn,hwl]
 case' inr.inr.inl=>
  by_cases hel:0<(el.length:Int)
  ·exact UG
  have he0:el=[]:=v8 a6
  by_cases hth:0<(th.length:Int)
  ·exact UN
  have ht0:th=[]:=v8 a6
  by_cases hnm:name=[]
  case neg=>
   exact Xl
  simp only[go_sem,j4,hlv,hel,hth,hnm]
  by_cases hn:(e.length:Int)=1
  case neg=>
   exact Vp
  obtain rfl:z=(bp (lv+1) e&&(bg (lv+1) th&&bg (lv+1) el)):=by
   have:e.length=1:=a6
   rw[←hz];simp[cl,aj,hle,this,hnm,he0,ht0]
  simp only[go_sem,j4,hn,hwl]
 case' inr.inr.inr.inl=>
  by_cases hnm:name=[]
  case neg=>
   obtain rfl:z=false:=by rw[←hz];simp[cl,aj,hnm]
   simp only[go_sem,j4,hlv,hnm]
  simp only[go_sem,j4,hlv,hnm]
  by_cases hn:(e.length:Int)=1
  case neg=>
   exact Vp
  obtain rfl:z=(bp (lv+1) e&&(bg (lv+1) th&&bg (lv+1) el)):=by
   have:e.length=1:=a6
   rw[←hz];simp[cl,aj,hle,this,hnm]
  simp only[go_sem,j4,hn,hwl]
 case' inr.inr.inr.inr.inl=>
  by_cases hel:0<(el.length:Int)
  ·exact UG
  have he0:el=[]:=v8 a6
  by_cases hnm:name=[]
  case neg=>
   obtain rfl:z=false:=by rw[←hz];simp[cl,aj,hnm]
   simp only[go_sem,j4,hlv,hel,hnm]
  simp only[go_sem,j4,hlv,hel,hnm]
  by_cases hn:(e.length:Int)=1
  case neg=>
   exact Vp
  obtain rfl:z=(bp (lv+1) e&&(bg (lv+1) th&&bg (lv+1) el)):=by
   have:e.length=1:=a6
   rw[←hz];simp[cl,aj,hle,this,hnm,he0]
  simp only[go_sem,j4,hn,hwl]
 case' inr.inr.inr.inr.inr.inl=>
  by_cases hel:0<(el.length:Int)
  ·exact UG
  have he0:el=[]:=v8 a6
  by_cases hth:0<(th.length:Int)
  ·exact UN
  have ht0:th=[]:=v8 a6
  by_cases hnm:name=[]
  ·exact V9
  simp only[go_sem,j4,hlv,hel,hth,hnm]
  refine cP rfl Yd ?_
  rintro _ rfl
  cases hok:aS name
  ·exact WV
  by_cases hn:(e.length:Int)≤6
  case neg=>
   obtain rfl:z=false:=by
    have:¬e.length≤6:=a6
    rw[←hz];simp[cl,this]
   simp only[go_sem,j4,hn]
  obtain rfl:z=(bp (lv+1) e&&(bg (lv+1) th&&bg (lv+1) el)):=by
   have:e.length≤6:=a6
   rw[←hz];simp[cl,aj,hle,this,hok,he0,ht0]
  simp only[go_sem,j4,hn,hwl]
 case' inr.inr.inr.inr.inr.inr.inl=>
  by_cases hel:0<(el.length:Int)
  ·exact UG
  have he0:el=[]:=v8 a6
  by_cases hth:0<(th.length:Int)
  ·exact UN
  have ht0:th=[]:=v8 a6
  by_cases hnm:name=[]
  case neg=>
   exact Xl
  simp only[go_sem,j4,hlv,hel,hth,hnm]
  by_cases hn:(e.length:Int)≤1
  case neg=>
   obtain rfl:z=false:=by
    have:¬e.length≤1:=a6
    rw[←hz];simp[cl,this]
   simp only[go_sem,j4,hn]
  obtain rfl:z=(bp (lv+1) e&&(bg (lv+1) th&&bg (lv+1) el)):=by
   have:e.length≤1:=a6
   rw[←hz];simp[cl,aj,hle,this,hnm,he0,ht0]
  simp only[go_sem,j4,hn,hwl]
 case inr.inr.inr.inr.inr.inr.inr=>
  obtain rfl:z=false:=by rw[←hz];simp[cl,k1,k2,k3,k4,k5,k6,k7]
  by_cases hel:0<(el.length:Int)
  ·simp only[go_sem,hlv,j4,k4,hel]
  by_cases hth:0<(th.length:Int)
  ·simp only[go_sem,hlv,j4,k4,hel,k5,hth]
  by_cases hnm:name=[]
  case neg=>simp only[go_sem,hlv,j4,k4,hel,k5,hth,k1,k2,k6,hnm]
  simp only[go_sem,hlv,j4,k4,hel,k5,hth,k1,k2,k6,hnm,k3,k7]
 all_goals refine cP rfl (by simp only[go_sem,hwl];exact hE) ?_
 all_goals rintro _ rfl
 all_goals cases bp (lv+1) e
 all_goals simp only[go_sem,hwl,x9,u7]
 all_goals refine cP rfl (by simp only[go_sem,hwl];exact hT) ?_
 all_goals rintro _ rfl
 all_goals cases bg (lv+1) th
 all_goals simp only[go_sem,hwl,x9,u7]
 all_goals refine cP rfl (by simp only[go_sem,hwl];exact hL) ?_
 all_goals rintro _ rfl
 all_goals simp only[go_sem,u7]
theorem wI:∀(N:Nat) (l:List Stm) (lv:Nat),bu l≤N→l.length≤1000000000000000000→tM l→lv≤25→aA Tryz.prog 53 [fQ l,iv .i64 lv] (· = bv (bg lv l)):=by
 intro N
 induction N using Nat.strongRecOn with
 |ind N ih=>
 intro l lv hN hl hin hlv
 refine hdP Tryz.func53 rfl [4] fun g=>?_
 obtain⟨z,hz⟩:∃z,bg lv l=z:=⟨_,rfl⟩
 rw[hz]
 rw[Src.yS] at hz
 unfold fQ
 simp only[go_sem]
 refine my (fun k st=>(l.drop k).all (fK lv)=z∧st.f 0=.one (.d (.sl (l.map smD)))∧st.f 1=iv .i64 lv∧st.f 5=iv .i64 k) l.length ⟨hz,?_⟩ ?_
 ·exact UO
 rintro k f g1 ob1 hk ⟨hc,q0,q1,q5⟩
 simp only at q0 q1 q5
 have hw:=ae (k:=k) a6
 by_cases hlt:k<l.length
 case neg=>
  exact WG
 have hki:(k:Int)<(l.length:Int):=a6
 obtain⟨s,he⟩:=getq hlt
 obtain⟨h1,h2⟩:=ly hc he
 have hi:=Src.Fx hin he
 have hsz:=Src.Jg (l4 he)
 have hg:=getD_at (f:=smD) he
 obtain⟨kind,name,e,th,el⟩:=s
 rw[szS] at hsz
 rw[inS] at hi
 have hS:=yv kind name e th el lv hlv (fun h=>wH (bH e) e (lv+1) (j8 _) hi.1.1 hi.1.2 a6) (fun h=>ih (bu th) a6 th (lv+1) (j8 _) hi.2.1.1 hi.2.1.2 a6) (fun h=>ih (bu el) a6 el (lv+1) (j8 _) hi.2.2.1 hi.2.2.2 a6)
 have hx:smD (.mk kind name e th el)=[.int .i64 kind,.str name,.sl (e.map exD),.sl (th.map smD),.sl (el.map smD)]:=by simp only[smD,aH,eg]
 unfold smV at hS
 rw[hx] at hg hS
 simp only[l6,v7] at hS
 simp only[go_sem,q0,q1,q5,hki,j4,hg]
 refine cP rfl Zd ?_
 rintro _ rfl
 cases hr:fK lv (.mk kind name e th el)
 ·obtain rfl:=h2 hr
  exact UO
 ·simp only[go_sem,q5,hw]
  refine fu hlt ⟨h1 hr,?_⟩
  exact WL
theorem FB (p:Src.Prog) (hp:Src.InP p):aA Tryz.prog 21 [de p] (· = bv (Src.eJ p)):=by
 refine hdP Tryz.func21 rfl [2] fun g=>?_
 obtain⟨z,hz⟩:∃z,Src.eJ p=z:=⟨_,rfl⟩
 rw[hz]
 obtain⟨pv,pa,pf,pfs⟩:=hp
 unfold Src.eJ at hz
 rw[Fy]
 have hn:=wG p.vars pv
 unfold mz at hn
 simp only[go_sem]
 refine cP rfl (by simp only[go_sem];exact hn) ?_
 rintro _ rfl
 cases hs:p.vars.all aS
 ·obtain rfl:z=false:=by rw[←hz,hs,B4,x9]
  exact UO
 by_cases h1:(p.funcs.length:Int)<1
 ·obtain rfl:z=false:=by rw[←hz,x8 a6,x9,x9]
  simp only[go_sem,j4,h1]
 by_cases h64:64<(p.funcs.length:Int)
 ·obtain rfl:z=false:=by rw[←hz,x8 a6,x9,x9]
  simp only[go_sem,j4,h1,h64]
 rw[hs,A6 a6,u7,u7] at hz
 obtain⟨ga,hga⟩:∃y,p.arrays.all Src.iu=y:=⟨_,rfl⟩
 rw[hga] at hz
 simp only[go_sem,j4,h1,h64]
 refine my (fun k st=>(p.arrays.drop k).all Src.iu=ga∧st.f 1=.one (.ptr 1 (st.gen 1) 0)∧st.obj 1=some [.d (.sl (p.vars.map fun s=>[.str s])),.d (.sl (p.arrays.map arD)),.d (.sl (p.funcs.map fnD))]∧st.f 3=iv .i64 k) p.arrays.length ⟨hga,?_⟩ ?_
 ·exact UO
 rintro k f g1 ob1 hk ⟨hc,q1,o1,q3⟩
 simp only at q1 o1 q3
 have hw:=ae (k:=k) a6
 by_cases hlt:k<p.arrays.length
 ·have hki:(k:Int)<(p.arrays.length:Int):=a6
  obtain⟨a,hs⟩:=getq hlt
  obtain⟨h1,h2⟩:=ly hc hs
  have hg:=getD_at (f:=arD) hs
  have hai:arD a=[.str a.1,.int .i64 a.2]:=rfl
  rw[hai] at hg
  have hra:Src.iu a=(aS a.1&&decide (1≤a.2)&&decide (a.2≤4096)):=rfl
  have hbad:Src.iu a=false→z=false:=fun e=>by rw[←hz,h2 e,x9]
  simp only[go_sem,q1,o1,q3,hki,j4,hg]
  refine cP rfl (by simp only[go_sem];exact iW a.1) ?_
  rintro _ rfl
  cases hok:aS a.1
  ·obtain rfl:=hbad (by rw[hra,hok];rfl)
   exact UO
  by_cases l1:a.2<1
  ·obtain rfl:=hbad (by rw[hra,x8 (show ¬1≤a.2 by omega),B4,x9])
   simp only[go_sem,q1,o1,q3,hg,l1]
  by_cases l2:4096<a.2
  ·obtain rfl:=hbad (by rw[hra,x8 (show ¬a.2≤4096 by omega),B4])
   simp only[go_sem,q1,o1,q3,hg,l1,l2]
  simp only[go_sem,q1,o1,q3,hg,l1,l2,hw]
  refine fu hlt ⟨h1 (by rw[hra,hok,A6 (show 1≤a.2 by omega),A6 (show a.2≤4096 by omega)];rfl),?_⟩
  simp only[go_sem,q1,o1]
 have hki:¬(k:Int)<(p.arrays.length:Int):=a6
 rw[A1 a6] at hc
 rw[show ga=true from hc.symm,u7] at hz
 clear hc hk hlt hga hw
 simp only[go_sem,q1,o1,q3,hki,j4]
 refine my (fun k st=>(p.funcs.drop k).all Src.fv=z∧st.f 1=.one (.ptr 1 (st.gen 1) 0)∧st.obj 1=some [.d (.sl (p.vars.map fun s=>[.str s])),.d (.sl (p.arrays.map arD)),.d (.sl (p.funcs.map fnD))]∧st.f 4=iv .i64 k) p.funcs.length ⟨hz,?_⟩ ?_
 ·simp only[go_sem,q1,o1]
 clear hki q1 o1 q3
 rintro k f g1 ob1 hk ⟨hc,q1,o1,q4⟩
 simp only at q1 o1 q4
 have hw:=ae (k:=k) a6
 by_cases hlt:k<p.funcs.length
 case neg=>
  have hki:¬(k:Int)<(p.funcs.length:Int):=a6
  rw[A1 a6] at hc
  obtain rfl:z=true:=hc.symm
  simp only[go_sem,q1,o1,q4,hki,j4]
 have hki:(k:Int)<(p.funcs.length:Int):=a6
 obtain⟨fn,hs⟩:=getq hlt
 obtain⟨g1,g2⟩:=ly hc hs
 have hg:=getD_at (f:=fnD) hs
 have hfi:fnD fn=[.str fn.name,.sl (fn.params.map fun s=>[.str s]),.sl (fn.locals.map fun s=>[.str s]),.bool fn.word,.sl (fn.body.map smD)]:=rfl
 rw[hfi] at hg
 obtain⟨⟨i1,i2⟩,i3,i4⟩:=pfs fn (l4 hs)
 have hrf:Src.fv fn=(aS fn.name&&decide (fn.params.length≤6)&&(fn.params.all aS&&fn.locals.all aS&&bg 1 fn.body)):=rfl
 rw[hrf] at g1 g2
 have hN1:=wG fn.params i1
 have hN2:=wG fn.locals i2
 have hSt:=wI (bu fn.body) fn.body 1 (j8 _) i3 i4 a8
 unfold mz at hN1 hN2
 unfold fQ at hSt
 simp only[go_sem,q1,o1,q4,hki,j4,hg]
 refine cP rfl (by simp only[go_sem];exact iW fn.name) ?_
 rintro _ rfl
 cases h1:aS fn.name
 ·obtain rfl:=g2 (by rw[h1];rfl)
  exact UO
 by_cases h6:6<(fn.params.length:Int)
 ·obtain rfl:=g2 (by rw[h1,x8 (show ¬fn.params.length≤6 by omega)];rfl)
  simp only[go_sem,j4,h6]
 rw[h1,A6 (show fn.params.length≤6 by omega),u7,u7] at g1 g2
 simp only[go_sem,j4,h6]
 refine cP rfl (by simp only[go_sem];exact hN1) ?_
 rintro _ rfl
 cases h2:fn.params.all aS
 ·obtain rfl:=g2 (by rw[h2];rfl)
  exact UO
 simp only[go_sem]
 refine cP rfl (by simp only[go_sem];exact hN2) ?_
 rintro _ rfl
 cases h3:fn.locals.all aS
 ·obtain rfl:=g2 (by rw[h2,h3];rfl)
  exact UO
 simp only[go_sem]
 refine cP rfl (by simp only[go_sem];exact hSt) ?_
 rintro _ rfl
 cases h4:bg 1 fn.body
 ·obtain rfl:=g2 (by rw[h2,h3,h4];rfl)
  exact UO
 ·simp only[go_sem,q4,hw]
  refine fu hlt ⟨g1 (by rw[h2,h3,h4];rfl),?_⟩
  simp only[go_sem,q1,o1]
end
end Go.Proofs.YthnomjfdcidgbaaGreatDoor

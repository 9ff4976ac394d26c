/- A part of the proof; no conditions. -/
import Derived.Test.YtgbcmokfgbmabaaGreatDoorRPart9
set_option linter.unusedSimpArgs false
set_option linter.unusedVariables false
set_option maxHeartbeats 64000000
set_option maxRecDepth 100000
namespace Go.Proofs.YtgbcmokfgbmabaaGreatDoorR
section
attribute [local congr] Go.Am.ite_cc
open Go Go.Am Go.Asm
open Go.Src (PR ma Ex Stm)
section
def ir (p:Src.Prog):List C:=(iq p).map .d
variable {src:Str}{g:Nat→Nat}{p:Src.Prog}
theorem Jh {ts:List Src.Tok}{fin c k gr gc:Nat}{ob:Obs} (hl:ts.length≤100000) (hnum:∀t∈ts,t.num≤4294967295) (hk:4*ts.length+7≤k) (hc:c<100) (hfree:∀i,200≤i→ob i=none) (ho:ob 125=some (rdC ts 0 fin)) (hoc:∃x y z,ob c=some [x,y,z]) (hgr:g 125=gr) (hgc:g c=gc) :
  ew Tryz.prog 76 [.one (.ptr 125 gr 0),jp (.ptr c gc 0)] g ob (fun _ g' ob'=>g'=g∧∃p m,ma ts k 0=.ok p m∧ob'=upd (upd ob 125 (some (rdC ts m fin))) c (some (ir p))) (NoR ts fin (ma ts k 0) g ob):=by
 obtain⟨x,y,z,hoc⟩:=hoc
 subst hgr hgc
 refine hdX 1000 Tryz.func76 rfl [] fun b₀ β0 s0 w0=>?_
 have hc5:(c=125)=False:=by simp;omega
 simp only[go_sem]
 refine CD aa rfl (by simp only[go_sem];exact Np hl hnum hk 200 g ob a6 hfree ho) ?_
 rintro _ g' ob' ⟨rfl,p,m,hp,rfl,rfl⟩
 unfold bO iq
 simp only[go_sem,jp,hc5,hoc]
 exact⟨_,ag.refl _,rfl,p,m,hp,rfl⟩
structure RdG (src:Str) (c:Nat) (g:Nat→Nat) (ob:Obs) (s:St):Prop where
 f0:s.f 0=sv src
 f1:s.f 1=.one (.clo 76 [.ptr c (g c) 0])
 f4:s.f 4=.one (.ptr 104 (nxC 4 (g 104)) 0)
 f5:s.f 5=.one (.ptr 105 (nxC 33 (g 105)) 0)
 gn:s.gen=upd (upd g 104 (nxC 4 (g 104))) 105 (nxC 33 (g 105))
 on:s.obj=upd (upd ob 104 (some [.d (.int .i64 0)])) 105 (some [.d (.int .i64 0)])
structure RdE (c:Nat) (g:Nat→Nat) (ob:Obs) (s:St):Prop where
 f4:s.f 4=.one (.ptr 104 (nxC 4 (g 104)) 0)
 f5:s.f 5=.one (.ptr 105 (nxC 33 (g 105)) 0)
 g4:s.gen 104=nxC 4 (g 104)
 g5:s.gen 105=nxC 33 (g 105)
 o4:s.obj 104=some [.d (.int .i64 0)]
 o5:s.obj 105=some [.d (.int .i64 0)]
 gc:s.gen c=g c
 fr:∀i,i<100→i≠c→s.gen i=g i∧s.obj i=ob i
def LH (src:Str) (c:Nat) (g:Nat→Nat) (ob:Obs) (r:AV) (g':Nat→Nat) (ob':Obs):Prop:=
 (∀i,i<100→i≠c→g' i=g i∧ob' i=ob i)∧g' c=g c∧
   match Src.Vl src with
   |(.ok p,_)=>r=.tup [iv .i64 0,iv .i64 0]∧ob' c=some (ir p)
   |(.err e,k)=>r=.tup [iv .i64 (k:Nat),iv .i64 (e:Nat)]
theorem Nr {o:cn} (ho:ji o){c:Nat}{ob:Obs} (hc:c<100) (hfree:∀i,100≤i→ob i=none) (hoc:∃x y z,ob c=some [x,y,z]) :
  Er Tryz.prog 3 o 75 [sv src,.one (.clo 76 [.ptr c (g c) 0])] g ob (LH src c g ob):=by
 obtain⟨cx,cy,cz,hoc⟩:=hoc
 have hc4:(c=104)=False:=by simp;omega
 have hc5:(c=105)=False:=by simp;omega
 have hc6:(c=125)=False:=by simp;omega
 refine⟨⟨_,Tryz.func75,c9,c8⟩,fun b₀ N β a fa w vs hgb hheld hr0 hv=>?_⟩
 refine jq (n:=0) (callsIn_of_wp_defers Tryz.func75 c9 trivial ?_)
 have hr:=my (N:=Tryz.f75.ntmps) (by simp[Tryz.ntmps75]) hr0 hv
 refine vb (B:=100) (ds:=[]) aP mixed kJ c8 c8 hr ⟨⟨hgb,hheld⟩,rfl,Tr.refl⟩ (K:=RdG src c g ob) ?_ ?_
 ·simp only[go_sem]
  exact⟨rfl,rfl,rfl,rfl,rfl,rfl⟩
 rintro s1 β1 a1 ds1 w1 k1 hr1 hφ1
 refine vb (B:=100) aP mixed kJ c8 c8 hr1 hφ1 (K:=fun s=>RdG src c g ob s∧s.f 6=.one (.d (iD (Src.qR src).1))∧s.f 7=iv .i64 ((Src.qR src).2.1:Nat)∧s.f 8=iv .i64 ((Src.qR src).2.2:Nat)) ?_ ?_
 ·obtain⟨f,g1,ob1⟩:=s1
  obtain⟨q0,q1,q4,q5,rfl,rfl⟩:=k1
  simp only at q0 q1 q4 q5
  simp only[go_sem,q0]
  refine oh kJ (fun s β ds w h=>h.1.2) rfl (by simp only[go_sem,q0];exact Se ho src) (by simp only[go_sem,q0];rfl) ?_
  rintro _ rfl
  unfold Sd
  simp only[go_sem]
  refine⟨?_,?_,?_,?_,rfl,rfl⟩ <;> (simp only[go_sem,q0,q1,q4,q5])
 rintro s2 β2 a2 ds2 w2 ⟨k2,k6,k7,k8⟩ hr2 hφ2
 refine zJ (B:=100) aP mixed kJ c8 c8 hr2 hφ2 (K:=fun s=>RdG src c g ob s∧s.f 6=.one (.d (iD (Src.qR src).1))∧(Src.qR src).2.2=0)
  (K2:=fun s=>(Src.qR src).2.2≠0∧s.f 4=.one (.ptr 104 (s.gen 104) 0)∧s.f 5=.one (.ptr 105 (s.gen 105) 0)∧s.obj 104=some [.d (.int .i64 ((Src.qR src).2.1:Nat))]∧s.obj 105=some [.d (.int .i64 ((Src.qR src).2.2:Nat))]∧∀i,i<100→s.gen i=g i∧s.obj i=ob i) ?_ ?_ ?_
 ·obtain⟨f,g1,ob1⟩:=s2
  obtain⟨q0,q1,q4,q5,rfl,rfl⟩:=k2
  simp only at q0 q1 q4 q5 k6 k7 k8
  by_cases he:(Src.qR src).2.2=0
  ·rw[he] at k8
   simp only[go_sem,k8,k6,he]
   refine .inl ⟨?_,?_,?_,?_,rfl,rfl⟩ <;> (simp only[go_sem,q0,q1,q4,q5])
  ·have he2:¬((Src.qR src).2.2:Int)=0:=a6
   simp only[go_sem,k8,k6,k7,he,he2,q4,q5]
   refine .inr fun i hi=>?_
   (repeat rw[if_neg (by omega)])
   exact⟨rfl,rfl⟩
 case refine_3=>
  rintro s3 β3 a3 ds3 w3 ⟨he,z4,z5,y4,y5,hfr⟩ hr3 hφ3
  obtain rfl:ds3=[]:=hφ3.2.1
  have hE:iT Tt s3 [.cell 4 3,.cell 5 32] (bx fun avs=>pack avs=.tup [iv .i64 ((Src.qR src).2.1:Nat),iv .i64 ((Src.qR src).2.2:Nat)]):=by
   obtain⟨f3,g3,ob3⟩:=s3
   simp only at z4 z5 y4 y5
   simp only[go_sem,z4,z5,y4,y5]
   rfl
  obtain⟨v,avs,h1,h2,h3,_⟩:=dA (fn:=Tryz.f75) aP hr3 c9 hE
  refine⟨v,h1,v,_,_,_,β3,rfl,⟨fun i hi _=>hfr i hi,(hfr c hc).1,?_⟩,h3,hr3.obj,hr3.inj,?_⟩
  ·rw[h2]
   unfold Src.Vl
   rw[if_pos he]
  ·have hta:=hφ3.2.2
   exact⟨hta.size,hta.old,hta.keep,hta.os⟩
 rintro s3 β3 a3 ds3 w3 ⟨k3,k6,he⟩ hr3 hφ3
 obtain rfl:ds3=[]:=hφ3.2.1
 refine CF (B:=100) (t:=20) (f:=116) (caps:=[.ptr 104 (nxC 4 (g 104)) 0,.ptr 105 (nxC 33 (g 105)) 0]) aP kJ rfl rfl rfl (fun d h=>by cases h;simp[Tryz.ntmps75]) rfl rfl hr3 hφ3 (K:=fun s=>RdG src c g ob s∧s.f 6=.one (.d (iD (Src.qR src).1))) ?_ ?_
 ·obtain⟨f,g1,ob1⟩:=s3
  obtain⟨q0,q1,q4,q5,rfl,rfl⟩:=k3
  simp only at q0 q1 q4 q5 k6
  simp only[go_sem,q4,q5,k6]
  refine⟨?_,?_,?_,?_,rfl,rfl⟩ <;> (simp only[go_sem,q0,q1,q4,q5])
 rintro s4 β4 a4 w4 vs ⟨k4,k6⟩ hr4 hφ4 hcaps
 obtain⟨f4,g4,ob4⟩:=s4
 obtain⟨q0,q1,q4,q5,rfl,rfl⟩:=k4
 simp only at q0 q1 q4 q5 k6
 obtain⟨hl,hnum⟩:=Src.Hs (s:=src)
 unfold LH Src.Vl
 rw[if_neg (by simp[he])]
 obtain⟨ts,hts⟩:∃ts,(Src.qR src).1=ts:=⟨_,rfl⟩
 rw[hts] at k6 hl hnum ⊢
 obtain⟨pr,hpr⟩:∃pr,ma ts (4*ts.length+7) 0=pr:=⟨_,rfl⟩
 rw[hpr]
 refine CE (B:=100) aP mixed (qi (d:=[⟨.fn (.func 116) vs.toArray,#[]⟩])) (fun ch s=>(∃m,ch=tQ (kN ts src.length m)∧(pr=.no m∨∃p,pr=.ok p m∧m<ts.length))∧RdE c g ob s)
  (fun e s=>e=.ret∧(∃p m,pr=.ok p m∧¬m<ts.length∧s.obj c=some (ir p))∧RdE c g ob s) c8 c8 hr4 ⟨rfl,Tr.refl⟩ ?_ ?_
 ·simp only[go_sem,q0,q1,q4,q5,k6]
  refine aI (f:=76) (caps:=[.ptr c (g c) 0]) qi rfl (by simp only[go_sem,q1]) (by simp only[go_sem];exact Jh (k:=4*ts.length+7) (ts:=ts) (fin:=src.length) (c:=c) a6 hnum a6 hc (fun i hi=>by simp only[upd];(repeat rw[if_neg (by omega)]);exact hfree i (by omega)) (by simp[upd,rdC]) ⟨cx,cy,cz,by simp[upd,hc4,hc5,hc6,hoc]⟩ (by simp[upd]) (by simp[upd,hc4,hc5,hc6])) ?_ ?_
  ·rintro ch g' ob' ⟨rfl,m,hp,rfl,rfl⟩
   rw[hpr] at hp
   refine⟨⟨m,rfl,.inl hp⟩,?_⟩
   refine⟨by simp only[go_sem,q4],by simp only[go_sem,q5],by simp only[go_sem],by simp only[go_sem],by simp only[go_sem],by simp only[go_sem],by simp only[go_sem,hc4,hc5,hc6],fun i hi hic=>?_⟩
   simp only[upd]
   (repeat rw[if_neg (by omega)])
   exact⟨rfl,rfl⟩
  ·rintro _ g' ob' ⟨rfl,p,m,hp,rfl⟩
   rw[hpr] at hp
   have e5:(125=c)=False:=by simp;omega
   have e4:(104=c)=False:=by simp;omega
   have e6:(105=c)=False:=by simp;omega
   unfold rdC iD
   simp only[go_sem,e4,e5,e6]
   refine aL b9 ?_
   by_cases hm:m<ts.length
   ·have hmi:(m:Int)<(ts.length:Int):=a6
    simp only[go_sem,e4,e5,e6,hmi,j4]
    refine bB qi rfl (by simp only[go_sem];exact wJ (n:=m) (ts:=ts) (fin:=src.length) (by simp[upd,e5,rdC,iD])) ?_ ?_
    case refine_2=>exact fun _ _ _ h=>h.elim
    rintro ch g' ob' ⟨rfl,rfl,rfl⟩
    refine⟨⟨m,rfl,.inr ⟨p,hp,hm⟩⟩,?_⟩
    exact Wm
   ·have hmi:¬(m:Int)<(ts.length:Int):=a6
    simp only[go_sem,e4,e5,e6,hmi,j4,q4,q5]
    refine⟨⟨p,m,hp,hm,by simp only[go_sem,hc4,hc5,hc6]⟩,?_⟩
    exact Wm
 rintro e s' β' a' ds' w' hend hr5 ⟨rfl,ht5⟩
 rcases hend with⟨rfl,⟨p,m,hp,hm,hcp⟩,z4,z5,e4,e5,o4,o5,gc,hF⟩|⟨ch,rfl,⟨m,rfl,hp⟩,z4,z5,e4,e5,o4,o5,gc,hF⟩
 ·show LeavesIn _ _ _ _ a'.tmps _ _ _ _
  refine zL (B:=200) (fnD:=Tryz.f116) aP mixed Tryz.func116 c9 c8 rfl rfl rfl rfl rfl rfl (by simp[Tryz.ntmps116]) (by simp[Tryz.ntmps116]) c9 c8 c8 (aP 20 rfl).desc hr5 (aA.keep ht5.keep _ hcaps) (by simp[Tryz.ntmps116])
   (K:=fun g' ob'=>g'=s'.gen∧ob'=s'.obj) ?_ ?_
  ·intro β0 s0 w0
   exact VE
  ·rintro _ _ β6 w6 ⟨rfl,rfl⟩ hr6 ht6
   have hE:iT Tt ⟨s'.f,s'.gen,s'.obj⟩ [.cell 4 3,.cell 5 32] (bx fun avs=>pack avs=.tup [iv .i64 0,iv .i64 0]):=by
    simp only[go_sem,z4,z5,e4,e5,o4,o5]
    rfl
   obtain⟨v,avs,h1,h2,h3,_⟩:=dA (fn:=Tryz.f75) aP hr6 c9 hE
   refine⟨v,h1,v,_,_,_,β6,rfl,⟨fun i hi hic=>hF i hi hic,gc,?_⟩,h3,hr6.obj,hr6.inj,?_⟩
   ·rw[hp]
    simp only[if_neg hm]
    exact⟨h2,hcp⟩
   ·exact Ye
 show LeavesIn _ _ _ _ a'.tmps _ _ _ _
 refine zH (B:=200) (fnD:=Tryz.f116) aP mixed Tryz.func116 c9 c8 rfl rfl rfl rfl rfl rfl (by simp[Tryz.ntmps116]) (by simp[Tryz.ntmps116]) c9 c8 c8 (aP 20 rfl).desc (t:=213) (u:=.agg #[.int .i64 (kN ts src.length m:Nat)]) hr5 (aA.keep ht5.keep _ hcaps) (by simp[Tryz.ntmps116])
  (K:=fun g' ob'=>g' 104=nxC 4 (g 104)∧g' 105=nxC 33 (g 105)∧ob' 104=some [.d (.int .i64 (kN ts src.length m:Nat))]∧ob' 105=some [.d (.int .i64 3)]∧g' c=g c∧∀i,i<100→i≠c→g' i=g i∧ob' i=ob i) ?_ ?_
 ·intro β0 s0 w0
  simp only[go_sem]
  refine wl (k:=bx _) aa rfl (aP 213 rfl).desc (kd:=.i64) (n:=(kN ts src.length m:Nat)) (by simp only[go_sem]) ?_
  have hc203:(c=203)=False:=by simp;omega
  simp only[go_sem,e4,e5,o4,o5,jp,hc4,hc5,hc203,gc]
  intro i hi hic
  have h1:=(hF i a6 hic).1
  have h2:=(hF i a6 hic).2
  (repeat rw[if_neg (by omega)])
  exact⟨h1,h2⟩
 ·rintro g' ob' β6 w6 ⟨x4,x5,y4,y5,gc',hfr⟩ hr6 ht6
  have hE:iT Tt ⟨s'.f,g',ob'⟩ [.cell 4 3,.cell 5 32] (bx fun avs=>pack avs=.tup [iv .i64 (kN ts src.length m:Nat),iv .i64 3]):=by
   simp only[go_sem,z4,z5,x4,x5,y4,y5]
   rfl
  obtain⟨v,avs,h1,h2,h3,_⟩:=dA (fn:=Tryz.f75) aP hr6 c9 hE
  refine⟨v,h1,v,_,_,_,β6,rfl,⟨hfr,gc',?_⟩,h3,hr6.obj,hr6.inj,?_⟩
  ·rcases hp with hp|⟨p,hp,hm⟩
   ·rw[hp]
    exact h2
   ·rw[hp]
    simp only[if_pos hm]
    exact h2
  ·exact Ye
def Gd:Src.Prog:=⟨[],[],[]⟩
def kv (src:Str):Src.Prog×Nat×Nat:=
 match Src.Vl src with
 |(.err e,k)=>(Gd,k,e)
 |(.ok p,_)=>if Src.dw p=true then(p,0,0) else(Gd,0,2)
def Ge (r:Src.Prog×Nat×Nat):AV:=.tup [bO r.1,iv .i64 (r.2.1:Nat),iv .i64 (r.2.2:Nat)]
theorem Dh{e k:Nat} (h:Src.Vl src=(.err e,k)):e≠0:=by
 unfold Src.Vl at h
 split at h
 ·cases h;assumption
 ·split at h
  ·split at h
   ·cases h;decide
   ·cases h
  ·cases h;decide
theorem Gf{k:Nat} (h:Src.Vl src=(.ok p,k)):Src.szP p≤20001:=by
 unfold Src.Vl at h
 split at h
 ·cases h
 ·split at h
  ·rename_i hp
   split at h
   ·cases h
   ·cases h;exact Src.LN hp
  ·cases h
theorem wM (h:Src.szP p≤20001):szP p≤1000000000:=by
 have e:szP p=Src.szP p:=by
  unfold szP Src.szP Src.zk
  show _+(p.funcs.map Src.szF).sum=_
  omega
 omega
theorem Ns {o:cn} (ho:ji o) (src:Str):bI Tryz.prog 3 o 37 [sv src] (· = Ge (kv src)):=by
 refine hdG Tryz.func37 rfl [.cell 2 26,.tmp 3,.tmp 4] fun b₀ β0 s0 w0 g=>?_
 simp only[go_sem]
 refine CB aN (fun s β ds w h=>h.1) rfl (by simp only[go_sem];exact Nr ho (c:=5) a8 (fun i hi=>by simp only[upd];(repeat rw[if_neg (by omega)])) ⟨_,_,_,by simp[upd];exact⟨rfl,rfl,rfl⟩⟩) ?_
 rintro r g1 ob1 ⟨f1,gc,h1⟩
 have e2:=(f1 2 a8 a8).1
 have o2:=(f1 2 a8 a8).2
 simp[upd] at e2 o2 gc
 unfold kv
 cases hR:Src.Vl src with
 |mk x k=>
 rw[hR] at h1
 cases x with
 |err e=>
   obtain rfl:=h1
   have he:¬(e:Int)=0:=by have:=Dh hR;omega
   simp only[go_sem,e2,o2,he]
   exact⟨_,⟨_,⟨_,_,rfl,pN [.nsl,.nsl,.nsl],_,_,rfl,jb _,_,_,rfl,jb _,rfl⟩,rfl⟩,rfl⟩
 |ok p=>
   obtain⟨rfl,oc⟩:=h1
   unfold ir iq at oc
   have hrg:=BS ho p (wM (Gf hR))
   unfold bO iq at hrg
   obtain⟨z,hz⟩:∃z,Src.dw p=z:=⟨_,rfl⟩
   rw[hz] at hrg
   simp only[go_sem,e2,o2,gc,oc]
   refine ck rfl (by simp only[go_sem];exact hrg) ?_
   rintro _ rfl
   cases z
   ·simp only[go_sem,e2,o2,gc,oc]
    refine⟨_,⟨_,⟨_,_,rfl,pN [.nsl,.nsl,.nsl],_,_,rfl,jb _,_,_,rfl,jb _,rfl⟩,rfl⟩,?_⟩
    simp only[hz]
    rfl
   ·simp only[go_sem,e2,o2,gc,oc]
    refine⟨_,⟨_,⟨_,_,rfl,pN (iq p),_,_,rfl,jb _,_,_,rfl,jb _,rfl⟩,rfl⟩,?_⟩
    simp only[hz]
    rfl
end
end
end Go.Proofs.YtgbcmokfgbmabaaGreatDoorR
namespace Go.Src
section
open Go.Asm (Str)
section
abbrev Th:=Str×Nat×Nat
def az:List Th→Str→Option (Nat×Nat)
 |[],_=>none
 |t::l,s=>if t.1=s then some t.2 else az l s
theorem kp (l m:List Th) (s:Str):az (l++m) s=match az l s with|some x=>some x|none=>az m s:=by
 induction l with
 |nil=>rfl
 |cons t l ih=>simp only[A2,az];split <;> simp_all
theorem eD:∀{l:List Th}{s:Str}{x:Nat×Nat},az l s=some x→(s,x)∈l
 |t::l,s,x,h=>by
   unfold az at h
   split at h
   ·rename_i e;cases h;subst e;simp
   ·exact P7 _ (eD h)
def bA:List Th→List Th→Bool
 |_,[]=>true
 |seen,t::l=>(az seen t.1).isNone&&bA (seen++[t]) l
theorem pX (t:Th):∀(l seen:List Th),bA seen (l++[t])=(bA seen l&&(az (seen++l) t.1).isNone)
 |[],seen=>by simp[bA]
 |x::l,seen=>by simp only[A2,bA,pX t l];rw[s5,I4,D7]
def thV (vs:List Str):List Th:=vs.mapIdx fun i n=>(n,2,i)
def thA (as_:List (Str×Int)):List Th:=as_.mapIdx fun i a=>(a.1,3,i)
def thF (fs:List Fn):List Th:=fs.mapIdx fun i f=>(f.name,4,i)
def aV (p:Prog):List Th:=thV p.vars++thA p.arrays++thF p.funcs
def thL (k:Nat) (ns:List Str):List Th:=ns.mapIdx fun i n=>(n,1,k+i)
def aW (f:Fn):List Th:=thL 0 f.params++thL f.params.length f.locals
def aU (o i:List Th) (s:Str):Option (Nat×Nat):=match az i s with|some x=>some x|none=>az o s
def bH (fnd:Str→Option (Nat×Nat)) (i:Nat) (kind:Nat) (name:Str):Bool:=
 match fnd name with
 |none=>false
 |some (k,n)=>if kind=2 then k == 1 || k == 2 else if kind=3 then k == 3 else k == 4 && decide (n<i)
def fu (fnd:Str→Option (Nat×Nat)) (fs:List Fn) (i:Nat) (kind:Nat) (name:Str) (args:Nat):Bool:=
 match fnd name with
 |none=>true
 |some (k,n)=>if kind=4∧k=4∧n<i then(match fs[n]? with|some f=>f.params.length == args|none=>true) else true
mutual
def okE (u:Nat→Str→Nat→Bool):Ex→Bool
 |.mk kind _ _ name kids=>(if kind=2 then u 2 name 0 else if kind=3 then u 3 name 0 else if kind=4 then u 4 name kids.length else true) && cZ u kids
def cZ (u:Nat→Str→Nat→Bool):List Ex→Bool
 |[]=>true
 |e::l=>okE u e&&cZ u l
end
mutual
def okS (u:Nat→Str→Nat→Bool):Stm→Bool
 |.mk kind name e th el=>(if kind=1 then u 2 name 0 else if kind=2 then u 3 name 0 else if kind=6 then u 4 name e.length else true) && cZ u e && dF u th && dF u el
def dF (u:Nat→Str→Nat→Bool):List Stm→Bool
 |[]=>true
 |s::l=>okS u s&&dF u l
end
def iP (p:Prog) (i:Nat) (f:Fn):Bool:=bA [] (aW f)&&dF (fun k n _=>bH (aU (aV p) (aW f)) i k n) f.body
def xb (p:Prog) (i:Nat) (f:Fn):Bool:=dF (fun k n a=>fu (aU (aV p) (aW f)) p.funcs i k n a) f.body
def bc {α:Type} (c:Nat→α→Bool):Nat→List α→Bool
 |_,[]=>true
 |i,a::l=>c i a&&bc c (i+1) l
theorem zm {α:Type} (c:Nat→α→Bool) (x:α):∀(l:List α) (i:Nat),bc c i (l++[x])=(bc c i l&&c (i+l.length) x)
 |[],i=>by simp[bc]
 |a::l,i=>by simp only[A2,bc,zm c x l,j6,D7];rw[show i+1+l.length=i+(l.length+1) by omega]
def LO:Str:=[109,97,105,110]
def iy (p:Prog):Nat:=
 if (bA [] (aV p) && bc (iP p) 0 p.funcs)=false then 4
 else match p.funcs.getLast? with
  |none=>0
  |some f=>if bc (xb p) 0 p.funcs=true∧f.name=LO∧f.params=[]∧f.word=false then 0 else 1
variable {s:Str}{k n:Nat}{fs:List Str}
theorem Ht {fs:List Fn} (h:(s,k,n)∈thF fs):k=4∧n<fs.length:=by
 simp only[thF,I7] at h
 obtain⟨i,hi,e⟩:=h
 cases e
 exact⟨rfl,hi⟩
theorem So (h:(s,k,n)∈thV fs):k=2:=by
 simp only[thV,I7] at h
 obtain⟨i,hi,e⟩:=h
 cases e
 rfl
theorem Sq {fs:List (Str×Int)} (h:(s,k,n)∈thA fs):k=3:=by
 simp only[thA,I7] at h
 obtain⟨i,hi,e⟩:=h
 cases e
 rfl
theorem Cm {j:Nat} (h:(s,k,n)∈thL j fs):k=1∧n<j+fs.length:=by
 simp only[thL,I7] at h
 obtain⟨i,hi,e⟩:=h
 cases e
 exact⟨rfl,a6⟩
theorem Pk {p:Prog}{f:Fn}{n:Nat} (h:aU (aV p) (aW f) s=some (4,n)):n<p.funcs.length:=by
 unfold aU at h
 split at h
 ·rename_i hf
  cases h
  have:=eD hf
  unfold aW at this
  rcases B9.1 this with h|h
  ·exact absurd (Cm h).1 a8
  ·exact absurd (Cm h).1 a8
 ·have:=eD h
  unfold aV at this
  rcases B9.1 this with h|h
  ·rcases B9.1 h with h|h
   ·exact absurd (So h) a8
   ·exact absurd (Sq h) a8
  ·exact(Ht h).2
end
end
end Go.Src

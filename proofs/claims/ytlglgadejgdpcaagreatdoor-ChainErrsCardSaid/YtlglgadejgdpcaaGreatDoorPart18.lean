/- A part of the proof; no conditions. -/
import Derived.Test.YtlglgadejgdpcaaGreatDoorPart17
import Derived.WalkKit
import Derived.Lib.Builder
set_option linter.unusedSimpArgs false
set_option linter.unusedVariables false
set_option maxHeartbeats 64000000
set_option maxRecDepth 100000
namespace Go.Proofs.YtlglgadejgdpcaaGreatDoor.Low
section
attribute [local congr] Go.Am.ite_cc
open Go Go.Am Go.Lower
section
theorem wi {s:St}{cs:List D} (h:cs.all (fun x=>match x with|.nsl=>false|_=>true)=true):kc s (.agg (cs.map .d)) (.agg (cs.map .d)):=by
 refine⟨cs,a8,fun i c hc=>?_,rfl⟩
 rw[x7] at hc
 cases hq:cs[i]? with
 |none=>rw[hq] at hc;cases hc
 |some x=>
   rw[hq] at hc
   cases hc
   refine⟨x,rfl,?_⟩
   have:=s7.1 h x (l8 hq)
   have hn:fg x=x:=by cases x <;> simp_all[fg]
   have h2:=Frz.d (s:=s) x
   rwa [hn] at h2
theorem CS (n k:Nat) (h:k<n):(List.replicate k (-1:Int)++List.replicate (n-k) 0).set k (-1)=List.replicate (k+1) (-1)++List.replicate (n-(k+1)) 0:=by
 rw[J3 _ _ a8,H9,M4]
 obtain⟨m,hm⟩:∃m,n-k=m+1:=⟨n-k-1,a7⟩
 rw[hm,show n-(k+1)=m by omega,D9,F9,List.replicate_succ' (n:=k),s6]
 rfl
variable {T:Nat→Option Int}{word:Bool}
theorem AA{n:Nat} (hn:0<n) (hT:T 0=some 0):Inv T n ((List.replicate n (-1:Int)).set 0 0) [0]∧left ((List.replicate n (-1:Int)).set 0 0)+1=n∧(∀v∈(List.replicate n (-1:Int)).set 0 0,v≤0):=by
 obtain⟨m,rfl⟩:∃m,n=m+1:=⟨n-1,a7⟩
 rw[D9,F9]
 refine⟨⟨a8,fun k v h=>?_,fun a ha=>?_⟩,?_,fun v hv=>?_⟩
 ·cases k with
  |zero=>simp at h;subst h;exact .inr ⟨hT,F3 _⟩
  |succ k=>rw[s9,N9] at h;split at h <;> simp at h;exact .inl h.symm
 ·obtain rfl:a=0:=by simpa using ha
  exact⟨0,rfl,hT,F3 _⟩
 ·unfold left
  rw[RB,RM]
  simp
 ·rcases x8.1 hv with rfl|h
  ·exact F3 _
  ·have:=G9 h;omega
theorem lU {α:Type} (n:Nat) (x:α):(List.replicate n [x]).flatten=List.replicate n x:=by
 induction n with
 |zero=>rfl
 |succ n ih=>rw[D9,G6,ih,D9];rfl
theorem wj (x:Ins):(aZ x).length=4:=rfl
def nI (l:List Nat):List Int:=l.map fun k:Nat=>(k:Int)
theorem wk {α:Type} (l:List α):l=[]∨∃l' a,l=l'++[a]:=by
 by_cases h:l=[]
 ·exact .inl h
 ·exact .inr ⟨l.dropLast,l.getLast h,(L5 h).symm⟩
structure Mid (T:Nat→Option Int) (n:Nat) (out:List Int) (todo:List Nat):Prop where
 inv:Inv T n out todo
 le:∀v∈out,v+left out≤n
theorem Mid.popL{n:Nat}{out:List Int}{a:Nat}{todo:List Nat} (h:Mid T n out (todo++[a])):Mid T n out todo∧∃v,out[a]? = some v∧T a=some v∧0≤v∧v+left out≤n:=by
 obtain⟨v,h1,h2,h3⟩:=h.inv.2.2 a a8
 exact⟨⟨⟨h.inv.1,h.inv.2.1,fun b hb=>h.inv.2.2 b (by simp[hb])⟩,h.le⟩,v,h1,h2,h3,h.le v (l8 h1)⟩
theorem Mid.find {T:Nat→Option Int}{n k:Nat}{out:List Int}{todo:List Nat}{deep v d:Int} (h:Mid T n out todo) (hT:T k=some deep) (h0:0≤deep) (hv:out[k]? = some v) (hn:v<0) (hd:deep≤d+1) (hdl:d+left out≤n) :
  Mid T n (out.set k deep) (todo++[k])∧left (out.set k deep)+(todo++[k]).length=left out+todo.length∧d+left (out.set k deep)≤n:=by
 obtain⟨h1,h2⟩:=h.inv.find hT h0 hv hn
 have hc:=jN hv hn h0
 refine⟨⟨h1,fun u hu=>?_⟩,h2,a7⟩
 rcases M9 hu with hu|rfl
 ·have:=h.le u hu;omega
 ·omega
theorem CT {ps:Sig}{c:Lower.Code} (h:Lower.Good ps word T 0 c) {i:Nat}{x:Ins}{d:Int} (hi:c[i]? = some (x,d)):OkI ps word T i x d:=by
 have:=gw h hi
 rwa [C9] at this
theorem Gi {ps:Sig}{x:Ins}{t p:Int} (h:takes ps word x=some (t,p)):0≤p∧p≤1:=by
 rcases wh h with h1|h1|h1|h1|h1|h1|h1|h1|h1|h1|h1|h1|h1
 all_goals try (obtain⟨rfl,rfl⟩:_=t∧_=p:=by simpa[takes,h1] using h)
 all_goals try (exact⟨by decide,by decide⟩)
 ·simp only[takes,h1] at h
  simp at h
  obtain⟨_,a,⟨_,_,hb⟩|⟨_,_,hb⟩⟩:=h <;> omega
 ·cases word <;> simp[takes,h1] at h <;> omega
theorem CU {w:Int}{fs:List Src.CFn}{f:Nat}{fx:Src.CFn} (hf:fs[f]? = some fx) {cd:Lower.Code} (hcd:codeOf fx.word fx.body=cd) (hl:cd.length≤100000000) (hT:∀k,T k=(cd[k]?).map Prod.snd) (h0:T 0=some 0) (hg:Lower.Good (Gh fs) fx.word T 0 cd) :
  ba Tryz.prog 88 [gu w fs,iv .i64 f] (fun r=>(Inv T cd.length (Emit.ke cd) []∧∀v∈Emit.ke cd,v≤cd.length)∧r=.tup [.one (.d (ksD (Emit.ke cd))),bv true]):=by
 refine bh ae mixed Tryz.func88 rfl b9 [4,5] rfl c9 (by simp[Tryz.ntmps88]) fun g=>?_
 have hfl:f<fs.length:=(l5.1 hf).1
 have hfl':¬fs.length≤f:=a7
 have hn:0<cd.length:=by
  cases hq:cd with
  |nil=>rw[hT] at h0;simp[hq] at h0
  |cons=>simp
 have hn0:¬(cd.length:Int)=0:=a7
 have hf0:¬(f:Int)<0:=a7
 have hfi1:¬(fs.length:Int)≤(f:Int):=a7
 have hfi2:(f:Int)<(fs.length:Int):=a7
 have hfi0:(0:Int)≤(f:Int):=a7
 have hTl:∀k v,T k=some v→k<cd.length:=fun k v h=>by
  rw[hT] at h
  cases hq:cd[k]? with
  |none=>rw[hq] at h;cases h
  |some=>exact(l5.1 hq).1
 unfold gu
 simp only[go_sem,hf,hfl,hfl',hf0,hfi0,hfi1,hfi2,hn0,sfD,hcd,j6]
 refine⟨l4 _,a7,a7,?_⟩
 refine dN (fun n s=>∃k:Nat,n+k=cd.length∧s.f 1=iv .i64 f∧s.f 2=.one (.ptr 2 (s.gen 2) 0)∧s.f 6=.one (.d (qm cd))∧s.f 7=.one (.osl 42 (s.gen 42) 1 0 cd.length)∧s.f 44=iv .i64 cd.length∧s.f 45=iv .i64 k∧
  s.obj 2=some [.d (.int .i64 w),.d (.sl (fs.map sfD))]∧s.obj 42=some (icells (List.replicate k (-1)++List.replicate (cd.length-k) 0))∧∀j,200≤j→s.obj j=none) cd.length ?_ ?_
 ·refine⟨0,rfl,?_⟩
  simp only[go_sem]
  refine⟨?_,fun j hj=>nu⟩
  rw[lU,icells,A2,N8,N8,N1,x9]
 clear g
 rintro n g gn ob ⟨k,hk,f1,f2,f6,f7,f44,f45,o2,o42,hfr⟩
 simp only at f1 f2 f6 f7 f44 f45 o2 o42 hfr
 have hw:=am (k:=k) a7
 have hil:(icells (List.replicate k (-1)++List.replicate (cd.length-k) 0)).length=cd.length:=by rw[bK,j5,H9,H9];omega
 by_cases hlt:k<cd.length
 ·have hki:(k:Int)<(cd.length:Int):=a7
  have hk0:(0:Int)≤(k:Int):=a7
  simp only[go_sem,f1,f2,f6,f7,f44,f45,o2,o42,hki,hk0,hlt,hil,hw]
  refine⟨a7,?_⟩
  refine cI (n-1) a7 ⟨k+1,a7,?_⟩
  simp only[go_sem,f1,f2,f6,f7,f44,o2,o42,hw,setAt]
  exact⟨by rw[fK,CS cd.length k hlt],fun j hj=>nt (hfr j hj)⟩
 have hkk:k=cd.length:=a7
 subst hkk
 have hki:¬(cd.length:Int)<(cd.length:Int):=a7
 rw[M4,N1,n0] at o42
 simp only[go_sem,f1,f2,f6,f7,f44,f45,o2,o42,hki,bK,H9,hn]
 refine⟨a7,a7,?_⟩
 refine yA _ (cl (t:=9) (o:=9) (b:=200) (j:=0) (sz:=1) (off:=0) (cells:=[.d .nsl]) (by simp only[go_sem]) (by simp only[go_sem]) rfl c8) ?_
 simp only[St.claimAt]
 refine ei rfl (by simp only[go_sem];exact(CR (B:=300) (T:=9) (D:=200) (l:=[]) (x:=0) (fun j hj=>nt (hfr j a7)) c8 c8 c8 ⟨by simp[upd],[],by simp[upd,icells]⟩ (by simp[upd]) a8).toR) ?_
 rintro _ g2 ob2 ⟨pl,q1,q2⟩
 have e2:=q1 2 c8
 have e42:=q1 42 c8
 have e9:=q1 9 c8
 have p2:=q2 2 c8 c8
 have p42:=q2 42 c8 c8
 simp[upd] at e2 e42 e9 p2 p42
 have hfr2:∀j,300≤j→ob2 j=none:=fun j hj=>by rw[q2 j a7 a7];exact nt (hfr j a7)
 obtain⟨s1,s2,s3⟩:=AA (T:=T) hn h0
 simp only[go_sem]
 refine dN (fun m s=>∃(out:List Int) (todo:List Nat),m=left out+todo.length∧m≤cd.length∧Mid T cd.length out todo∧Emit.search cd (left out+todo.length) (out,todo)=Emit.ke cd∧s.f 1=iv .i64 f∧s.f 2=.one (.ptr 2 (s.gen 2) 0)∧s.f 6=.one (.d (qm cd))∧s.f 7=.one (.osl 42 (s.gen 42) 1 0 cd.length)∧s.f 9=.one (.ptr 9 (s.gen 9) 0)∧s.obj 2=some [.d (.int .i64 w),.d (.sl (fs.map sfD))]∧s.obj 42=some (icells out)∧pU 9 200 (nI todo) s.gen s.obj∧(∀j,300≤j→s.obj j=none)) cd.length ?_ ?_
 ·refine⟨(List.replicate cd.length (-1)).set 0 0,[0],by rw[j7,j8];exact s2.symm,l4 _,⟨s1,fun v hv=>by have:=s3 v hv;omega⟩,by rw[j7,j8,s2];rfl,?_⟩
  simp only[go_sem,f1,f2,f6,f7,e2,e42,e9,p2,p42,o2]
  exact⟨fK _ _ _,pl,hfr2⟩
 clear f1 f2 f6 f7 f44 f45 o2 o42 hk hlt hw s1 s2 s3 hfr hfr2 e2 e42 e9 p2 p42 pl q1 q2 hil hki
 clear n g gn ob g2 ob2
 rintro n g gn ob ⟨out,todo,hm,hmn,hmid,hse,f1,f2,f6,f7,f9,o2,o42,pl,hfr⟩
 simp only at f1 f2 f6 f7 f9 o2 o42 pl hfr
 have hnl:(nI todo).length=todo.length:=by simp[nI]
 simp only[go_sem,f9]
 refine ei rfl (by simp only[go_sem,f9];exact(JJ (B:=300) (T:=9) (D:=200) (l:=nI todo) hfr c8 pl rfl).toR) ?_
 rintro _ g2 ob2 ⟨rfl,rfl,rfl⟩
 rw[hnl]
 rcases wk todo with rfl|⟨todo,a,rfl⟩
 ·rw[Emit.xI] at hse
  subst hse
  simp only[go_sem,f7,j8]
  refine⟨_,⟨_,cZ (s:=⟨_,_,_⟩) rfl (Emit.ke cd) (fun k=>[.int .i64 k]) o42 ?_ (fun _ _ y hy=>by simp at hy;subst hy;rfl) (fun _ _=>rfl) hmid.inv.1,rfl⟩,⟨hmid.inv,fun v hv=>by have:=hmid.le v hv;omega⟩,rfl⟩
  simp only[icells,l7,v7]
  clear o42 hmid hm
  generalize Emit.ke cd=out
  induction out with
  |nil=>rfl
  |cons b out ih=>rw[l7,B4,ih];rfl
 obtain⟨hmid',v,hv,hTa,hv0,hvn⟩:=hmid.popL
 have hal:=hTl a v hTa
 have hTa':=hTa
 rw[hT] at hTa'
 obtain⟨⟨x,v'⟩,hx,hxv⟩:=H6.1 hTa'
 obtain rfl:v'=v:=hxv
 obtain⟨t,p,htk,ht0,htv,hret,hnx⟩:=CT hg hx
 have hpos:(0:Int)<((todo.length+1:Nat):Int):=a7
 have hcn:nI (todo++[a])=nI todo++[(a:Int)]:=by simp[nI]
 rw[hcn] at pl
 have hll:(todo++[a]).length=todo.length+1:=a8
 rw[hll]
 have htl:todo.length≤1000000000:=by rw[hll] at hm;omega
 have hse2:Emit.search cd (n-1) (Emit.visit cd ((next x a).drop 0) (out,todo))=Emit.ke cd:=by
  rw[hll,←B6,Emit.vF cd _ out todo a hx] at hse
  rw[hm,hll]
  exact hse
 have hnl2:(nI todo).length=todo.length:=by simp[nI]
 simp only[go_sem,hpos,f9]
 refine ei rfl (by simp only[go_sem,f9];exact(Oe (B:=300) (T:=9) (D:=200) (l:=nI todo) (x:=(a:Int)) hfr c8 c8 c8 pl rfl a7).toR) ?_
 rintro _ g3 ob3 ⟨rfl,pl3,rfl,q3⟩
 have p2:=q3 2 c8
 have p42:=q3 42 c8
 rw[o2] at p2
 rw[o42] at p42
 have hfr3:∀j,300≤j→ob3 j=none:=fun j hj=>by rw[q3 j a7];exact hfr j hj
 simp only[go_sem]
 refine mV ae mixed j0 ?_
 have hol:=hmid.inv.1
 have ha0:(0:Int)≤(a:Int):=a7
 have ha1:(a:Int)<(cd.length:Int):=a7
 have hao:a<out.length:=a7
 simp only[go_sem,f1,f2,f6,f7,p2,p42,hal,hx,ha0,ha1,j6,wj,hv,fJ,bK,hol]
 have hvb:v'≤1000000000:=a7
 refine mX rfl (CQ hf htk ht0 htv hvb hret) ⟨_,_,rfl,wi (cs:=[.int .i64 w,.sl (fs.map sfD)]) rfl,_,_,rfl,⟨_,.d _,rfl⟩,_,_,rfl,wi (cs:=aZ x) rfl,_,_,rfl,⟨_,.d _,rfl⟩,rfl⟩ rfl ?_
 have hp:=Gi htk
 obtain⟨dp,hdp⟩:∃q:Int,(if x.op=11 then 0 else v'-t+p)=q:=⟨_,rfl⟩
 rw[hdp]
 have hnx2:∀y∈next x a,∃k':Nat,y=(k':Int)∧T k'=some dp∧0≤dp∧dp≤v'+1:=fun y hy=>by
  obtain⟨k',h1,h2⟩:=hnx y hy
  have h11:¬x.op=11:=by
   intro e
   unfold next at hy
   rw[if_neg a7,if_neg a7,if_pos e] at hy
   cases hy
  rw[if_neg h11] at hdp
  exact⟨k',h1,by rw[h2,hdp],a7,a7⟩
 simp only[go_sem,f1,f2,f6,f7,p2,p42,hal,hx,ha0,ha1,j6,wj]
 refine aY rfl (JI (at':=a) (x:=x) a7) b9 ?_
 rintro _ rfl
 simp only[go_sem,j6,ksD]
 refine dN (fun m s=>∃(out:List Int) (todo:List Nat) (j:Nat),m+j=(next x a).length∧left out+todo.length+1=n∧Mid T cd.length out todo∧Emit.search cd (n-1) (Emit.visit cd ((next x a).drop j) (out,todo))=Emit.ke cd∧v'+left out≤cd.length∧s.f 11=iv .i64 dp∧s.f 79=.one (.d (ksD (next x a)))∧s.f 80=iv .i64 (next x a).length∧s.f 81=iv .i64 j∧s.f 1=iv .i64 f∧s.f 2=.one (.ptr 2 (s.gen 2) 0)∧s.f 6=.one (.d (qm cd))∧s.f 7=.one (.osl 42 (s.gen 42) 1 0 cd.length)∧s.f 9=.one (.ptr 9 (s.gen 9) 0)∧s.obj 2=some [.d (.int .i64 w),.d (.sl (fs.map sfD))]∧s.obj 42=some (icells out)∧pU 9 200 (nI todo) s.gen s.obj∧(∀j,300≤j→s.obj j=none)) (next x a).length ?_ ?_
 ·refine⟨out,todo,0,rfl,by rw[hm,hll];omega,hmid',hse2,hvn,?_⟩
  simp only[go_sem,f1,f2,f6,f7,f9,p2,p42,ksD]
  exact⟨pl3,hfr3⟩
 clear f1 f2 f6 f7 f9 o2 o42 pl pl3 p2 p42 q3 hfr hfr3 hm hmid hmid' hse hse2 hv hvn hol hao hll hcn hnl hnl2 htl hpos hvb
 clear g g3 ob2 ob3 out todo
 rintro m g gn ob ⟨out,todo,j,hj,hm,hmid,hse,hvn,f11,f79,f80,f81,f1,f2,f6,f7,f9,o2,o42,pl,hfr⟩
 simp only at f11 f79 f80 f81 f1 f2 f6 f7 f9 o2 o42 pl hfr
 have hol:=hmid.inv.1
 have hjl:(next x a).length≤2:=by
  unfold next
  by_cases e1:x.op=8
  ·simp[e1]
  ·by_cases e2:x.op=9
   ·simp[e2]
   ·by_cases e3:x.op=11 <;> simp[e1,e2,e3]
 have hwj:=am (k:=j) a7
 by_cases hlt:j<(next x a).length
 case neg=>
  have hji:¬(j:Int)<((next x a).length:Int):=a7
  simp only[go_sem,f79,f80,f81,hji,ksD]
  refine cI (n-1) a7 ⟨out,todo,a7,a7,hmid,?_,?_⟩
  ·rw[E8 a7] at hse
   rw[show left out+todo.length=n-1 by omega]
   exact hse
  simp only[go_sem,f1,f2,f6,f7,f9,o2,o42]
  exact⟨pl,hfr⟩
 have hji:(j:Int)<((next x a).length:Int):=a7
 have hj0:(0:Int)≤(j:Int):=a7
 obtain⟨y,hy⟩:=getq hlt
 obtain⟨k,rfl,hTk,hdp0,hdp1⟩:=hnx2 y (l8 hy)
 rw[A0 hlt,show (next x a)[j]=(k:Int) from(l5.1 hy).2] at hse
 have hkl:=hTl k _ hTk
 have hkl':¬List.length cd≤k:=a7
 have hkl2:¬(List.length cd:Int)≤(k:Int):=a7
 have hkl3:(k:Int)<(List.length cd:Int):=a7
 have hk00:(0:Int)≤(k:Int):=a7
 have hk0:¬(k:Int)<0:=a7
 obtain⟨u,hu⟩:=getq (show k<out.length by omega)
 rcases hmid.inv.seen hTk hu with hneg|heq
 ·have hneg':¬0≤u:=a7
  obtain⟨m1,m2,m3⟩:=hmid.find hTk hdp0 hu hneg hdp1 hvn
  rw[Emit.qY (u:=u) (d:=dp) (by rw[A6];exact hu) hneg (by rw[A6,←hT];exact hTk),A6] at hse
  simp only[go_sem,f1,f2,f6,f7,f9,f11,f79,f80,f81,o2,o42,hlt,hji,hj0,hy,hkl,hkl',hkl2,hkl3,hk00,hk0,hu,hneg,hneg',hol,j6,fJ,bK,ksD,setAt]
  refine⟨a7,?_⟩
  have hfr2:∀j,300≤j→upd ob 42 (some (icells (out.set k dp))) j=none:=fun j hj=>by simp only[upd];rw[if_neg a7];exact hfr j hj
  have pl2:pU 9 200 (nI todo) gn (upd ob 42 (some (icells (out.set k dp)))):=⟨by simp[upd];exact pl.t,by simp[upd];exact pl.d⟩
  rw[fK]
  refine ei rfl (by simp only[go_sem,f9];exact(CR (B:=300) (T:=9) (D:=200) (l:=nI todo) (x:=(k:Int)) hfr2 c8 c8 c8 pl2 rfl (by simp[nI];omega)).toR) ?_
  rintro _ g2 ob2 ⟨pl3,q1,q2⟩
  have e2:=q1 2 c8
  have e42:=q1 42 c8
  have e9:=q1 9 c8
  have p2:=q2 2 c8 c8
  have p42:=q2 42 c8 c8
  simp[upd] at p2 p42
  rw[o2] at p2
  simp only[go_sem,f81,hwj]
  refine cI (m-1) a7 ⟨out.set k dp,todo++[k],j+1,a7,a7,m1,hse,m3,?_⟩
  simp only[go_sem,f1,f2,f6,f7,f9,f11,f79,f80,e2,e42,e9,p2,p42,ksD]
  exact⟨by rw[show nI (todo++[k])=nI todo++[(k:Int)] by simp[nI]];exact pl3,fun j hj=>by rw[q2 j a7 a7];exact hfr2 j hj⟩
 ·subst heq
  have hu1:¬u<0:=a7
  rw[Emit.qZ (u:=u) (by rw[A6];exact hu) hu1] at hse
  simp only[go_sem,f1,f2,f6,f7,f9,f11,f79,f80,f81,o2,o42,hlt,hji,hj0,hy,hkl,hkl',hkl2,hkl3,hk00,hk0,hu,hdp0,hu1,hol,j6,fJ,bK,ksD,hwj]
  refine cI (m-1) a7 ⟨out,todo,j+1,a7,hm,hmid,hse,hvn,?_⟩
  simp only[go_sem,f1,f2,f6,f7,f9,f11,f79,f80,o2,o42,ksD]
  exact⟨pl,hfr⟩
end
end
end Go.Proofs.YtlglgadejgdpcaaGreatDoor.Low
namespace Go.Emit
section
open Go.Lower (Ins Code Sig codeOf takes next Inv left Good OkI gw)
section
variable {ps:Sig}{word:Bool}
theorem td{x:Ins}{r:Int×Int} (h:takes ps word x=some r):x.op=1∨x.op=2∨x.op=3∨x.op=4∨x.op=5∨x.op=6∨x.op=7∨x.op=8∨x.op=9∨x.op=10∨x.op=11∨x.op=12∨x.op=13:=by
 unfold takes at h
 by_cases h1:x.op=1∨x.op=2∨x.op=12
 ·omega
 by_cases h2:x.op=3∨x.op=9∨x.op=13
 ·omega
 by_cases h3:x.op=4∨x.op=7
 ·omega
 by_cases h4:x.op=5
 ·omega
 by_cases h5:x.op=6
 ·omega
 by_cases h6:x.op=8
 ·omega
 by_cases h7:x.op=10
 ·omega
 by_cases h8:x.op=11
 ·omega
 rw[if_neg h1,if_neg h2,if_neg h3,if_neg h4,if_neg h5,if_neg h6,if_neg h7,if_neg h8] at h
 cases h
theorem BV{x:Ins}{t p:Int} (h:takes ps word x=some (t,p)):0≤p∧p≤1:=by
 rcases td h with h1|h1|h1|h1|h1|h1|h1|h1|h1|h1|h1|h1|h1
 all_goals try (obtain⟨rfl,rfl⟩:_=t∧_=p:=by simpa[takes,h1] using h)
 all_goals try (exact⟨by decide,by decide⟩)
 ·simp only[takes,h1] at h
  simp at h
  obtain⟨_,a,⟨_,_,hb⟩|⟨_,_,hb⟩⟩:=h <;> omega
 ·cases word <;> simp[takes,h1] at h <;> omega
structure rb (T:Nat→Option Int) (cd:Lower.Code) (out:List Int) (todo:List Nat):Prop where
 inv:Inv T cd.length out todo
 le:∀v∈out,v+left out≤cd.length
 clo:∀(k:Nat) (v:Int),out[k]? = some v→0≤v→k∈todo∨∀x d,cd[k]? = some (x,d)→∀y∈next x k,∃u,out[y.toNat]? = some u∧0≤u
theorem rb.find {T:Nat→Option Int}{cd:Lower.Code}{k:Nat}{out:List Int}{todo:List Nat}{deep v d:Int} (h:rb T cd out todo) (hT:T k=some deep) (h0:0≤deep) (hv:out[k]? = some v) (hn:v<0) (hd:deep≤d+1) (hdl:d+left out≤cd.length) :
  rb T cd (out.set k deep) (todo++[k])∧left (out.set k deep)+(todo++[k]).length=left out+todo.length∧d+left (out.set k deep)≤cd.length:=by
 obtain⟨h1,h2⟩:=h.inv.find hT h0 hv hn
 have hc:=Lower.jN hv hn h0
 have hkl:=(l5.1 hv).1
 refine⟨⟨h1,fun u hu=>?_,fun j u hj hu=>?_⟩,h2,a7⟩
 ·rcases M9 hu with hu|rfl
  ·have:=h.le u hu;omega
  ·omega
 ·have grow:∀(i:Nat) (u:Int),out[i]? = some u→0≤u→∃u',(out.set k deep)[i]? = some u'∧0≤u':=fun i u hi hu=>by
   by_cases e:k=i
   ·subst e;exact⟨deep,by rw[C5,if_pos rfl,if_pos hkl],h0⟩
   ·exact⟨u,by rw[C5,if_neg e];exact hi,hu⟩
  by_cases e:k=j
  ·subst e;exact .inl a8
  ·rw[C5,if_neg e] at hj
   rcases h.clo j u hj hu with q|q
   ·exact .inl (by simp[q])
   ·refine .inr fun x d hx y hy=>?_
    obtain⟨u',q1,q2⟩:=q x d hx y hy
    exact grow _ _ q1 q2
theorem oV {T:Nat→Option Int}{cd:Lower.Code} (hT:∀k,T k=(cd[k]?).map Prod.snd) {v:Int}:∀(l:List Int) (out:List Int) (todo:List Nat),rb T cd out todo→(∀y∈l,∃(k:Nat) (dp:Int),y=(k:Int)∧T k=some dp∧0≤dp∧dp≤v+1)→v+left out≤cd.length→
  rb T cd (visit cd l (out,todo)).1 (visit cd l (out,todo)).2∧left (visit cd l (out,todo)).1+(visit cd l (out,todo)).2.length=left out+todo.length∧(∀(i:Nat) (u:Int),out[i]? = some u→0≤u→(visit cd l (out,todo)).1[i]? = some u)∧(∀y∈l,∃u,(visit cd l (out,todo)).1[y.toNat]? = some u∧0≤u)∧(∀k∈todo,k∈(visit cd l (out,todo)).2)
 |[],out,todo,h,_,_=>⟨h,rfl,fun _ _ q _=>q,fun _ q=>(by cases q),fun _ q=>q⟩
 |y::l,out,todo,h,hl,hv=>by
   obtain⟨k,dp,rfl,hk,h0,h1⟩:=hl y a8
   have hkl:k<out.length:=by
    rw[h.inv.1]
    rw[hT] at hk
    rcases J7 k cd.length with q|q
    ·exact q
    ·rw[D7 q] at hk;cases hk
   obtain⟨u,hu⟩:∃u,out[k]? = some u:=⟨_,u3 hkl⟩
   have hl':∀y∈l,∃(k:Nat) (dp:Int),y=(k:Int)∧T k=some dp∧0≤dp∧dp≤v+1:=fun y hy=>hl y (by simp[hy])
   by_cases hn:u<0
   ·obtain⟨m1,m2,m3⟩:=h.find hk h0 hu hn h1 hv
    rw[qY (u:=u) (d:=dp) (by rw[A6];exact hu) hn (by rw[A6,←hT];exact hk),A6]
    obtain⟨q1,q2,q3,q4,q5⟩:=oV hT l (out.set k dp) (todo++[k]) m1 hl' m3
    have keep:∀(i:Nat) (u':Int),out[i]? = some u'→0≤u'→(out.set k dp)[i]? = some u':=fun i u' hi hu'=>by
     have:k≠i:=fun e=>by subst e;rw[hi] at hu;cases hu;omega
     rw[C5,if_neg this];exact hi
    refine⟨q1,q2.trans m2,fun i u' hi hu'=>q3 i u' (keep i u' hi hu') hu',fun y hy=>?_,fun j hj=>q5 j (by simp[hj])⟩
    rcases x8.1 hy with rfl|hy
    ·exact⟨dp,q3 _ dp (by rw[A6,C5,if_pos rfl,if_pos hkl]) h0,h0⟩
    ·exact q4 y hy
   ·rw[qZ (u:=u) (by rw[A6];exact hu) hn]
    obtain⟨q1,q2,q3,q4,q5⟩:=oV hT l out todo h hl' hv
    refine⟨q1,q2,q3,fun y hy=>?_,q5⟩
    rcases x8.1 hy with rfl|hy
    ·exact⟨u,by rw[A6];exact q3 k u hu a7,a7⟩
    ·exact q4 y hy
theorem uC {α:Type} (l:List α):l=[]∨∃l' a,l=l'++[a]:=by
 by_cases h:l=[]
 ·exact .inl h
 ·exact .inr ⟨l.dropLast,l.getLast h,(L5 h).symm⟩
theorem rc {ps:Sig}{word:Bool}{T:Nat→Option Int}{cd:Lower.Code} (hT:∀k,T k=(cd[k]?).map Prod.snd) (hg:Lower.Good ps word T 0 cd):∀(m:Nat) (out:List Int) (todo:List Nat),m=left out+todo.length→rb T cd out todo→
  rb T cd (search cd m (out,todo)) []∧∀(i:Nat) (u:Int),out[i]? = some u→0≤u→(search cd m (out,todo))[i]? = some u
 |0,out,todo,hm,h=>by
   obtain rfl:todo=[]:=y2 a7
   exact⟨h,fun _ _ q _=>q⟩
 |m+1,out,todo,hm,h=>by
   rcases uC todo with rfl|⟨todo,a,rfl⟩
   ·rw[xI];exact⟨h,fun _ _ q _=>q⟩
   ·obtain⟨v,hv,hTa,hv0⟩:=h.inv.2.2 a a8
    have hTa':=hTa
    rw[hT] at hTa'
    obtain⟨⟨x,v'⟩,hx,hxv⟩:=H6.1 hTa'
    obtain rfl:v'=v:=hxv
    obtain⟨t,p,htk,ht0,htv,hret,hnx⟩:=(by have:=gw hg hx;rwa [C9] at this:OkI ps word T a x v')
    have hp:=BV htk
    rw[vF cd m out todo a hx]
    have hnl:∀y∈next x a,∃(k:Nat) (dp:Int),y=(k:Int)∧T k=some dp∧0≤dp∧dp≤v'+1:=fun y hy=>by
     obtain⟨k,h1,h2⟩:=hnx y hy
     exact⟨k,_,h1,h2,a7,a7⟩
    have hvn:=h.le v' (l8 hv)
    -- a is taken off,so that its places behind are owed: visit with a put back in mind
    have h2:rb T cd out (todo++[a]):=h
    obtain⟨q1,q2,q3,q4,q5⟩:=oV hT (next x a) out (todo++[a]) h hnl hvn
    have hsplit:∀(l:List Int) (out:List Int) (t0 t1:List Nat),(visit cd l (out,t0++t1)).1=(visit cd l (out,t1)).1∧(visit cd l (out,t0++t1)).2=t0++(visit cd l (out,t1)).2:=by
     intro l
     induction l with
     |nil=>intro out t0 t1;exact⟨rfl,rfl⟩
     |cons y l ih=>
       intro out t0 t1
       simp only[visit]
       split
       ·rw[s6];exact ih _ _ _
       ·exact ih _ _ _
    have hst:=hsplit (next x a) out todo []
    have hst2:=hsplit (next x a) out (todo++[a]) []
    rw[n0] at hst hst2
    rw[hst2.1,hst2.2] at q1 q2
    rw[hst2.1] at q3 q4
    rw[show visit cd (next (x,v').fst a) (out,todo)=((visit cd (next x a) (out,[])).1,todo++(visit cd (next x a) (out,[])).2) from Prod.ext hst.1 hst.2]
    have hmid:rb T cd (visit cd (next x a) (out,[])).1 (todo++(visit cd (next x a) (out,[])).2):=by
     refine⟨⟨q1.inv.1,q1.inv.2.1,fun b hb=>q1.inv.2.2 b (by rcases C8.1 hb with hb|hb <;> simp[hb])⟩,q1.le,fun k u hk hu=>?_⟩
     rcases q1.clo k u hk hu with hc|hc
     ·simp only[s6,C8,x8,z7,E4,G7] at hc
      rcases hc with hc|rfl|hc
      ·exact .inl (by simp[hc])
      ·refine .inr fun x' d hx' y hy=>?_
       rw[hx] at hx'
       cases hx'
       exact q4 y hy
      ·exact .inl (by simp[hc])
     ·exact .inr hc
    obtain⟨r1,r2⟩:=rc hT hg m _ _ (by simp only[j5,j7,j8] at hm q2 ⊢;omega) hmid
    exact⟨r1,fun i u hi hu=>r2 i u (q3 i u hi hu) hu⟩
theorem uD{T:Nat→Option Int}{cd:Lower.Code} (hT:∀k,T k=(cd[k]?).map Prod.snd) (h0:T 0=some 0) (hg:Lower.Good ps word T 0 cd):rb T cd (ke cd) []∧(ke cd)[0]? = some 0:=by
 have hn:0<cd.length:=by
  cases hq:cd with
  |nil=>rw[hT] at h0;simp[hq] at h0
  |cons=>simp
 obtain⟨m,hm⟩:∃m,cd.length=m+1:=⟨cd.length-1,a7⟩
 have hl:left ((List.replicate cd.length (-1)).set 0 0)+[0].length=cd.length:=by
  rw[hm,D9,F9]
  unfold left
  rw[RB,RM]
  simp
 have hmid:rb T cd ((List.replicate cd.length (-1)).set 0 0) [0]:=by
  have hle:left ((List.replicate cd.length (-1)).set 0 0)≤cd.length:=a7
  refine⟨⟨a8,fun k v h=>?_,fun a ha=>?_⟩,fun v hv=>?_,fun k v h hv=>?_⟩
  ·rw[hm,D9,F9] at h
   cases k with
   |zero=>simp at h;subst h;exact .inr ⟨h0,F3 _⟩
   |succ k=>rw[s9,N9] at h;split at h <;> simp at h;exact .inl h.symm
  ·obtain rfl:a=0:=by simpa using ha
   exact⟨0,by rw[hm,D9,F9];rfl,h0,F3 _⟩
  ·have:v≤0:=by
    rw[hm,D9,F9] at hv
    rcases x8.1 hv with rfl|h
    ·exact F3 _
    ·have:=G9 h;omega
   omega
  ·rw[hm,D9,F9] at h
   cases k with
   |zero=>exact .inl a8
   |succ k=>rw[s9,N9] at h;split at h <;> simp at h;omega
 obtain⟨r1,r2⟩:=rc hT hg cd.length _ _ hl.symm hmid
 exact⟨r1,r2 0 0 (by rw[hm,D9,F9];rfl) (F3 _)⟩
end
end
end Go.Emit
namespace Go.Proofs.YtlglgadejgdpcaaGreatDoor.Low
section
attribute [local congr] Go.Am.ite_cc
open Go Go.Am Go.Lower
def CV (outs:List (List Int)) (back base:List Int) (data:Int):AV:=.agg [.d (.sl (outs.map fun o=>[ksD o])),.d (ksD back),.d (ksD base),.d (.int .i64 data)]
def ocells (l:List (List Int)):List C:=l.map fun o=>.d (ksD o)
theorem xY (l:List (List Int)):(ocells l).length=l.length:=by simp[ocells]
theorem rr (a b:List (List Int)):ocells (a++b)=ocells a++ocells b:=by simp[ocells]
theorem JK {w:Int}{fs:List Src.CFn} (ds:List (List Int)) (hds:ds.length=fs.length) (hw0:0≤w∧w≤1000000) (hl:fs.length≤1000000) (hdv:∀o∈ds,(∀v∈o,v≤100000000)∧o.length≤1000000000)
  (hD:∀f o,ds[f]? = some o→ba Tryz.prog 88 [gu w fs,iv .i64 (f:Nat)] (· = .tup [.one (.d (ksD o)),bv true])) :
  ba Tryz.prog 58 [gu w fs] (· = CV ds (Emit.gp fs.length 0 ds w).1 (Emit.gp fs.length 0 ds w).2.1 (Emit.gp fs.length 0 ds w).2.2):=by
 refine bO ae mixed Tryz.func58 rfl b9 [.cell 2 133] rfl c9 (by simp[Tryz.ntmps58]) fun g=>?_
 have hsC:gu w fs=.agg [.d (.int .i64 w),.d (.sl (fs.map sfD))]:=rfl
 rw[hsC] at hD ⊢
 have hwl:IntKind.i64.wrap ((fs.length:Int)-1)=(fs.length:Int)-1:=by rw[wrap_i64] <;> omega
 simp only[go_sem,j6,hwl]
 refine vj _ (((cl (t:=3) (o:=3) (b:=34) (j:=0) (sz:=1) (off:=0) (cells:=[.d .nsl,.d .nsl,.d .nsl,.d (.int .i64 w)]) (by simp only[go_sem]) (by simp only[go_sem]) rfl c8).trans
   (cl (t:=3) (o:=3) (b:=41) (j:=1) (sz:=1) (off:=0) (cells:=[.osl 34 (g 34+1) 1 0 0,.d .nsl,.d .nsl,.d (.int .i64 w)]) (by simp only[St.claimAt];simp only[go_sem]) (by simp only[St.claimAt];simp only[go_sem]) rfl c8)).trans
   (cl (t:=3) (o:=3) (b:=55) (j:=2) (sz:=1) (off:=0) (cells:=[.osl 34 (g 34+1) 1 0 0,.osl 41 (g 41+1) 1 0 0,.d .nsl,.d (.int .i64 w)]) (by simp only[St.claimAt];simp only[go_sem]) (by simp only[St.claimAt];simp only[go_sem]) rfl c8))
  (fun n s=>∃(k:Nat) (outs:List (List Int)) (back base:List Int) (data:Int),n+k=fs.length∧outs.length=k∧back.length=k∧base.length=k∧(outs=ds.take k∧Emit.gp fs.length 0 outs w=(back,base,data))∧0≤data∧data≤1000000+100000001*k∧s.f 1=.one (.ptr 1 (s.gen 1) 0)∧s.f 2=.one (.ptr 2 (s.gen 2) 0)∧s.f 3=.one (.ptr 3 (s.gen 3) 0)∧s.f 20=iv .i64 fs.length∧s.f 21=iv .i64 k∧s.f 4=iv .i64 ((fs.length:Int)-1)∧
    s.obj 1=some [.d (.int .i64 w),.d (.sl (fs.map sfD))]∧(∃a b c d,s.obj 2=some [a,b,c,d])∧s.obj 3=some [.osl 34 (s.gen 34) 1 0 k,.osl 41 (s.gen 41) 1 0 k,.osl 55 (s.gen 55) 1 0 k,.d (.int .i64 data)]∧s.obj 34=some (ocells outs)∧s.obj 41=some (icells back)∧s.obj 55=some (icells base)) fs.length ?_ ?_
 ·simp only[St.claimAt]
  refine⟨0,[],[],[],w,rfl,rfl,rfl,rfl,⟨rfl,rfl⟩,hw0.1,a7,?_⟩
  simp only[go_sem,hwl]
  exact⟨⟨_,_,_,_,rfl,rfl,rfl,rfl⟩,rfl,rfl⟩
 clear g
 rintro n g gn ob ⟨k,outs,back,base,data,hk,lo,lb,lba,⟨hO,hP⟩,hd0,hd1,f1,f2,f3,f20,f21,f4,o1,⟨a0,b0,c0,d0,o2⟩,o3,o34,o41,o55⟩
 simp only at f1 f2 f3 f20 f21 f4 o1 o2 o3 o34 o41 o55
 have hwk:=am (k:=k) a7
 by_cases hlt:k<fs.length
 case neg=>
  have hki:¬(k:Int)<(fs.length:Int):=a7
  obtain rfl:k=fs.length:=a7
  simp only[go_sem,f1,f2,f3,f20,f21,hki,o2,o3]
  have hfm:∀{α:Type} (l:List α) (e:α→D),(l.map fun a=>C.d (e a))=l.flatMap fun a=>([e a]:List D).map C.d:=by
   intro α l e
   induction l with
   |nil=>rfl
   |cons b l ih=>rw[l7,B4,ih];rfl
  have r1:∀{s:St},s.gen 34=gn 34→s.obj 34=ob 34→Frz s (.osl 34 (gn 34) 1 0 fs.length) (.sl (outs.map fun o=>[ksD o])):=fun {s} hg ho=>by
   refine cZ (s:=s) hg outs (fun o=>[ksD o]) (ho.trans o34) (hfm outs ksD) (fun a _ y hy=>?_) (fun _ _=>rfl) lo
   rw[D0.1 hy];rfl
  have r2:∀{s:St},s.gen 41=gn 41→s.obj 41=ob 41→Frz s (.osl 41 (gn 41) 1 0 fs.length) (ksD back):=fun {s} hg ho=>by
   refine cZ (s:=s) hg back (fun o=>[.int .i64 o]) (ho.trans o41) (hfm back _) (fun a _ y hy=>?_) (fun _ _=>rfl) lb
   rw[D0.1 hy];rfl
  have r3:∀{s:St},s.gen 55=gn 55→s.obj 55=ob 55→Frz s (.osl 55 (gn 55) 1 0 fs.length) (ksD base):=fun {s} hg ho=>by
   refine cZ (s:=s) hg base (fun o=>[.int .i64 o]) (ho.trans o55) (hfm base _) (fun a _ y hy=>?_) (fun _ _=>rfl) lba
   rw[D0.1 hy];rfl
  refine⟨_,⟨[.sl (outs.map fun o=>[ksD o]),ksD back,ksD base,.int .i64 data],rfl,fun i c hc=>?_,rfl⟩,?_⟩
  rotate_left
  ·rw[l6 a7] at hO
   subst hO
   rw[hP]
   rfl
  match i,hc with
  |0,hc=>cases hc;exact⟨_,rfl,r1 rfl (by simp[upd])⟩
  |1,hc=>cases hc;exact⟨_,rfl,r2 rfl (by simp[upd])⟩
  |2,hc=>cases hc;exact⟨_,rfl,r3 rfl (by simp[upd])⟩
  |3,hc=>cases hc;exact⟨_,rfl,.d _⟩
 have hki:(k:Int)<(fs.length:Int):=a7
 have hk0:(0:Int)≤(k:Int):=a7
 have hol:=xY outs
 have hbl:=bK back
 have hsl:=bK base
 simp only[go_sem,f1,f2,f3,f20,f21,f4,hki,o1]
 obtain⟨out,hout⟩:=getq (show k<ds.length by omega)
 obtain⟨hov,hoz⟩:=hdv out (l8 hout)
 have hO2:outs++[out]=ds.take (k+1):=by rw[hO,List.take_add_one,hout];rfl
 have hgo:=Emit.vG fs.length outs 0 w out
 rw[hP] at hgo
 simp only[lo,C9] at hgo
 refine aY rfl (hD k out hout) b9 ?_
 rintro _ rfl
 simp only[go_sem,f1,f3,o3,o34,hol,lo,aD,o41,hbl,lb,f4]
 refine⟨l4 _,⟨c8,a7⟩,l4 _,⟨c8,a7⟩,?_⟩
 have hwd:IntKind.i64.wrap (data+1)=data+1:=by rw[wrap_i64] <;> omega
 by_cases hkl:(k:Int)=(fs.length:Int)-1
 ·skip
  simp only[go_sem,r0 hkl,o55,hsl,lba,f3,ksD,j6]
  refine⟨l4 _,⟨c8,a7⟩,?_⟩
  refine dN (fun m s=>∃(j:Nat) (dp:Int),m+j=out.length∧Emit.deepest (out.drop j) dp=Emit.deepest out 0∧0≤dp∧dp≤100000000∧s.f 1=.one (.ptr 1 (s.gen 1) 0)∧s.f 2=.one (.ptr 2 (s.gen 2) 0)∧s.f 3=.one (.ptr 3 (s.gen 3) 0)∧s.f 20=iv .i64 fs.length∧s.f 21=iv .i64 k∧s.f 4=iv .i64 ((fs.length:Int)-1)∧s.f 57=.one (.d (.sl (out.map fun k=>[.int .i64 k])))∧s.f 58=iv .i64 out.length∧s.f 59=iv .i64 j∧s.f 8=iv .i64 dp∧
   s.obj 1=some [.d (.int .i64 w),.d (.sl (fs.map sfD))]∧s.obj 2=some [a0,b0,c0,d0]∧s.obj 3=some [.osl 34 (s.gen 34) 1 0 (k+1),.osl 41 (s.gen 41) 1 0 (k+1),.osl 55 (s.gen 55) 1 0 (k+1),.d (.int .i64 (data))]∧s.obj 34=some (ocells (outs++[out]))∧s.obj 41=some (icells (back++[data]))∧s.obj 55=some (icells (base++[data]))) out.length ?_ ?_
  ·refine⟨0,0,rfl,rfl,F3 _,c8,?_⟩
   simp only[go_sem,f1,f2,f3,f20,f21,f4,o1,o2]
   refine⟨?_,?_,?_⟩
   ·rw[l6 a7,rr];rfl
   ·rw[l6 a7,jq];rfl
   ·rw[l6 a7,jq];rfl
  clear f1 f2 f3 f20 f21 f4 o1 o2 o3 o34 o41 o55
  rintro m g gn ob ⟨j,dp,hj,hdp,hp0,hp1,f1,f2,f3,f20,f21,f4,f57,f58,f59,f8,o1,o2,o3,o34,o41,o55⟩
  simp only at f1 f2 f3 f20 f21 f4 f57 f58 f59 f8 o1 o2 o3 o34 o41 o55
  have hwj:=am (k:=j) a7
  by_cases hlj:j<out.length
  ·have hji:(j:Int)<(out.length:Int):=a7
   have hj0:(0:Int)≤(j:Int):=a7
   obtain⟨v,hv⟩:=getq hlj
   have hvb:=hov v (l8 hv)
   simp only[go_sem,f57,f58,f59,f8,hji,hj0,hv,hwj,j6]
   rw[A0 hlj,Emit.uw,show out[j]=v from(l5.1 hv).2] at hdp
   refine cI (m-1) a7 ⟨j+1,max dp v,a7,hdp,a7,a7,?_⟩
   simp only[go_sem,f1,f2,f3,f20,f21,f4,f57,f58,o1,o2,o3,o34,o41,o55]
  have hji:¬(j:Int)<(out.length:Int):=a7
  have hwp:IntKind.i64.wrap (data+dp)=data+dp:=by rw[wrap_i64] <;> omega
  simp only[go_sem,f57,f58,f59,f8,hji,f3,o3,hwp,f21,hwk,j6]
  refine cI (n-1) a7 ⟨k+1,outs++[out],back++[data],base++[data],data+dp,a7,by simp;omega,by simp;omega,by simp;omega,⟨hO2,hgo.trans ?_⟩,a7,a7,?_⟩
  ·rw[if_pos (show k+1=fs.length by omega)]
   rw[E8 a7] at hdp
   rw[←hdp];rfl
  simp only[go_sem,f1,f2,f3,f20,f4,o1,o2,o34,o41,o55]
  exact⟨_,_,_,_,rfl,rfl,rfl,rfl⟩
 ·skip
  simp only[go_sem,hkl,hwd,o55,hsl,lba,f3,ksD,j6]
  refine⟨l4 _,⟨c8,a7⟩,?_⟩
  refine dN (fun m s=>∃(j:Nat) (dp:Int),m+j=out.length∧Emit.deepest (out.drop j) dp=Emit.deepest out 0∧0≤dp∧dp≤100000000∧s.f 1=.one (.ptr 1 (s.gen 1) 0)∧s.f 2=.one (.ptr 2 (s.gen 2) 0)∧s.f 3=.one (.ptr 3 (s.gen 3) 0)∧s.f 20=iv .i64 fs.length∧s.f 21=iv .i64 k∧s.f 4=iv .i64 ((fs.length:Int)-1)∧s.f 57=.one (.d (.sl (out.map fun k=>[.int .i64 k])))∧s.f 58=iv .i64 out.length∧s.f 59=iv .i64 j∧s.f 8=iv .i64 dp∧
   s.obj 1=some [.d (.int .i64 w),.d (.sl (fs.map sfD))]∧s.obj 2=some [a0,b0,c0,d0]∧s.obj 3=some [.osl 34 (s.gen 34) 1 0 (k+1),.osl 41 (s.gen 41) 1 0 (k+1),.osl 55 (s.gen 55) 1 0 (k+1),.d (.int .i64 ((data+1)))]∧s.obj 34=some (ocells (outs++[out]))∧s.obj 41=some (icells (back++[data]))∧s.obj 55=some (icells (base++[(data+1)]))) out.length ?_ ?_
  ·refine⟨0,0,rfl,rfl,F3 _,c8,?_⟩
   simp only[go_sem,f1,f2,f3,f20,f21,f4,o1,o2]
   refine⟨?_,?_,?_⟩
   ·rw[l6 a7,rr];rfl
   ·rw[l6 a7,jq];rfl
   ·rw[l6 a7,jq];rfl
  clear f1 f2 f3 f20 f21 f4 o1 o2 o3 o34 o41 o55
  rintro m g gn ob ⟨j,dp,hj,hdp,hp0,hp1,f1,f2,f3,f20,f21,f4,f57,f58,f59,f8,o1,o2,o3,o34,o41,o55⟩
  simp only at f1 f2 f3 f20 f21 f4 f57 f58 f59 f8 o1 o2 o3 o34 o41 o55
  have hwj:=am (k:=j) a7
  by_cases hlj:j<out.length
  ·have hji:(j:Int)<(out.length:Int):=a7
   have hj0:(0:Int)≤(j:Int):=a7
   obtain⟨v,hv⟩:=getq hlj
   have hvb:=hov v (l8 hv)
   simp only[go_sem,f57,f58,f59,f8,hji,hj0,hv,hwj,j6]
   rw[A0 hlj,Emit.uw,show out[j]=v from(l5.1 hv).2] at hdp
   refine cI (m-1) a7 ⟨j+1,max dp v,a7,hdp,a7,a7,?_⟩
   simp only[go_sem,f1,f2,f3,f20,f21,f4,f57,f58,o1,o2,o3,o34,o41,o55]
  have hji:¬(j:Int)<(out.length:Int):=a7
  have hwp:IntKind.i64.wrap ((data+1)+dp)=(data+1)+dp:=by rw[wrap_i64] <;> omega
  simp only[go_sem,f57,f58,f59,f8,hji,f3,o3,hwp,f21,hwk,j6]
  refine cI (n-1) a7 ⟨k+1,outs++[out],back++[data],base++[(data+1)],(data+1)+dp,a7,by simp;omega,by simp;omega,by simp;omega,⟨hO2,hgo.trans ?_⟩,a7,a7,?_⟩
  ·rw[if_neg (show ¬k+1=fs.length by omega)]
   rw[E8 a7] at hdp
   rw[←hdp];rfl
  simp only[go_sem,f1,f2,f3,f20,f4,o1,o2,o34,o41,o55]
  exact⟨_,_,_,_,rfl,rfl,rfl,rfl⟩
abbrev fW:=Int×Int×Int×Int
def wl (x:fW):List C:=[.d (.int .i64 x.1),.d (.int .i64 x.2.1),.d (.int .i64 x.2.2.1),.d (.int .i64 x.2.2.2)]
def dJ (l:List fW):List C:=l.flatMap wl
theorem fR (l:List fW):(dJ l).length=l.length*4:=by
 induction l with
 |nil=>rfl
 |cons a l ih=>simp only[dJ,B4,j5,wl,j7,j8] at ih ⊢;omega
theorem AB (l m:List fW):dJ (l++m)=dJ l++dJ m:=by simp[dJ]
theorem tA {B:Nat} (l:List fW):∀c∈dJ l,lh B c:=fun c hc=>by
 unfold dJ at hc
 obtain⟨x,_,hx⟩:=List.mem_flatMap.1 hc
 simp only[wl,x8,z7,E4] at hx
 rcases hx with rfl|rfl|rfl|rfl <;> trivial
theorem Of {B G D gG:Nat}{code:List fW}{c0 c1 c2 c3 c4 c5 d0 d1 d2 d3 d4:C}{op a b c:Int}{g:Nat→Nat}{ob:Obs} (hB:∀i,B≤i→ob i=none) (hG:G<B) (hD:D<B) (hGD:G≠D) (hgG:g G=gG) (ho:ob G=some [c0,c1,c2,c3,c4,c5,.osl D (g D) 4 0 code.length,d0,d1,d2,d3,d4]) (hc:ob D=some (dJ code)) (hlow:∀x∈[c0,c1,c2,c3,c4,c5,d0,d1,d2,d3,d4],lh B x) (hl:code.length≤100000000) :
  dF Tryz.prog 90 [.one (.ptr G gG 0),iv .i64 op,iv .i64 a,iv .i64 b,iv .i64 c] g ob (fun _ g' ob'=>(∀i,i≠D→g' i=g i)∧ob' G=some [c0,c1,c2,c3,c4,c5,.osl D (g' D) 4 0 (code.length+1),d0,d1,d2,d3,d4]∧ob' D=some (dJ (code++[(op,a,b,c)]))∧∀i,i≠G→i≠D→ob' i=ob i) (fun _ _ _=>False):=by
 refine al B [G,D] ae mixed Tryz.func90 rfl b9 [] rfl c9 c9 (by simp[Tryz.ntmps90]) (by simp;omega) hB fun b₀ β0 s0 w0=>?_
 have n1:∀k,(G=B+k)=False:=fun k=>by simp;omega
 have n2:∀k,(D=B+k)=False:=fun k=>by simp;omega
 have n3:(G=D)=False:=by simp[hGD]
 have n4:(D=G)=False:=by simp[y9 hGD]
 simp only[go_sem,n1,n2,n3,n4,ho,hc,hgG,fR,aD]
 refine⟨l4 _,⟨c8,a7⟩,?_⟩
 refine⟨_,ah.refl _,?_⟩
 simp only[go_sem]
 have e1:List.take (code.length*4) (dJ code)++[C.d (.int .i64 op),C.d (.int .i64 a),C.d (.int .i64 b),C.d (.int .i64 c)]=dJ (code++[(op,a,b,c)]):=by
  rw[l6 (by rw[fR];exact l4 _),AB]
  simp[dJ,wl]
 rw[e1]
 refine⟨⟨fun i hi hn=>?_,fun i hi cells hcl=>?_⟩,[],rfl,fun i hi=>?_,?_,?_,fun i hi hi2=>?_⟩
 ·have h1:i≠G:=fun e=>hn (by simp[e])
  have h2:i≠D:=fun e=>hn (by simp[e])
  exact⟨nu,nu⟩
 ·simp only[x8,z7,E4] at hi
  rcases hi with rfl|rfl
  ·simp[upd] at hcl
   subst hcl
   intro x hx
   simp only[x8,z7,E4] at hx hlow
   rcases hx with h|h|h|h|h|h|h|h|h|h|h|h
   all_goals first|(subst h;exact hD)|exact hlow x (by simp[h])
  ·simp[upd,n4] at hcl
   subst hcl
   exact tA _
 ·unfold iD
  split
  ·rename_i hm
   simp only[x8,z7,E4] at hm
   rcases hm with rfl|rfl
   ·(try simp only[upd]);(repeat rw[if_neg (by omega)])
   ·exact absurd rfl hi
  ·rfl
 ·simp[iD,eD,upd]
 ·simp[eD,upd,n4]
 ·unfold eD
  rw[if_neg (by simp[hi,hi2])]
end
section
open Go Go.Am Go.Lower
open Go.Emit (Wr)
section
theorem zo {B B':Nat} (hB:B≤B') {c:C} (h:lh B c):lh B' c:=by
 cases c with
 |d x=>trivial
 |osl id _ _ _ _=>exact F0 h hB
 |ptr id _ _=>exact F0 h hB
 |mp id _ _=>exact F0 h hB
 |lsl _=>trivial
 |raw _=>trivial
 |clo f caps=>
   intro p hp
   have:=h p hp
   cases p with
   |d x=>trivial
   |ptr id _ _=>exact F0 this hB
abbrev iW:=Int×Int×Int
def lj (l:List iW):List C:=l.flatMap fun x=>[.d (.int .i64 x.1),.d (.int .i64 x.2.1),.d (.int .i64 x.2.2)]
theorem wm (l:List iW):(lj l).length=l.length*3:=by
 induction l with
 |nil=>rfl
 |cons a l ih=>simp only[lj,B4,j5,j7,j8] at ih ⊢;omega
theorem CW (l m:List iW):lj (l++m)=lj l++lj m:=by simp[lj]
theorem CX {B:Nat} (l:List iW):∀c∈lj l,lh B c:=fun c hc=>by
 unfold lj at hc
 obtain⟨x,_,hx⟩:=List.mem_flatMap.1 hc
 simp only[x8,z7,E4] at hx
 rcases hx with rfl|rfl|rfl <;> trivial
structure aT where
 (c0 c1 c2 c3 c4 c5 d0 d1 d3 d4:C)
def aT.cells (k:aT) (D gD n H gH m:Nat):List C:=[k.c0,k.c1,k.c2,k.c3,k.c4,k.c5,.osl D gD 4 0 n,k.d0,k.d1,.osl H gH 3 0 m,k.d3,k.d4]
def aT.all (k:aT):List C:=[k.c0,k.c1,k.c2,k.c3,k.c4,k.c5,k.d0,k.d1,k.d3,k.d4]
structure dg (B G D H:Nat) (k:aT) (code:List fW) (holes:List iW) (g:Nat→Nat) (ob:Obs):Prop where
 top:∀i,B≤i→ob i=none
 gB:G<B
 dB:D<B
 hB:H<B
 gd:G≠D
 gh:G≠H
 dh:D≠H
 oG:ob G=some (k.cells D (g D) code.length H (g H) holes.length)
 oD:ob D=some (dJ code)
 oH:ob H=some (lj holes)
 low:∀x∈k.all,lh B x
variable {k:aT}{g:Nat→Nat}{ob:Obs}{B B' G D H:Nat}{code:List fW}{holes:List iW}
theorem dg.up (S:dg B G D H k code holes g ob) (h:B≤B'):dg B' G D H k code holes g ob:=
 ⟨fun i hi=>S.top i a7,by have:=S.gB;omega,by have:=S.dB;omega,by have:=S.hB;omega,S.gd,S.gh,S.dh,S.oG,S.oD,S.oH,fun x hx=>zo h (S.low x hx)⟩
theorem dg.upd {B G D H i:Nat}{k:aT}{code:List fW}{holes:List iW}{g:Nat→Nat}{ob:Obs} (S:dg B G D H k code holes g ob) (h:i<B) (n1:i≠G) (n2:i≠D) (n3:i≠H) (x:Nat) (y:Option (List C)):dg B G D H k code holes (Am.upd g i x) (Am.upd ob i y):=
 ⟨fun j hj=>by simp only[Am.upd];rw[if_neg a7];exact S.top j hj,S.gB,S.dB,S.hB,S.gd,S.gh,S.dh,by simp only[Am.upd];rw[if_neg (y9 n1),if_neg (y9 n2),if_neg (y9 n3)];exact S.oG,by simp only[Am.upd];rw[if_neg (y9 n2)];exact S.oD,by simp only[Am.upd];rw[if_neg (y9 n3)];exact S.oH,S.low⟩
theorem dg.to {B G D H:Nat}{g g':Nat→Nat}{ob ob':Obs} (S:dg B G D H k code holes g ob) (ht:∀i,B≤i→ob' i=none) (h1:g' D=g D) (h2:g' H=g H) (h3:ob' G=ob G) (h4:ob' D=ob D) (h5:ob' H=ob H):dg B G D H k code holes g' ob':=
 ⟨ht,S.gB,S.dB,S.hB,S.gd,S.gh,S.dh,by rw[h1,h2,h3];exact S.oG,by rw[h4];exact S.oD,by rw[h5];exact S.oH,S.low⟩
structure bP (B G D H:Nat) (g:Nat→Nat) (ob:Obs) (g':Nat→Nat) (ob':Obs):Prop where
 gen:∀i,i<B→i≠D→i≠H→g' i=g i
 fr:∀i,i<B→i≠G→i≠D→i≠H→ob' i=ob i
theorem bP.refl {B G D H:Nat}:bP B G D H g ob g ob:=⟨fun _ _ _ _=>rfl,fun _ _ _ _ _=>rfl⟩
theorem bP.trans {B G D H:Nat}{g g1 g2:Nat→Nat}{ob ob1 ob2:Obs} (a:bP B G D H g ob g1 ob1) (b:bP B G D H g1 ob1 g2 ob2):bP B G D H g ob g2 ob2:=
 ⟨fun i h x y=>(b.gen i h x y).trans (a.gen i h x y),fun i h x y z=>(b.fr i h x y z).trans (a.fr i h x y z)⟩
theorem bP.down{g g1:Nat→Nat}{ob ob1:Obs} (a:bP B' G D H g ob g1 ob1) (h:B≤B'):bP B G D H g ob g1 ob1:=⟨fun i q=>a.gen i a7,fun i q=>a.fr i a7⟩
def bW (f:FuncId) (xs:List AV) (w:Nat→Wr) (k:aT):Prop:=
 ∀(B G D H gG:Nat) (code:List fW) (holes:List iW) (g:Nat→Nat) (ob:Obs),dg B G D H k code holes g ob→g G=gG→code.length+(w code.length).code.length≤100000000→holes.length+(w code.length).holes.length≤100000000→
  dF Tryz.prog f (.one (.ptr G gG 0)::xs) g ob (fun _ g' ob'=>dg B G D H k (code++(w code.length).code) (holes++(w code.length).holes) g' ob'∧bP B G D H g ob g' ob') (fun _ _ _=>False)
theorem dg.pack {B Bc G D H:Nat}{code code':List fW}{holes holes':List iW}{s:St}{avs rs':List AV} (S:dg B G D H k code holes g ob) (S':dg Bc G D H k code' holes' s.gen s.obj) (hk:bP B G D H g ob s.gen s.obj) {ec:List fW}{eh:List iW} (hec:ec=code') (heh:eh=holes') (hf:ej B s avs rs'):aQ B [G,D,H] g ob (fun _ g' ob'=>dg B G D H k ec eh g' ob'∧bP B G D H g ob g' ob') s avs:=by
 subst hec heh
 have mS:∀{i},i∈[G,D,H]↔i=G∨i=D∨i=H:=fun {i}=>by simp
 refine⟨⟨fun i hi hn=>?_,fun i hi cells hcl=>?_⟩,rs',hf,⟨fun i hi=>?_,S.gB,S.dB,S.hB,S.gd,S.gh,S.dh,?_,?_,?_,S.low⟩,fun i hi hi2 hi3=>?_,fun i hi hi1 hi2 hi3=>?_⟩
 ·have e1:i≠G:=fun e=>hn (by simp[e])
  have e2:i≠D:=fun e=>hn (by simp[e])
  have e3:i≠H:=fun e=>hn (by simp[e])
  exact⟨hk.gen i hi e2 e3,hk.fr i hi e1 e2 e3⟩
 ·rcases mS.1 hi with rfl|rfl|rfl
  ·have hcl:=S'.oG.symm.trans hcl
   cases hcl
   intro x hx
   have hall:=S.low
   simp only[aT.cells,aT.all,x8,z7,E4] at hx hall
   rcases hx with e|e|e|e|e|e|e|e|e|e|e|e
   all_goals first|(subst e;first|exact S.dB|exact S.hB)|exact hall x (by simp[e])
  ·have hcl:=S'.oD.symm.trans hcl
   cases hcl
   exact tA _
  ·have hcl:=S'.oH.symm.trans hcl
   cases hcl
   exact CX _
 ·unfold eD
  have:=S.gB;have:=S.dB;have:=S.hB
  rw[if_neg (fun e=>by rcases mS.1 e with e|e|e <;> omega)]
  exact S.top i hi
 ·simp only[eD,iD,x8,z7,E4,true_or,or_true,A4]
  exact S'.oG
 ·simp only[eD,x8,z7,E4,true_or,or_true,A4]
  exact S'.oD
 ·simp only[eD,x8,z7,E4,true_or,or_true,A4]
  exact S'.oH
 ·unfold iD
  split
  ·exact hk.gen i hi hi2 hi3
  ·rfl
 ·unfold eD
  rw[if_neg (fun e=>by rcases mS.1 e with e|e|e;exact hi1 e;exact hi2 e;exact hi3 e)]
theorem di (op a b c:Int) (k:aT):bW 90 [iv .i64 op,iv .i64 a,iv .i64 b,iv .i64 c] (Emit.ao op a b c) k:=by
 intro B G D H gG code holes g ob S hg hl hh
 have hGH:=S.gh
 have hDH:=S.dh
 refine(Of (d2:=.osl H (g H) 3 0 holes.length) S.top S.gB S.dB S.gd hg S.oG S.oD ?_ (by simp only[Emit.ao,j7,j8] at hl;omega)).mono ?_ (fun _ _ _ h=>h)
 ·intro x hx
  have hall:=S.low
  simp only[aT.all,x8,z7,E4] at hx hall
  rcases hx with e|e|e|e|e|e|e|e|e|e|e
  all_goals first|(subst e;exact S.hB)|exact hall x (by simp[e])
 rintro _ g' ob' ⟨h1,h2,h3,h4⟩
 refine⟨⟨fun i hi=>?_,S.gB,S.dB,S.hB,S.gd,S.gh,S.dh,?_,h3,?_,S.low⟩,fun i _ hi _=>h1 i hi,fun i _ hi hi2 _=>h4 i hi hi2⟩
 ·have:=S.gB;have:=S.dB
  rw[h4 i a7 a7];exact S.top i hi
 ·rw[h2,h1 H (y9 hDH)]
  simp only[aT.cells,Emit.ao,j5,j7,j8,n0,C9]
 ·rw[h4 H (y9 hGH) (y9 hDH)]
  simp only[Emit.ao,n0]
  exact S.oH
section
variable {b₀:Bs}{rd:Option Nat}{Φ:St→Am.Loc→List Deferred→World→Prop}
theorem aK {Ψ:fF}{B0:Nat} (hΦ:aE b₀ Φ) {o:Oper}{s:St}{K:St→Prop}{kb:Box K}{f:FuncId}{args:Array Operand}{tys:Array TypeId} (ho:o.op=.call ⟨.value (.func f),args,tys⟩) {xs:List AV}{w:Nat→Wr} (hw:bW f xs w k) (Bc G D H gG:Nat) (code:List fW) (holes:List iW)
  (hx:args.toList.map s.ev=.one (.ptr G gG 0)::xs) (hg:s.gen G=gG) (S:dg Bc G D H k code holes s.gen s.obj) (hl:code.length+(w code.length).code.length≤100000000) (hhl:holes.length+(w code.length).holes.length≤100000000)
  (hk:∀r g' ob',dg Bc G D H k (code++(w code.length).code) (holes++(w code.length).holes) g' ob'→bP Bc G D H s.gen s.obj g' ob'→K (St.put ⟨s.f,g',ob'⟩ o.dst r)):aS (spF Tryz.prog rd b₀ Φ B0 Ψ) o s kb:=by
 refine bp (R:=fun _ g' ob'=>dg Bc G D H k (code++(w code.length).code) (holes++(w code.length).holes) g' ob'∧bP Bc G D H s.gen s.obj g' ob') (Ψ0:=fun _ _ _=>False) hΦ ho (by rw[hx];exact hw Bc G D H gG code holes s.gen s.obj S hg hl hhl) (fun _ _ _ h=>h.elim) ?_
 rintro r g' ob' ⟨h1,h2⟩
 exact hk r g' ob' h1 h2
end
end
end
section
attribute [local congr] Go.Am.ite_cc
open Go Go.Am Go.Lower
open Go.Emit (Wr ao au ar oU ea)
section
structure kK (k:aT) (fs:List Src.CFn) (P:Emit.Plan) (f:Nat) (dp:Int):Prop where
 s:k.c1=.d (.sl (fs.map sfD))
 ds:k.c2=.d (.sl (P.depths.map fun o=>[ksD o]))
 bk:k.c3=.d (ksD P.back)
 b:k.c4=.d (ksD P.base)
 fn:k.d3=.d (.int .i64 (f:Nat))
 d:k.d4=.d (.int .i64 dp)
 fl:f<fs.length
 dl:P.depths.length=fs.length
 bl:P.back.length=fs.length
 l:P.base.length=fs.length
 fz:fs.length≤1000000
 bz:∀x∈P.base,0≤x∧x≤1000000000000000
 dz:-1≤dp∧dp≤1000000000
 pz:∀x∈fs,0≤x.params∧x.params≤1000000∧0≤x.first∧x.first≤1000000000000000
variable {k:aT}{fs:List Src.CFn}{P:Emit.Plan}{f:Nat}{dp:Int}
theorem jr (hP:kK k fs P f dp) (reg below:Int) (hb:0≤below∧below≤1000000):bW 134 [iv .i64 reg,iv .i64 below] (Emit.jD P f dp reg below) k:=by
 intro B G D H gG code holes g ob S hg hl hh
 have hGB:=S.gB;have hDB:=S.dB;have hHB:=S.hB
 refine al B [G,D,H] ae mixed Tryz.func134 rfl b9 [] rfl c9 c9 (by simp[Tryz.ntmps134]) (by simp;omega) S.top fun b₀ β0 s0 w0=>?_
 have ho':=S.oG
 unfold aT.cells at ho'
 rw[hP.b,hP.fn,hP.d] at ho'
 have hfl:=hP.fl
 have hbl:=hP.l
 obtain⟨bf,hbf⟩:=getq (show f<P.base.length by omega)
 have hbz:=hP.bz bf (l8 hbf)
 have hdz:=hP.dz
 have hf0:(0:Int)≤(f:Int):=a7
 have hf1:(f:Int)<(P.base.length:Int):=a7
 have hfl2:f<P.base.length:=a7
 have hw1:IntKind.i64.wrap (bf+dp)=bf+dp:=by rw[wrap_i64] <;> omega
 have hw2:IntKind.i64.wrap (bf+dp-below)=bf+dp-below:=by rw[wrap_i64] <;> omega
 simp only[go_sem]
 refine aI j0 ?_
 simp only[go_sem,ho',hg,ksD,j6,hf0,hf1,hfl2,hbf,hw1,hw2]
 refine aK aa rfl (di 16 reg 0 (bf+dp-below) k) (B+27) G D H gG code holes (by simp only[go_sem,hw1,hw2]) hg (S.up a7) hl hh ?_
 intro r g' ob' S1 K1
 simp only[go_sem]
 refine⟨_,ah.refl _,?_⟩
 simp only[go_sem]
 exact S.pack S1 (K1.down a7) (by simp only[Emit.jD,ao,hbf,x6]) rfl (rs':=[]) rfl
theorem kL (hP:kK k fs P f dp) (reg below:Int) (hb:0≤below∧below≤1000000):bW 131 [iv .i64 reg,iv .i64 below] (Emit.kH P f dp reg below) k:=by
 intro B G D H gG code holes g ob S hg hl hh
 have hGB:=S.gB;have hDB:=S.dB;have hHB:=S.hB
 refine al B [G,D,H] ae mixed Tryz.func131 rfl b9 [] rfl c9 c9 (by simp[Tryz.ntmps131]) (by simp;omega) S.top fun b₀ β0 s0 w0=>?_
 have ho':=S.oG
 unfold aT.cells at ho'
 rw[hP.b,hP.fn,hP.d] at ho'
 have hfl:=hP.fl
 have hbl:=hP.l
 obtain⟨bf,hbf⟩:=getq (show f<P.base.length by omega)
 have hbz:=hP.bz bf (l8 hbf)
 have hdz:=hP.dz
 have hf0:(0:Int)≤(f:Int):=a7
 have hf1:(f:Int)<(P.base.length:Int):=a7
 have hfl2:f<P.base.length:=a7
 have hw1:IntKind.i64.wrap (bf+dp)=bf+dp:=by rw[wrap_i64] <;> omega
 have hw2:IntKind.i64.wrap (bf+dp-below)=bf+dp-below:=by rw[wrap_i64] <;> omega
 simp only[go_sem]
 refine aI j0 ?_
 simp only[go_sem,ho',hg,ksD,j6,hf0,hf1,hfl2,hbf,hw1,hw2]
 refine aK aa rfl (di 17 reg 0 (bf+dp-below) k) (B+27) G D H gG code holes (by simp only[go_sem,hw1,hw2]) hg (S.up a7) hl hh ?_
 intro r g' ob' S1 K1
 simp only[go_sem]
 refine⟨_,ah.refl _,?_⟩
 simp only[go_sem]
 exact S.pack S1 (K1.down a7) (by simp only[Emit.kH,ao,hbf,x6]) rfl (rs':=[]) rfl
theorem If {n:Int}:IntKind.u32.wrap ((BitVec.ofInt 32 n &&&BitVec.ofInt 32 65535).toNat:Int)=n%65536:=by
 rw[show (65535:Int)=((65535:Nat):Int) from rfl,RD,H2,H2,show (((65535:Nat):Int)%(2^32:Nat)).toNat=65535 by omega,show (n%(2^32:Nat)).toNat &&&65535=(n%(2^32:Nat)).toNat%65536 from I0 _ 16,IntKind.wrap_u32]
 omega
theorem JL {n:Int}:n.fdiv ((2:Int)^min 16 32)=n/65536:=by
 rw[show (2:Int)^min 16 32=65536 from rfl,I9 _ a7]
theorem CY (reg n:Int):bW 130 [iv .i64 reg,iv .u32 n] (Emit.uy reg n) k:=by
 intro B G D H gG code holes g ob S hg hl hh
 have hGB:=S.gB;have hDB:=S.dB;have hHB:=S.hB
 refine al B [G,D,H] ae mixed Tryz.func130 rfl b9 [] rfl c9 c9 (by simp[Tryz.ntmps130]) (by simp;omega) S.top fun b₀ β0 s0 w0=>?_
 have hw1:IntKind.i64.wrap (n%65536)=n%65536:=by rw[wrap_i64] <;> omega
 have hw2:IntKind.i64.wrap (n/65536)=Emit.hi16 n:=by rw[IntKind.wrap_i64];unfold Emit.hi16;omega
 by_cases hn:65535<n
 ·have e0:Emit.uy reg n=ar (ao 1 reg 0 (n%65536)) (ao 2 reg 0 (Emit.hi16 n)):=if_pos hn
  rw[e0] at hl hh ⊢
  simp only[ar,ao,j5,j7,j8] at hl hh
  simp only[go_sem,hn]
  erw[If]
  rw[hw1]
  refine aK aa rfl (di 1 reg 0 (n%65536) k) (B+20) G D H gG code holes (by simp only[go_sem]) hg (S.up a7) (by simp only[ao,j7,j8];omega) hh ?_
  intro r g1 ob1 S1 K1
  simp only[go_sem,hn]
  have hw3:(n.fdiv ((2:Int)^min 16 32))=n/65536:=JL
  refine aK aa rfl (di 2 reg 0 (Emit.hi16 n) k) (B+20) G D H gG _ _ (by simp only[go_sem,hw3,hw2]) ((K1.gen G a7 S.gd S.gh).trans hg) S1 (by simp only[ao,j5,j7,j8];omega) (by simp only[ao,n0,j8];omega) ?_
  intro r g2 ob2 S2 K2
  simp only[go_sem]
  refine⟨_,ah.refl _,?_⟩
  simp only[go_sem]
  exact S.pack S2 ((K1.trans K2).down a7) (by simp only[ar,ao,s6]) (by simp only[ar,ao,s6]) (rs':=[]) rfl
 ·have e0:Emit.uy reg n=ao 1 reg 0 (n%65536):=if_neg hn
  rw[e0] at hl hh ⊢
  simp only[go_sem,hn]
  erw[If]
  rw[hw1]
  refine aK aa rfl (di 1 reg 0 (n%65536) k) (B+20) G D H gG code holes (by simp only[go_sem]) hg (S.up a7) hl hh ?_
  intro r g1 ob1 S1 K1
  simp only[go_sem,hn]
  refine⟨_,ah.refl _,?_⟩
  simp only[go_sem]
  exact S.pack S1 (K1.down a7) rfl rfl (rs':=[]) rfl
theorem Gj (hP:kK k fs P f dp):bW 145 [] (Emit.uz fs P f dp) k:=by
 intro B G D H gG code holes g ob S hg hl hh
 have hGB:=S.gB;have hDB:=S.dB;have hHB:=S.hB
 refine al B [G,D,H] ae mixed Tryz.func145 rfl b9 [] rfl c9 c9 (by simp[Tryz.ntmps145]) (by simp;omega) S.top fun b₀ β0 s0 w0=>?_
 have ho':=S.oG
 unfold aT.cells at ho'
 rw[hP.b,hP.fn,hP.d,hP.s,hP.bk] at ho'
 have hfl:=hP.fl
 have hfz:=hP.fz
 have hbl:=hP.bl
 have hw:IntKind.i64.wrap ((fs.length:Int)-1)=(fs.length:Int)-1:=by rw[wrap_i64] <;> omega
 obtain⟨bf,hbf⟩:=getq (show f<P.back.length by omega)
 obtain⟨fx,hfx⟩:=getq hfl
 have hf0:(0:Int)≤(f:Int):=a7
 have hf1:(f:Int)<(fs.length:Int):=a7
 have hf2:(f:Int)<(P.back.length:Int):=a7
 have hf3:f<P.back.length:=a7
 simp only[go_sem]
 refine aI j0 ?_
 by_cases hl2:(f:Int)=(fs.length:Int)-1
 ·have e0:Emit.uz fs P f dp=ao 26 0 0 0:=if_pos a7
  rw[e0] at hl hh ⊢
  simp only[go_sem,ho',hg,j6,hw,r0 hl2]
  refine aK aa rfl (di 26 0 0 0 k) (B+45) G D H gG code holes (by simp only[go_sem]) hg (S.up a7) hl hh ?_
  intro r g1 ob1 S1 K1
  simp only[go_sem]
  refine⟨_,ah.refl _,?_⟩
  simp only[go_sem]
  exact S.pack S1 (K1.down a7) rfl rfl (rs':=[]) rfl
 ·simp only[go_sem,ho',hg,j6,hw,hl2]
  refine aI j0 ?_
  simp only[go_sem,ho',hg,j6,hf0,hf1,hfl,hfx,sfD]
  cases hwd:fx.word
  ·have e0:Emit.uz fs P f dp=ar (ao 16 14 0 bf) (ao 22 14 0 0):=by
    unfold Emit.uz
    rw[if_neg a7,hfx]
    simp only[w7,x6,hwd,hbf,B7,A3]
   rw[e0] at hl hh ⊢
   simp only[ar,ao,j5,j7,j8] at hl hh
   simp only[go_sem]
   refine aI j0 ?_
   simp only[go_sem,ho',hg,ksD,j6,hf0,hf2,hf3,hbf]
   refine aK aa rfl (di 16 14 0 bf k) (B+45) G D H gG code holes (by simp only[go_sem]) hg (S.up a7) (by simp only[ao,j7,j8];omega) hh ?_
   intro r2 g2 ob2 S2 K2
   simp only[go_sem]
   refine aK aa rfl (di 22 14 0 0 k) (B+45) G D H gG _ _ (by first|rfl|simp only[go_sem]) ((K2.gen G (by omega) S.gd S.gh).trans hg) S2 (by simp only[ao,j5,j7,j8];omega) (by simp only[ao,n0,j8];omega) ?_
   intro r3 g3 ob3 S3 K3
   simp only[go_sem]
   refine⟨_,ah.refl _,?_⟩
   simp only[go_sem]
   exact S.pack S3 ((K2.trans K3).down a7) (by simp only[ar,ao,s6]) (by simp only[ar,ao,s6]) (rs':=[]) rfl
  ·have e0:Emit.uz fs P f dp=ar (Emit.jD P f dp 1 1) (ar (ao 16 14 0 bf) (ao 22 14 0 0)):=by
    unfold Emit.uz
    rw[if_neg a7,hfx]
    simp only[w7,x6,hwd,hbf,A4]
   rw[e0] at hl hh ⊢
   simp only[ar,ao,Emit.jD,j5,j7,j8] at hl hh
   simp only[go_sem]
   refine aK aa rfl (jr hP 1 1 c8) (B+45) G D H gG code holes (by simp only[go_sem]) hg (S.up a7) (by simp only[ao,Emit.jD,j7,j8];omega) (by simp only[ao,Emit.jD,j8];omega) ?_
   intro r1 g1 ob1 S1 K1
   have hg1:g1 G=gG:=(K1.gen G a7 S.gd S.gh).trans hg
   have ho1:=S1.oG
   unfold aT.cells at ho1
   rw[hP.b,hP.fn,hP.d,hP.s,hP.bk] at ho1
   simp only[go_sem]
   refine aI j0 ?_
   simp only[go_sem,ho1,hg1,ksD,j6,hf0,hf2,hf3,hbf]
   refine aK aa rfl (di 16 14 0 bf k) (B+45) G D H gG _ _ (by simp only[go_sem]) hg1 S1 (by simp only[ao,Emit.jD,j5,j7,j8];omega) (by simp only[ao,Emit.jD,n0,j8];omega) ?_
   intro r2 g2 ob2 S2 K2
   simp only[go_sem]
   refine aK aa rfl (di 22 14 0 0 k) (B+45) G D H gG _ _ (by first|rfl|simp only[go_sem]) ((K2.gen G (by omega) S.gd S.gh).trans hg1) S2 (by simp only[ao,Emit.jD,j5,j7,j8];omega) (by simp only[ao,Emit.jD,n0,j8];omega) ?_
   intro r3 g3 ob3 S3 K3
   simp only[go_sem]
   refine⟨_,ah.refl _,?_⟩
   simp only[go_sem]
   exact S.pack S3 ((K1.trans (K2.trans K3)).down a7) (by simp only[ar,ao,Emit.jD,s6]) (by simp only[ar,ao,Emit.jD,s6]) (rs':=[]) rfl
end
theorem Gk {k:aT} (a b:Int) (h0:0≤a) (hab:a≤b) (hb:b≤1000000000000000):bW 148 [iv .i64 a,iv .i64 b] (Emit.uB a b) k:=by
 intro B G D H gG code holes g ob S hg hl hh
 have hGB:=S.gB;have hDB:=S.dB;have hHB:=S.hB
 refine al B [G,D,H] ae mixed Tryz.func148 rfl b9 [] rfl c9 c9 (by simp[Tryz.ntmps148]) (by simp;omega) S.top fun b₀ β0 s0 w0=>?_
 have hw:IntKind.i64.wrap (b-a)=b-a:=by rw[wrap_i64] <;> omega
 by_cases h6:b-a≤6
 ·have e0:Emit.uB a b=Emit.uA a (b-a).toNat:=if_pos h6
  rw[e0] at hl hh ⊢
  have hz:∀(j n:Nat),(Emit.uA a j n).code.length=j∧(Emit.uA a j n).holes=[]:=by
   intro j
   induction j with
   |zero=>intro n;exact⟨rfl,rfl⟩
   |succ j ih=>intro n;exact⟨by simp[Emit.uA,ar,ao,(ih _).1],by simp[Emit.uA,ar,ao,(ih _).2]⟩
  rw[(hz _ _).1] at hl
  simp only[go_sem,hw,h6]
  refine ak (fun m st=>∃j:Nat,m+j=(b-a).toNat∧st.f 0=.one (.ptr G gG 0)∧st.f 2=iv .i64 b∧st.f 6=iv .i64 (a+j)∧dg (B+41) G D H k (code++(Emit.uA a j code.length).code) (holes++(Emit.uA a j code.length).holes) st.gen st.obj∧bP (B+41) G D H g ob st.gen st.obj) (b-a).toNat ?_ ?_
  ·refine⟨0,rfl,?_⟩
   simp only[go_sem,Emit.uA,ea,n0]
   exact⟨a8,S.up a7,.refl⟩
  rintro m f g1 ob1 ⟨j,hm,q0,q2,q6,S1,K1⟩
  simp only at q0 q2 q6 S1 K1
  by_cases hlt:a+j<b
  ·have hwx:IntKind.i64.wrap (a+j+1)=a+j+1:=by rw[wrap_i64] <;> omega
   simp only[go_sem,q0,q2,q6,hlt]
   refine aK aa rfl (di 17 0 0 (a+j) k) (B+41) G D H gG _ _ (by simp only[go_sem,q0]) ((K1.gen G a7 S.gd S.gh).trans hg) S1 (by simp only[j5,(hz _ _).1,ao,j7,j8];omega) (by simp only[j5,(hz _ _).2,ao,j8];rw[(hz _ _).2] at hh;simpa using hh) ?_
   intro r g2 ob2 S2 K2
   simp only[go_sem,q6,hwx]
   refine ai (m-1) a7 ⟨j+1,a7,?_⟩
   simp only[go_sem,q0,q2]
   refine⟨by first|omega|(rw[show a+(j:Int)+1=a+((j+1:Nat):Int) by omega]),?_,K1.trans K2⟩
   simp only[Emit.uA,ar,←s6]
   exact S2
  ·obtain rfl:j=(b-a).toNat:=a7
   simp only[go_sem,q2,q6,hlt]
   refine⟨_,ah.refl _,?_⟩
   simp only[go_sem]
   exact S.pack S1 (K1.down a7) rfl rfl (rs':=[]) rfl
 ·have e0:Emit.uB a b=fun n=>⟨[(1,1,0,a),(1,2,0,b),(17,0,1,0),(4,1,1,15),(14,3,1,2),(20,3,0,(n:Int)+2)],[]⟩:=if_neg h6
  rw[e0] at hl hh ⊢
  simp only[j7,j8] at hl hh
  have hc2:∀x:Nat,x≤100000000→IntKind.i64.wrap (x:Int)=(x:Int):=fun x hx=>by rw[wrap_i64] <;> omega
  simp only[go_sem,hw,h6]
  refine aK aa rfl (di 1 1 0 a k) (B+41) G D H gG code holes (by first|rfl|simp only[go_sem]) hg (S.up (by omega)) (by simp only[ao,j5,j7,j8];omega) (by simp only[ao,n0,j8];omega) ?_
  intro r1 g1 ob1 S1 K1
  have hg1:g1 G=gG:=(K1.gen G a7 S.gd S.gh).trans hg
  simp only[go_sem]
  refine aK aa rfl (di 1 2 0 b k) (B+41) G D H gG _ _ (by first|rfl|simp only[go_sem]) hg1 S1 (by simp only[ao,j5,j7,j8];omega) (by simp only[ao,n0,j8];omega) ?_
  intro r2 g2 ob2 S2 K2
  have hg2:g2 G=gG:=(K2.gen G a7 S.gd S.gh).trans hg1
  have hx:=S2.oG
  unfold aT.cells at hx
  simp only[go_sem,hx,hg2]
  refine⟨by rw[S2.oD];rfl,?_⟩
  refine aK aa rfl (di 17 0 1 0 k) (B+41) G D H gG _ _ (by first|rfl|simp only[go_sem]) hg2 S2 (by simp only[ao,j5,j7,j8];omega) (by simp only[ao,n0,j8];omega) ?_
  intro r3 g3 ob3 S3 K3
  have hg3:g3 G=gG:=(K3.gen G a7 S.gd S.gh).trans hg2
  simp only[go_sem]
  refine aK aa rfl (di 4 1 1 15 k) (B+41) G D H gG _ _ (by first|rfl|simp only[go_sem]) hg3 S3 (by simp only[ao,j5,j7,j8];omega) (by simp only[ao,n0,j8];omega) ?_
  intro r4 g4 ob4 S4 K4
  have hg4:g4 G=gG:=(K4.gen G a7 S.gd S.gh).trans hg3
  simp only[go_sem]
  refine aK aa rfl (di 14 3 1 2 k) (B+41) G D H gG _ _ (by first|rfl|simp only[go_sem]) hg4 S4 (by simp only[ao,j5,j7,j8];omega) (by simp only[ao,n0,j8];omega) ?_
  intro r5 g5 ob5 S5 K5
  have hg5:g5 G=gG:=(K5.gen G a7 S.gd S.gh).trans hg4
  simp only[go_sem]
  refine aK aa rfl (di 20 3 0 ((code.length:Int)+2) k) (B+41) G D H gG _ _ (by (first|rfl|simp only[go_sem,ao,j5,j7,j8]);rfl) hg5 S5 (by simp only[ao,j5,j7,j8];omega) (by simp only[ao,n0,j8];omega) ?_
  intro r6 g6 ob6 S6 K6
  simp only[go_sem]
  refine⟨_,ah.refl _,?_⟩
  simp only[go_sem]
  exact S.pack S6 ((K1.trans (K2.trans (K3.trans (K4.trans (K5.trans K6))))).down a7) (by simp only[ao,s6,z6,x9]) (by simp only[ao,n0]) (rs':=[]) rfl
theorem xZ {k:aT} (op a f pl:Int):bW 140 [iv .i64 op,iv .i64 a,iv .i64 f,iv .i64 pl] (au op a f pl) k:=by
 intro B G D H gG code holes g ob S hg hl hh
 have hG:=S.gB;have hD:=S.dB;have hH:=S.hB
 have hGD:=S.gd;have hGH:=S.gh;have hDH:=S.dh
 have hc:=S.oD
 have hHo:=S.oH
 simp only[au,j7,j8] at hl hh
 refine al B [G,D,H] ae mixed Tryz.func140 rfl b9 [] rfl c9 c9 (by simp[Tryz.ntmps140]) (by simp;omega) S.top fun b₀ β0 s0 w0=>?_
 have ho':=S.oG
 unfold aT.cells at ho'
 have n1:∀k,(G=B+k)=False:=fun k=>by simp;omega
 have n2:∀k,(D=B+k)=False:=fun k=>by simp;omega
 have n3:∀k,(H=B+k)=False:=fun k=>by simp;omega
 have n4:(G=H)=False:=by simp[hGH]
 have n5:(H=G)=False:=by simp[y9 hGH]
 simp only[go_sem]
 refine fO ae mixed aa [B+23,H,G] [([0],[0,1,2],[],false),([0],[0],[],false),([11],[0],[],false),([12],[0],[],false),([13],[0],[],false),([0],[],[],false),([15],[],[],false),([16],[],[],false),([17],[],[],false),([18],[],[],false),([3],[],[],false),([4],[],[],false),([19,20,21],[],[],false),([22],[],[0],false),([14,23],[],[1],false),([10],[],[],false),([25],[],[],false),([26,24],[],[],true)] 3 rfl j0 rfl (by simp;omega) ?_
 have hhn:=wm holes
 have hcn:=fR code
 simp only[go_sem]
 iterate 10 (apply aH;(case hg=>first|exact w9|exact⟨_,rfl,by decide,rfl⟩);(case h1=>intro fa ga oa K' hK;simp only[go_sem,n1,n2,n3,n4,n5,ho',hg,hc,hcn] at hK ⊢;exact hK))
 iterate 3 (apply aH;(case hg=>first|exact w9|exact⟨_,rfl,by decide,rfl⟩);(case h1=>intro fa ga oa K' hK;simp only[go_sem,n1,n2,n3,n4,n5] at hK ⊢;exact hK))
 (apply db;(case hg=>first|exact w9|exact⟨_,rfl,by decide,rfl⟩);(case h1=>intro fa ga oa K' hK;simp only[go_sem,aD] at hK ⊢;exact hK))
 refine db (a:=1) (v:=.one (.osl H (nxC (apC 193 (g H) 0) (g H)) 3 0 (holes.length+1))) (x:=nxC (apC 193 (g H) 0) (g H)) (y:=some (lj (holes++[((code.length:Int),f,pl)]))) w9 (fun fa ga oa K' hK=>?_) ?_
 ·have e1:List.take (holes.length*3) (lj holes)++[C.d (.int .i64 (code.length:Int)),C.d (.int .i64 f),C.d (.int .i64 pl)]=lj (holes++[((code.length:Int),f,pl)]):=by
   rw[l6 (by rw[hhn];exact l4 _),CW]
   simp[lj]
  simp only[go_sem,aD,hHo,hhn,n1,n2,n3,n4,n5] at hK ⊢
  rw[e1]
  exact⟨a7,⟨c8,a7⟩,hK⟩
 iterate 2 (apply aH;(case hg=>first|exact w9|exact⟨_,rfl,by decide,rfl⟩);(case h1=>intro fa ga oa K' hK;simp only[go_sem,n1,n2,n3,n4,n5,ho',hg] at hK ⊢;exact hK))
 refine fP w9 ?_
 intro K' hK'
 simp only[go_sem,n1,n2,n3,n4,n5,ho',hg]
 refine hK' _ ?_
 clear hK' K'
 have hDH2:(D=H)=False:=by simp[hDH]
 have hDG2:(D=G)=False:=by simp[y9 hGD]
 simp only[go_sem]
 obtain⟨gH,hgH⟩:∃x,nxC (apC 193 (g H) 0) (g H)=x:=⟨_,rfl⟩
 rw[hgH]
 refine aK aa rfl (di op a 0 0 k) (B+31) G D H gG code (holes++[((code.length:Int),f,pl)]) (by first|rfl|simp only[go_sem]) (by simp only[upd];rw[if_neg hGH];(repeat rw[if_neg (by omega)]);exact hg) ⟨fun i hi=>nt (S.top i (by omega)),by omega,by omega,by omega,hGD,hGH,hDH,?_,?_,?_,fun x hx=>zo (by omega) (S.low x hx)⟩ (by simp only[ao,j7,j8];omega) (by simp only[ao,j5,j7,j8];omega) ?_
 ·simp only[upd,aT.cells,j5,j7,j8]
  rw[if_pos trivial,if_neg hDH]
  (repeat rw[if_neg (by omega)])
  try rfl
 ·simp only[upd]
  rw[if_neg (y9 hGD),if_neg hDH]
  (repeat rw[if_neg (by omega)])
  exact hc
 ·simp only[upd]
  rw[if_neg (y9 hGH)]
  try rw[if_pos trivial]
 intro r g' ob' S1 K1
 simp only[go_sem]
 refine⟨_,ah.refl _,?_⟩
 simp only[go_sem]
 refine S.pack S1 ⟨fun i hi e2 e3=>(K1.gen i a7 e2 e3).trans ?_,fun i hi e1 e2 e3=>(K1.fr i a7 e1 e2 e3).trans ?_⟩ (by simp only[au,ao]) (by simp only[au,ao,n0]) (rs':=[]) rfl
 ·simp only[upd];rw[if_neg e3,if_neg a7]
 ·simp only[upd];rw[if_neg e1,if_neg e3];(repeat rw[if_neg (by omega)])
theorem wn (P:Emit.Plan) (f:Nat) (dp params first:Int):∀j n:Nat,(Emit.BT P f dp params first j n).code.length=2*j∧(Emit.BT P f dp params first j n).holes=[]
 |0,n=>⟨by simp[Emit.BT,ea],by simp[Emit.BT,ea]⟩
 |j+1,n=>by
   have ih:=wn P f dp params first j
   exact⟨by simp[Emit.BT,ar,ao,Emit.jD,(ih _).1];omega,by simp[Emit.BT,ar,ao,Emit.jD,(ih _).2]⟩
theorem JM {k:aT}{fs:List Src.CFn}{P:Emit.Plan}{f:Nat}{dp:Int} (hP:kK k fs P f dp) (x:Ins) {c:Nat}{y:Src.CFn} (hc:x.a=(c:Int)) (hy:fs[c]? = some y):bW 143 [.agg ((aZ x).map .d)] (Emit.yJ fs P f dp x.a) k:=by
 intro B G D H gG code holes g ob S hg hl hh
 have hGB:=S.gB;have hDB:=S.dB;have hHB:=S.hB
 have hGD:=S.gd;have hGH:=S.gh;have hDH:=S.dh
 refine al B [G,D,H] ae mixed Tryz.func143 rfl b9 [] rfl c9 c9 (by simp[Tryz.ntmps143]) (by simp;omega) S.top fun b₀ β0 s0 w0=>?_
 obtain⟨op,a,b,n⟩:=x
 simp only at hc
 subst hc
 have e0:Emit.yJ fs P f dp (c:Int)=ar (Emit.BT P f dp y.params y.first y.params.toNat) (ar (au 21 14 (c:Int) (-1)) (if y.word then Emit.kH P f dp 1 y.params else ea)):=by
  unfold Emit.yJ
  rw[A6,hy]
 rw[e0] at hl hh ⊢
 have ho':=S.oG
 unfold aT.cells at ho'
 rw[hP.s] at ho'
 have hcl:c<fs.length:=(l5.1 hy).1
 have hc0:(0:Int)≤(c:Int):=a7
 have hc1:(c:Int)<(fs.length:Int):=a7
 obtain⟨hp0,hp1,hf0,hf1⟩:=hP.pz y (l8 hy)
 have n1:∀k,(G=B+k)=False:=fun k=>by simp;omega
 have n2:∀k,(D=B+k)=False:=fun k=>by simp;omega
 have n3:∀k,(H=B+k)=False:=fun k=>by simp;omega
 simp only[go_sem,aZ]
 refine fO ae mixed aa [B+4] [([0],[0],[],false),([6],[0],[],false),([7],[0],[],false),([8],[0],[],false),([9],[0],[],false),([3],[0],[],false),([11],[0],[],false),([10,12],[0],[],false),([13],[0],[],false),([],[],[0],false),([4,14],[],[],true)] 1 rfl j0 rfl a8 ?_
 simp only[go_sem]
 iterate 7 (apply aH;(case hg=>first|exact w9|exact⟨_,rfl,by decide,rfl⟩);(case h1=>intro fa ga oa K' hK;simp only[go_sem,n1,n2,n3,ho',hg] at hK ⊢;exact hK))
 iterate 2 (apply aH;(case hg=>first|exact w9|exact⟨_,rfl,by decide,rfl⟩);(case h1=>intro fa ga oa K' hK;simp only[go_sem,n1,n2,n3,ho',hg,hc0,hc1,hcl,hy,j6,sfD] at hK ⊢;exact hK))
 (apply db;(case hg=>first|exact w9|exact⟨_,rfl,by decide,rfl⟩);(case h1=>intro fa ga oa K' hK;simp only[go_sem,n1,n2,n3] at hK ⊢;exact hK))
 refine fP w9 ?_
 intro K' hK'
 simp only[go_sem,n1,n2,n3]
 refine hK' _ ?_
 clear hK' K'
 simp only[go_sem]
 have hal:=wn P f dp y.params y.first
 have hlen1:code.length+(2*y.params.toNat+2)≤100000000+1:=by
  have h1:(ar (Emit.BT P f dp y.params y.first y.params.toNat) (ar (au 21 14 (c:Int) (-1)) (if y.word then Emit.kH P f dp 1 y.params else ea)) code.length).code.length≥2*y.params.toNat+1:=by
   simp only[ar,au,j5,(hal _ _).1,j7,j8];omega
  omega
 have hlen2:holes.length+1≤100000000:=by
  have h1:(ar (Emit.BT P f dp y.params y.first y.params.toNat) (ar (au 21 14 (c:Int) (-1)) (if y.word then Emit.kH P f dp 1 y.params else ea)) code.length).holes.length≥1:=by
   simp only[ar,au,j5,(hal _ _).2,j7,j8];omega
  omega
 refine ak (fun m st=>∃j:Nat,m+j=y.params.toNat∧st.f 0=.one (.ptr G gG 0)∧st.f 3=.one (.ptr (B+3) (st.gen (B+3)) 0)∧st.f 4=.one (.ptr (B+4) (st.gen (B+4)) 0)∧st.f 16=iv .i64 y.params∧st.f 17=iv .i64 j∧st.obj (B+3)=some [.d (.int .i64 op),.d (.int .i64 c),.d (.int .i64 b),.d (.int .u32 n)]∧
  st.obj (B+4)=some [.d (.int .i64 y.params),.d (.int .i64 y.slots),.d (.int .i64 y.first),.d (.bool y.word),.d (qm (codeOf y.word y.body))]∧dg (B+43) G D H k (code++(Emit.BT P f dp y.params y.first j code.length).code) (holes++(Emit.BT P f dp y.params y.first j code.length).holes) st.gen st.obj∧bP B G D H g ob st.gen st.obj) y.params.toNat ?_ ?_
 ·refine⟨0,rfl,?_⟩
  simp only[go_sem,Emit.BT,ea,n0,n1,n2,n3]
  exact⟨(S.up (B':=B+43) a7).to (fun i hi=>nt (S.top i a7)) (nu) (nu) (nu) (nu) (nu),⟨fun i h1 h2 h3=>nu,fun i h1 h2 h3 h4=>nu⟩⟩
 rintro m fa g1 ob1 ⟨j,hm,q0,q3,q4,q16,q17,p3,p4,S1,K1⟩
 simp only at q0 q3 q4 q16 q17 p3 p4 S1 K1
 have hg1:g1 G=gG:=(K1.gen G a7 S.gd S.gh).trans hg
 have lg:=(Emit.BT P f dp y.params y.first j code.length)
 by_cases hlt:(j:Int)<y.params
 ·have hw1:IntKind.i64.wrap (y.params-j)=y.params-j:=by rw[wrap_i64] <;> omega
  have hw2:IntKind.i64.wrap (y.first+j)=y.first+j:=by rw[wrap_i64] <;> omega
  have hwj:=am (k:=j) a7
  simp only[go_sem,q0,q3,q4,q16,q17,hlt,p4,hw1]
  refine aK aa rfl (jr hP 1 (y.params-j) a7) (B+43) G D H gG _ _ (by simp only[go_sem,q0]) hg1 S1 (by simp only[j5,(hal _ _).1,ao,Emit.jD,j7,j8];omega) (by simp only[j5,(hal _ _).2,ao,Emit.jD,j8];omega) ?_
  intro r g2 ob2 S2 K2
  have hg2:g2 G=gG:=(K2.gen G a7 S.gd S.gh).trans hg1
  have p42:=(K2.fr (B+4) a7 a7 a7 a7).trans p4
  have p32:=(K2.fr (B+3) a7 a7 a7 a7).trans p3
  have g42:=K2.gen (B+4) a7 a7 a7
  have g32:=K2.gen (B+3) a7 a7 a7
  simp only[go_sem,q0,q3,q4,q16,q17,p42,g42,hw2]
  refine aK aa rfl (di 17 1 0 (y.first+j) k) (B+43) G D H gG _ _ (by simp only[go_sem,q0]) hg2 S2 (by simp only[j5,(hal _ _).1,ao,Emit.jD,j7,j8];omega) (by simp only[j5,(hal _ _).2,ao,Emit.jD,j8];omega) ?_
  intro r g3 ob3 S3 K3
  have p43:=(K3.fr (B+4) a7 a7 a7 a7).trans p42
  have p33:=(K3.fr (B+3) a7 a7 a7 a7).trans p32
  have g43:=(K3.gen (B+4) a7 a7 a7).trans g42
  have g33:=(K3.gen (B+3) a7 a7 a7).trans g32
  simp only[go_sem,q17,hwj]
  refine ai (m-1) a7 ⟨j+1,a7,?_⟩
  simp only[go_sem,q0,q3,q4,q16,p33,p43,g33,g43]
  refine⟨?_,K1.trans ((K2.trans K3).down a7)⟩
  simp only[Emit.BT,ar,←s6]
  simp only[j5,B6] at S3
  exact S3
 ·have hj:j=y.params.toNat:=a7
  subst hj
  simp only[go_sem,q0,q3,q4,q16,q17,hlt,p3]
  refine aK aa rfl (xZ 21 14 (c:Int) (-1)) (B+43) G D H gG _ _ (by simp only[go_sem,q0]) hg1 S1 (by simp only[j5,(hal _ _).1,au,j7,j8];omega) (by simp only[j5,(hal _ _).2,au,j7,j8];omega) ?_
  intro r g2 ob2 S2 K2
  have hg2:g2 G=gG:=(K2.gen G a7 S.gd S.gh).trans hg1
  have p42:=(K2.fr (B+4) a7 a7 a7 a7).trans p4
  have g42:=K2.gen (B+4) a7 a7 a7
  cases hwd:y.word with
  |false=>
    rw[hwd] at p42 hl hh
    simp only[go_sem,q0,q4,p42,g42]
    refine⟨_,ah.refl _,?_⟩
    simp only[go_sem]
    exact S.pack S2 (K1.trans (K2.down a7)) (by simp[ar,ea,s6,au]) (by simp[ar,ea,s6,au]) (rs':=[]) rfl
  |true=>
    rw[hwd] at p42 hl hh
    simp only[go_sem,q0,q4,p42,g42]
    refine aK aa rfl (kL hP 1 y.params a7) (B+43) G D H gG _ _ (by simp only[go_sem,q0]) hg2 S2 ?_ ?_ ?_
    ·simp only[ar,au,Emit.kH,ao,j5,(hal _ _).1,j7,j8,A4] at hl ⊢;omega
    ·simp only[ar,au,Emit.kH,ao,j5,(hal _ _).2,j7,j8,A4] at hh ⊢;omega
    intro r g3 ob3 S3 K3
    simp only[go_sem]
    refine⟨_,ah.refl _,?_⟩
    simp only[go_sem]
    exact S.pack S3 (K1.trans ((K2.trans K3).down a7)) (by simp[ar,ea,s6,au,Emit.kH,ao]) (by simp[ar,ea,s6,au,Emit.kH,ao]) (rs':=[]) rfl
section
variable {k:aT}{fs:List Src.CFn}{P:Emit.Plan}{f:Nat}{dp:Int}
theorem JN (hP:kK k fs P f dp) (a b n:Int):bW 129 [.agg ((aZ ⟨1,a,b,n⟩).map .d)] (Emit.sA fs P f dp ⟨1,a,b,n⟩) k:=by
 intro B G D H gG code holes g ob S hg hl hh
 have hGB:=S.gB;have hDB:=S.dB;have hHB:=S.hB
 have hGD:=S.gd;have hGH:=S.gh;have hDH:=S.dh
 refine al B [G,D,H] ae mixed Tryz.func129 rfl b9 [] rfl c9 c9 (by simp[Tryz.ntmps129]) (by simp;omega) S.top fun b₀ β0 s0 w0=>?_
 have n1:∀k,(G=B+k)=False:=fun k=>by simp;omega
 have n2:∀k,(D=B+k)=False:=fun k=>by simp;omega
 have n3:∀k,(H=B+k)=False:=fun k=>by simp;omega
 have ho':=S.oG
 unfold aT.cells at ho'
 rw[hP.fn] at ho'
 have e0:Emit.sA fs P f dp ⟨1,a,b,n⟩=(ar (Emit.uy 1 n) (Emit.kH P f dp 1 0)):=by simp[Emit.sA]
 rw[e0] at hl hh ⊢
 simp only[ar,ao,au,Emit.jD,Emit.kH,j5,j7,j8] at hl hh
 simp only[go_sem,aZ]
 obtain⟨gI,hgI⟩:∃x,nxC 244 (g (B+3))=x:=⟨_,rfl⟩
 have S0:dg (B+10) G D H k code holes (upd g (B+3) gI) (upd ob (B+3) (some [.d (.int .i64 1),.d (.int .i64 a),.d (.int .i64 b),.d (.int .u32 n)])):=(S.up a7).upd a7 a7 a7 a7 _ _
 have K0:bP B G D H g ob (upd g (B+3) gI) (upd ob (B+3) (some [.d (.int .i64 1),.d (.int .i64 a),.d (.int .i64 b),.d (.int .u32 n)])):=⟨fun i hi _ _=>nu,fun i hi _ _ _=>nu⟩
 have hg0:upd g (B+3) gI G=gG:=by simp only[upd];rw[if_neg a7];exact hg
 rw[hgI]
 refine aK aa rfl (CY 1 n) (B+10) G D H gG _ _ (by first|rfl|simp only[go_sem,hg0,aZ]) hg0 S0 (by first|exact hl|((try simp only[ar,ao,au,Emit.jD,Emit.kH,j5,j7,j8]);omega)) (by first|exact hh|((try simp only[ar,ao,au,Emit.jD,Emit.kH,j5,j7,j8,n0]);omega)) ?_
 intro r g1 ob1 S1 K1
 have hg1:g1 G=gG:=(K1.gen G a7 S.gd S.gh).trans hg0
 have p3_1:ob1 (B+3)=some [.d (.int .i64 1),.d (.int .i64 a),.d (.int .i64 b),.d (.int .u32 n)]:=(K1.fr (B+3) a7 a7 a7 a7).trans (by simp only[upd];rw[if_pos trivial])
 have g3_1:g1 (B+3)=gI:=(K1.gen (B+3) a7 a7 a7).trans (by simp only[upd];rw[if_pos trivial])
 simp only[go_sem,p3_1,g3_1]
 refine aK aa rfl (kL hP 1 0 c8) (B+10) G D H gG _ _ (by first|rfl|simp only[go_sem,p3_1,g3_1,aZ]) hg1 S1 (by first|exact hl|((try simp only[ar,ao,au,Emit.jD,Emit.kH,j5,j7,j8]);omega)) (by first|exact hh|((try simp only[ar,ao,au,Emit.jD,Emit.kH,j5,j7,j8,n0]);omega)) ?_
 intro r g2 ob2 S2 K2
 simp only[go_sem]
 refine⟨_,ah.refl _,?_⟩
 simp only[go_sem]
 exact S.pack S2 (K0.trans (bP.down (K1.trans K2) a7)) (by simp only[ar,ao,au,Emit.jD,Emit.kH,j5,j7,j8,s6,n0,x9]) (by simp only[ar,ao,au,Emit.jD,Emit.kH,j5,j7,j8,s6,n0,x9]) (rs':=[]) rfl
theorem JO (hP:kK k fs P f dp) (a b n:Int):bW 132 [.agg ((aZ ⟨2,a,b,n⟩).map .d)] (Emit.sA fs P f dp ⟨2,a,b,n⟩) k:=by
 intro B G D H gG code holes g ob S hg hl hh
 have hGB:=S.gB;have hDB:=S.dB;have hHB:=S.hB
 have hGD:=S.gd;have hGH:=S.gh;have hDH:=S.dh
 refine al B [G,D,H] ae mixed Tryz.func132 rfl b9 [] rfl c9 c9 (by simp[Tryz.ntmps132]) (by simp;omega) S.top fun b₀ β0 s0 w0=>?_
 have n1:∀k,(G=B+k)=False:=fun k=>by simp;omega
 have n2:∀k,(D=B+k)=False:=fun k=>by simp;omega
 have n3:∀k,(H=B+k)=False:=fun k=>by simp;omega
 have ho':=S.oG
 unfold aT.cells at ho'
 rw[hP.fn] at ho'
 have e0:Emit.sA fs P f dp ⟨2,a,b,n⟩=(ar (ao 16 1 0 a) (Emit.kH P f dp 1 0)):=by simp[Emit.sA]
 rw[e0] at hl hh ⊢
 simp only[ar,ao,au,Emit.jD,Emit.kH,j5,j7,j8] at hl hh
 simp only[go_sem,aZ]
 obtain⟨gI,hgI⟩:∃x,nxC 244 (g (B+3))=x:=⟨_,rfl⟩
 have S0:dg (B+10) G D H k code holes (upd g (B+3) gI) (upd ob (B+3) (some [.d (.int .i64 2),.d (.int .i64 a),.d (.int .i64 b),.d (.int .u32 n)])):=(S.up a7).upd a7 a7 a7 a7 _ _
 have K0:bP B G D H g ob (upd g (B+3) gI) (upd ob (B+3) (some [.d (.int .i64 2),.d (.int .i64 a),.d (.int .i64 b),.d (.int .u32 n)])):=⟨fun i hi _ _=>nu,fun i hi _ _ _=>nu⟩
 have hg0:upd g (B+3) gI G=gG:=by simp only[upd];rw[if_neg a7];exact hg
 rw[hgI]
 refine aK aa rfl (di 16 1 0 a k) (B+10) G D H gG _ _ (by first|rfl|simp only[go_sem,hg0,aZ]) hg0 S0 (by first|exact hl|((try simp only[ar,ao,au,Emit.jD,Emit.kH,j5,j7,j8]);omega)) (by first|exact hh|((try simp only[ar,ao,au,Emit.jD,Emit.kH,j5,j7,j8,n0]);omega)) ?_
 intro r g1 ob1 S1 K1
 have hg1:g1 G=gG:=(K1.gen G a7 S.gd S.gh).trans hg0
 have p3_1:ob1 (B+3)=some [.d (.int .i64 2),.d (.int .i64 a),.d (.int .i64 b),.d (.int .u32 n)]:=(K1.fr (B+3) a7 a7 a7 a7).trans (by simp only[upd];rw[if_pos trivial])
 have g3_1:g1 (B+3)=gI:=(K1.gen (B+3) a7 a7 a7).trans (by simp only[upd];rw[if_pos trivial])
 simp only[go_sem,p3_1,g3_1]
 refine aK aa rfl (kL hP 1 0 c8) (B+10) G D H gG _ _ (by first|rfl|simp only[go_sem,p3_1,g3_1,aZ]) hg1 S1 (by first|exact hl|((try simp only[ar,ao,au,Emit.jD,Emit.kH,j5,j7,j8]);omega)) (by first|exact hh|((try simp only[ar,ao,au,Emit.jD,Emit.kH,j5,j7,j8,n0]);omega)) ?_
 intro r g2 ob2 S2 K2
 simp only[go_sem]
 refine⟨_,ah.refl _,?_⟩
 simp only[go_sem]
 exact S.pack S2 (K0.trans (bP.down (K1.trans K2) a7)) (by simp only[ar,ao,au,Emit.jD,Emit.kH,j5,j7,j8,s6,n0,x9]) (by simp only[ar,ao,au,Emit.jD,Emit.kH,j5,j7,j8,s6,n0,x9]) (rs':=[]) rfl
theorem JP (hP:kK k fs P f dp) (a b n:Int):bW 133 [.agg ((aZ ⟨3,a,b,n⟩).map .d)] (Emit.sA fs P f dp ⟨3,a,b,n⟩) k:=by
 intro B G D H gG code holes g ob S hg hl hh
 have hGB:=S.gB;have hDB:=S.dB;have hHB:=S.hB
 have hGD:=S.gd;have hGH:=S.gh;have hDH:=S.dh
 refine al B [G,D,H] ae mixed Tryz.func133 rfl b9 [] rfl c9 c9 (by simp[Tryz.ntmps133]) (by simp;omega) S.top fun b₀ β0 s0 w0=>?_
 have n1:∀k,(G=B+k)=False:=fun k=>by simp;omega
 have n2:∀k,(D=B+k)=False:=fun k=>by simp;omega
 have n3:∀k,(H=B+k)=False:=fun k=>by simp;omega
 have ho':=S.oG
 unfold aT.cells at ho'
 rw[hP.fn] at ho'
 have e0:Emit.sA fs P f dp ⟨3,a,b,n⟩=(ar (Emit.jD P f dp 1 1) (ao 17 1 0 a)):=by simp[Emit.sA]
 rw[e0] at hl hh ⊢
 simp only[ar,ao,au,Emit.jD,Emit.kH,j5,j7,j8] at hl hh
 simp only[go_sem,aZ]
 obtain⟨gI,hgI⟩:∃x,nxC 244 (g (B+3))=x:=⟨_,rfl⟩
 have S0:dg (B+10) G D H k code holes (upd g (B+3) gI) (upd ob (B+3) (some [.d (.int .i64 3),.d (.int .i64 a),.d (.int .i64 b),.d (.int .u32 n)])):=(S.up a7).upd a7 a7 a7 a7 _ _
 have K0:bP B G D H g ob (upd g (B+3) gI) (upd ob (B+3) (some [.d (.int .i64 3),.d (.int .i64 a),.d (.int .i64 b),.d (.int .u32 n)])):=⟨fun i hi _ _=>nu,fun i hi _ _ _=>nu⟩
 have hg0:upd g (B+3) gI G=gG:=by simp only[upd];rw[if_neg a7];exact hg
 rw[hgI]
 refine aK aa rfl (jr hP 1 1 c8) (B+10) G D H gG _ _ (by first|rfl|simp only[go_sem,hg0,aZ]) hg0 S0 (by first|exact hl|((try simp only[ar,ao,au,Emit.jD,Emit.kH,j5,j7,j8]);omega)) (by first|exact hh|((try simp only[ar,ao,au,Emit.jD,Emit.kH,j5,j7,j8,n0]);omega)) ?_
 intro r g1 ob1 S1 K1
 have hg1:g1 G=gG:=(K1.gen G a7 S.gd S.gh).trans hg0
 have p3_1:ob1 (B+3)=some [.d (.int .i64 3),.d (.int .i64 a),.d (.int .i64 b),.d (.int .u32 n)]:=(K1.fr (B+3) a7 a7 a7 a7).trans (by simp only[upd];rw[if_pos trivial])
 have g3_1:g1 (B+3)=gI:=(K1.gen (B+3) a7 a7 a7).trans (by simp only[upd];rw[if_pos trivial])
 simp only[go_sem,p3_1,g3_1]
 refine aK aa rfl (di 17 1 0 a k) (B+10) G D H gG _ _ (by first|rfl|simp only[go_sem,p3_1,g3_1,aZ]) hg1 S1 (by first|exact hl|((try simp only[ar,ao,au,Emit.jD,Emit.kH,j5,j7,j8]);omega)) (by first|exact hh|((try simp only[ar,ao,au,Emit.jD,Emit.kH,j5,j7,j8,n0]);omega)) ?_
 intro r g2 ob2 S2 K2
 simp only[go_sem]
 refine⟨_,ah.refl _,?_⟩
 simp only[go_sem]
 exact S.pack S2 (K0.trans (bP.down (K1.trans K2) a7)) (by simp only[ar,ao,au,Emit.jD,Emit.kH,j5,j7,j8,s6,n0,x9]) (by simp only[ar,ao,au,Emit.jD,Emit.kH,j5,j7,j8,s6,n0,x9]) (rs':=[]) rfl
theorem JQ (hP:kK k fs P f dp) (a b n:Int):bW 135 [.agg ((aZ ⟨4,a,b,n⟩).map .d)] (Emit.sA fs P f dp ⟨4,a,b,n⟩) k:=by
 intro B G D H gG code holes g ob S hg hl hh
 have hGB:=S.gB;have hDB:=S.dB;have hHB:=S.hB
 have hGD:=S.gd;have hGH:=S.gh;have hDH:=S.dh
 refine al B [G,D,H] ae mixed Tryz.func135 rfl b9 [] rfl c9 c9 (by simp[Tryz.ntmps135]) (by simp;omega) S.top fun b₀ β0 s0 w0=>?_
 have n1:∀k,(G=B+k)=False:=fun k=>by simp;omega
 have n2:∀k,(D=B+k)=False:=fun k=>by simp;omega
 have n3:∀k,(H=B+k)=False:=fun k=>by simp;omega
 have ho':=S.oG
 unfold aT.cells at ho'
 rw[hP.fn] at ho'
 have e0:Emit.sA fs P f dp ⟨4,a,b,n⟩=(ar (Emit.jD P f dp 1 1) (ar (ao 25 1 0 b) (ar (ao 16 1 1 a) (Emit.kH P f dp 1 1)))):=by simp[Emit.sA]
 rw[e0] at hl hh ⊢
 simp only[ar,ao,au,Emit.jD,Emit.kH,j5,j7,j8] at hl hh
 simp only[go_sem,aZ]
 obtain⟨gI,hgI⟩:∃x,nxC 244 (g (B+3))=x:=⟨_,rfl⟩
 have S0:dg (B+16) G D H k code holes (upd g (B+3) gI) (upd ob (B+3) (some [.d (.int .i64 4),.d (.int .i64 a),.d (.int .i64 b),.d (.int .u32 n)])):=(S.up a7).upd a7 a7 a7 a7 _ _
 have K0:bP B G D H g ob (upd g (B+3) gI) (upd ob (B+3) (some [.d (.int .i64 4),.d (.int .i64 a),.d (.int .i64 b),.d (.int .u32 n)])):=⟨fun i hi _ _=>nu,fun i hi _ _ _=>nu⟩
 have hg0:upd g (B+3) gI G=gG:=by simp only[upd];rw[if_neg a7];exact hg
 rw[hgI]
 refine aK aa rfl (jr hP 1 1 c8) (B+16) G D H gG _ _ (by first|rfl|simp only[go_sem,hg0,aZ]) hg0 S0 (by first|exact hl|((try simp only[ar,ao,au,Emit.jD,Emit.kH,j5,j7,j8]);omega)) (by first|exact hh|((try simp only[ar,ao,au,Emit.jD,Emit.kH,j5,j7,j8,n0]);omega)) ?_
 intro r g1 ob1 S1 K1
 have hg1:g1 G=gG:=(K1.gen G a7 S.gd S.gh).trans hg0
 have p3_1:ob1 (B+3)=some [.d (.int .i64 4),.d (.int .i64 a),.d (.int .i64 b),.d (.int .u32 n)]:=(K1.fr (B+3) a7 a7 a7 a7).trans (by simp only[upd];rw[if_pos trivial])
 have g3_1:g1 (B+3)=gI:=(K1.gen (B+3) a7 a7 a7).trans (by simp only[upd];rw[if_pos trivial])
 simp only[go_sem,p3_1,g3_1]
 refine aK aa rfl (di 25 1 0 b k) (B+16) G D H gG _ _ (by first|rfl|simp only[go_sem,p3_1,g3_1,aZ]) hg1 S1 (by first|exact hl|((try simp only[ar,ao,au,Emit.jD,Emit.kH,j5,j7,j8]);omega)) (by first|exact hh|((try simp only[ar,ao,au,Emit.jD,Emit.kH,j5,j7,j8,n0]);omega)) ?_
 intro r g2 ob2 S2 K2
 have hg2:g2 G=gG:=(K2.gen G a7 S.gd S.gh).trans hg1
 have p3_2:ob2 (B+3)=some [.d (.int .i64 4),.d (.int .i64 a),.d (.int .i64 b),.d (.int .u32 n)]:=(K2.fr (B+3) a7 a7 a7 a7).trans p3_1
 have g3_2:g2 (B+3)=gI:=(K2.gen (B+3) a7 a7 a7).trans g3_1
 simp only[go_sem,p3_2,g3_2]
 refine aK aa rfl (di 16 1 1 a k) (B+16) G D H gG _ _ (by first|rfl|simp only[go_sem,p3_2,g3_2,aZ]) hg2 S2 (by first|exact hl|((try simp only[ar,ao,au,Emit.jD,Emit.kH,j5,j7,j8]);omega)) (by first|exact hh|((try simp only[ar,ao,au,Emit.jD,Emit.kH,j5,j7,j8,n0]);omega)) ?_
 intro r g3 ob3 S3 K3
 have hg3:g3 G=gG:=(K3.gen G a7 S.gd S.gh).trans hg2
 have p3_3:ob3 (B+3)=some [.d (.int .i64 4),.d (.int .i64 a),.d (.int .i64 b),.d (.int .u32 n)]:=(K3.fr (B+3) a7 a7 a7 a7).trans p3_2
 have g3_3:g3 (B+3)=gI:=(K3.gen (B+3) a7 a7 a7).trans g3_2
 simp only[go_sem,p3_3,g3_3]
 refine aK aa rfl (kL hP 1 1 c8) (B+16) G D H gG _ _ (by first|rfl|simp only[go_sem,p3_3,g3_3,aZ]) hg3 S3 (by first|exact hl|((try simp only[ar,ao,au,Emit.jD,Emit.kH,j5,j7,j8]);omega)) (by first|exact hh|((try simp only[ar,ao,au,Emit.jD,Emit.kH,j5,j7,j8,n0]);omega)) ?_
 intro r g4 ob4 S4 K4
 simp only[go_sem]
 refine⟨_,ah.refl _,?_⟩
 simp only[go_sem]
 exact S.pack S4 (K0.trans (bP.down (K1.trans (K2.trans (K3.trans K4))) a7)) (by simp only[ar,ao,au,Emit.jD,Emit.kH,j5,j7,j8,s6,n0,x9]) (by simp only[ar,ao,au,Emit.jD,Emit.kH,j5,j7,j8,s6,n0,x9]) (rs':=[]) rfl
theorem JR (hP:kK k fs P f dp) (a b n:Int):bW 136 [.agg ((aZ ⟨5,a,b,n⟩).map .d)] (Emit.sA fs P f dp ⟨5,a,b,n⟩) k:=by
 intro B G D H gG code holes g ob S hg hl hh
 have hGB:=S.gB;have hDB:=S.dB;have hHB:=S.hB
 have hGD:=S.gd;have hGH:=S.gh;have hDH:=S.dh
 refine al B [G,D,H] ae mixed Tryz.func136 rfl b9 [] rfl c9 c9 (by simp[Tryz.ntmps136]) (by simp;omega) S.top fun b₀ β0 s0 w0=>?_
 have n1:∀k,(G=B+k)=False:=fun k=>by simp;omega
 have n2:∀k,(D=B+k)=False:=fun k=>by simp;omega
 have n3:∀k,(H=B+k)=False:=fun k=>by simp;omega
 have ho':=S.oG
 unfold aT.cells at ho'
 rw[hP.fn] at ho'
 have e0:Emit.sA fs P f dp ⟨5,a,b,n⟩=(ar (Emit.jD P f dp 1 2) (ar (ao 25 1 0 b) (ar (Emit.jD P f dp 2 1) (ao 17 2 1 a)))):=by simp[Emit.sA]
 rw[e0] at hl hh ⊢
 simp only[ar,ao,au,Emit.jD,Emit.kH,j5,j7,j8] at hl hh
 simp only[go_sem,aZ]
 obtain⟨gI,hgI⟩:∃x,nxC 244 (g (B+3))=x:=⟨_,rfl⟩
 have S0:dg (B+16) G D H k code holes (upd g (B+3) gI) (upd ob (B+3) (some [.d (.int .i64 5),.d (.int .i64 a),.d (.int .i64 b),.d (.int .u32 n)])):=(S.up a7).upd a7 a7 a7 a7 _ _
 have K0:bP B G D H g ob (upd g (B+3) gI) (upd ob (B+3) (some [.d (.int .i64 5),.d (.int .i64 a),.d (.int .i64 b),.d (.int .u32 n)])):=⟨fun i hi _ _=>nu,fun i hi _ _ _=>nu⟩
 have hg0:upd g (B+3) gI G=gG:=by simp only[upd];rw[if_neg a7];exact hg
 rw[hgI]
 refine aK aa rfl (jr hP 1 2 c8) (B+16) G D H gG _ _ (by first|rfl|simp only[go_sem,hg0,aZ]) hg0 S0 (by first|exact hl|((try simp only[ar,ao,au,Emit.jD,Emit.kH,j5,j7,j8]);omega)) (by first|exact hh|((try simp only[ar,ao,au,Emit.jD,Emit.kH,j5,j7,j8,n0]);omega)) ?_
 intro r g1 ob1 S1 K1
 have hg1:g1 G=gG:=(K1.gen G a7 S.gd S.gh).trans hg0
 have p3_1:ob1 (B+3)=some [.d (.int .i64 5),.d (.int .i64 a),.d (.int .i64 b),.d (.int .u32 n)]:=(K1.fr (B+3) a7 a7 a7 a7).trans (by simp only[upd];rw[if_pos trivial])
 have g3_1:g1 (B+3)=gI:=(K1.gen (B+3) a7 a7 a7).trans (by simp only[upd];rw[if_pos trivial])
 simp only[go_sem,p3_1,g3_1]
 refine aK aa rfl (di 25 1 0 b k) (B+16) G D H gG _ _ (by first|rfl|simp only[go_sem,p3_1,g3_1,aZ]) hg1 S1 (by first|exact hl|((try simp only[ar,ao,au,Emit.jD,Emit.kH,j5,j7,j8]);omega)) (by first|exact hh|((try simp only[ar,ao,au,Emit.jD,Emit.kH,j5,j7,j8,n0]);omega)) ?_
 intro r g2 ob2 S2 K2
 have hg2:g2 G=gG:=(K2.gen G a7 S.gd S.gh).trans hg1
 have p3_2:ob2 (B+3)=some [.d (.int .i64 5),.d (.int .i64 a),.d (.int .i64 b),.d (.int .u32 n)]:=(K2.fr (B+3) a7 a7 a7 a7).trans p3_1
 have g3_2:g2 (B+3)=gI:=(K2.gen (B+3) a7 a7 a7).trans g3_1
 simp only[go_sem,p3_2,g3_2]
 refine aK aa rfl (jr hP 2 1 c8) (B+16) G D H gG _ _ (by first|rfl|simp only[go_sem,p3_2,g3_2,aZ]) hg2 S2 (by first|exact hl|((try simp only[ar,ao,au,Emit.jD,Emit.kH,j5,j7,j8]);omega)) (by first|exact hh|((try simp only[ar,ao,au,Emit.jD,Emit.kH,j5,j7,j8,n0]);omega)) ?_
 intro r g3 ob3 S3 K3
 have hg3:g3 G=gG:=(K3.gen G a7 S.gd S.gh).trans hg2
 have p3_3:ob3 (B+3)=some [.d (.int .i64 5),.d (.int .i64 a),.d (.int .i64 b),.d (.int .u32 n)]:=(K3.fr (B+3) a7 a7 a7 a7).trans p3_2
 have g3_3:g3 (B+3)=gI:=(K3.gen (B+3) a7 a7 a7).trans g3_2
 simp only[go_sem,p3_3,g3_3]
 refine aK aa rfl (di 17 2 1 a k) (B+16) G D H gG _ _ (by first|rfl|simp only[go_sem,p3_3,g3_3,aZ]) hg3 S3 (by first|exact hl|((try simp only[ar,ao,au,Emit.jD,Emit.kH,j5,j7,j8]);omega)) (by first|exact hh|((try simp only[ar,ao,au,Emit.jD,Emit.kH,j5,j7,j8,n0]);omega)) ?_
 intro r g4 ob4 S4 K4
 simp only[go_sem]
 refine⟨_,ah.refl _,?_⟩
 simp only[go_sem]
 exact S.pack S4 (K0.trans (bP.down (K1.trans (K2.trans (K3.trans K4))) a7)) (by simp only[ar,ao,au,Emit.jD,Emit.kH,j5,j7,j8,s6,n0,x9]) (by simp only[ar,ao,au,Emit.jD,Emit.kH,j5,j7,j8,s6,n0,x9]) (rs':=[]) rfl
theorem JS (hP:kK k fs P f dp) (a b n:Int):bW 137 [.agg ((aZ ⟨6,a,b,n⟩).map .d)] (Emit.sA fs P f dp ⟨6,a,b,n⟩) k:=by
 intro B G D H gG code holes g ob S hg hl hh
 have hGB:=S.gB;have hDB:=S.dB;have hHB:=S.hB
 have hGD:=S.gd;have hGH:=S.gh;have hDH:=S.dh
 refine al B [G,D,H] ae mixed Tryz.func137 rfl b9 [] rfl c9 c9 (by simp[Tryz.ntmps137]) (by simp;omega) S.top fun b₀ β0 s0 w0=>?_
 have n1:∀k,(G=B+k)=False:=fun k=>by simp;omega
 have n2:∀k,(D=B+k)=False:=fun k=>by simp;omega
 have n3:∀k,(H=B+k)=False:=fun k=>by simp;omega
 have ho':=S.oG
 unfold aT.cells at ho'
 rw[hP.fn] at ho'
 have e0:Emit.sA fs P f dp ⟨6,a,b,n⟩=(ar (Emit.jD P f dp 1 2) (ar (Emit.jD P f dp 2 1) (ar (ao a 1 1 2) (Emit.kH P f dp 1 2)))):=by simp[Emit.sA]
 rw[e0] at hl hh ⊢
 simp only[ar,ao,au,Emit.jD,Emit.kH,j5,j7,j8] at hl hh
 simp only[go_sem,aZ]
 obtain⟨gI,hgI⟩:∃x,nxC 244 (g (B+3))=x:=⟨_,rfl⟩
 have S0:dg (B+14) G D H k code holes (upd g (B+3) gI) (upd ob (B+3) (some [.d (.int .i64 6),.d (.int .i64 a),.d (.int .i64 b),.d (.int .u32 n)])):=(S.up a7).upd a7 a7 a7 a7 _ _
 have K0:bP B G D H g ob (upd g (B+3) gI) (upd ob (B+3) (some [.d (.int .i64 6),.d (.int .i64 a),.d (.int .i64 b),.d (.int .u32 n)])):=⟨fun i hi _ _=>nu,fun i hi _ _ _=>nu⟩
 have hg0:upd g (B+3) gI G=gG:=by simp only[upd];rw[if_neg a7];exact hg
 rw[hgI]
 refine aK aa rfl (jr hP 1 2 c8) (B+14) G D H gG _ _ (by first|rfl|simp only[go_sem,hg0,aZ]) hg0 S0 (by first|exact hl|((try simp only[ar,ao,au,Emit.jD,Emit.kH,j5,j7,j8]);omega)) (by first|exact hh|((try simp only[ar,ao,au,Emit.jD,Emit.kH,j5,j7,j8,n0]);omega)) ?_
 intro r g1 ob1 S1 K1
 have hg1:g1 G=gG:=(K1.gen G a7 S.gd S.gh).trans hg0
 have p3_1:ob1 (B+3)=some [.d (.int .i64 6),.d (.int .i64 a),.d (.int .i64 b),.d (.int .u32 n)]:=(K1.fr (B+3) a7 a7 a7 a7).trans (by simp only[upd];rw[if_pos trivial])
 have g3_1:g1 (B+3)=gI:=(K1.gen (B+3) a7 a7 a7).trans (by simp only[upd];rw[if_pos trivial])
 simp only[go_sem,p3_1,g3_1]
 refine aK aa rfl (jr hP 2 1 c8) (B+14) G D H gG _ _ (by first|rfl|simp only[go_sem,p3_1,g3_1,aZ]) hg1 S1 (by first|exact hl|((try simp only[ar,ao,au,Emit.jD,Emit.kH,j5,j7,j8]);omega)) (by first|exact hh|((try simp only[ar,ao,au,Emit.jD,Emit.kH,j5,j7,j8,n0]);omega)) ?_
 intro r g2 ob2 S2 K2
 have hg2:g2 G=gG:=(K2.gen G a7 S.gd S.gh).trans hg1
 have p3_2:ob2 (B+3)=some [.d (.int .i64 6),.d (.int .i64 a),.d (.int .i64 b),.d (.int .u32 n)]:=(K2.fr (B+3) a7 a7 a7 a7).trans p3_1
 have g3_2:g2 (B+3)=gI:=(K2.gen (B+3) a7 a7 a7).trans g3_1
 simp only[go_sem,p3_2,g3_2]
 refine aK aa rfl (di a 1 1 2 k) (B+14) G D H gG _ _ (by first|rfl|simp only[go_sem,p3_2,g3_2,aZ]) hg2 S2 (by first|exact hl|((try simp only[ar,ao,au,Emit.jD,Emit.kH,j5,j7,j8]);omega)) (by first|exact hh|((try simp only[ar,ao,au,Emit.jD,Emit.kH,j5,j7,j8,n0]);omega)) ?_
 intro r g3 ob3 S3 K3
 have hg3:g3 G=gG:=(K3.gen G a7 S.gd S.gh).trans hg2
 have p3_3:ob3 (B+3)=some [.d (.int .i64 6),.d (.int .i64 a),.d (.int .i64 b),.d (.int .u32 n)]:=(K3.fr (B+3) a7 a7 a7 a7).trans p3_2
 have g3_3:g3 (B+3)=gI:=(K3.gen (B+3) a7 a7 a7).trans g3_2
 simp only[go_sem,p3_3,g3_3]
 refine aK aa rfl (kL hP 1 2 c8) (B+14) G D H gG _ _ (by first|rfl|simp only[go_sem,p3_3,g3_3,aZ]) hg3 S3 (by first|exact hl|((try simp only[ar,ao,au,Emit.jD,Emit.kH,j5,j7,j8]);omega)) (by first|exact hh|((try simp only[ar,ao,au,Emit.jD,Emit.kH,j5,j7,j8,n0]);omega)) ?_
 intro r g4 ob4 S4 K4
 simp only[go_sem]
 refine⟨_,ah.refl _,?_⟩
 simp only[go_sem]
 exact S.pack S4 (K0.trans (bP.down (K1.trans (K2.trans (K3.trans K4))) a7)) (by simp only[ar,ao,au,Emit.jD,Emit.kH,j5,j7,j8,s6,n0,x9]) (by simp only[ar,ao,au,Emit.jD,Emit.kH,j5,j7,j8,s6,n0,x9]) (rs':=[]) rfl
theorem JT (hP:kK k fs P f dp) (a b n:Int):bW 138 [.agg ((aZ ⟨7,a,b,n⟩).map .d)] (Emit.sA fs P f dp ⟨7,a,b,n⟩) k:=by
 intro B G D H gG code holes g ob S hg hl hh
 have hGB:=S.gB;have hDB:=S.dB;have hHB:=S.hB
 have hGD:=S.gd;have hGH:=S.gh;have hDH:=S.dh
 refine al B [G,D,H] ae mixed Tryz.func138 rfl b9 [] rfl c9 c9 (by simp[Tryz.ntmps138]) (by simp;omega) S.top fun b₀ β0 s0 w0=>?_
 have n1:∀k,(G=B+k)=False:=fun k=>by simp;omega
 have n2:∀k,(D=B+k)=False:=fun k=>by simp;omega
 have n3:∀k,(H=B+k)=False:=fun k=>by simp;omega
 have ho':=S.oG
 unfold aT.cells at ho'
 rw[hP.fn] at ho'
 have e0:Emit.sA fs P f dp ⟨7,a,b,n⟩=(ar (Emit.jD P f dp 1 1) (ar (ao 15 1 1 0) (Emit.kH P f dp 1 1))):=by simp[Emit.sA]
 rw[e0] at hl hh ⊢
 simp only[ar,ao,au,Emit.jD,Emit.kH,j5,j7,j8] at hl hh
 simp only[go_sem,aZ]
 obtain⟨gI,hgI⟩:∃x,nxC 244 (g (B+3))=x:=⟨_,rfl⟩
 have S0:dg (B+10) G D H k code holes (upd g (B+3) gI) (upd ob (B+3) (some [.d (.int .i64 7),.d (.int .i64 a),.d (.int .i64 b),.d (.int .u32 n)])):=(S.up a7).upd a7 a7 a7 a7 _ _
 have K0:bP B G D H g ob (upd g (B+3) gI) (upd ob (B+3) (some [.d (.int .i64 7),.d (.int .i64 a),.d (.int .i64 b),.d (.int .u32 n)])):=⟨fun i hi _ _=>nu,fun i hi _ _ _=>nu⟩
 have hg0:upd g (B+3) gI G=gG:=by simp only[upd];rw[if_neg a7];exact hg
 rw[hgI]
 refine aK aa rfl (jr hP 1 1 c8) (B+10) G D H gG _ _ (by first|rfl|simp only[go_sem,hg0,aZ]) hg0 S0 (by first|exact hl|((try simp only[ar,ao,au,Emit.jD,Emit.kH,j5,j7,j8]);omega)) (by first|exact hh|((try simp only[ar,ao,au,Emit.jD,Emit.kH,j5,j7,j8,n0]);omega)) ?_
 intro r g1 ob1 S1 K1
 have hg1:g1 G=gG:=(K1.gen G a7 S.gd S.gh).trans hg0
 have p3_1:ob1 (B+3)=some [.d (.int .i64 7),.d (.int .i64 a),.d (.int .i64 b),.d (.int .u32 n)]:=(K1.fr (B+3) a7 a7 a7 a7).trans (by simp only[upd];rw[if_pos trivial])
 have g3_1:g1 (B+3)=gI:=(K1.gen (B+3) a7 a7 a7).trans (by simp only[upd];rw[if_pos trivial])
 simp only[go_sem,p3_1,g3_1]
 refine aK aa rfl (di 15 1 1 0 k) (B+10) G D H gG _ _ (by first|rfl|simp only[go_sem,p3_1,g3_1,aZ]) hg1 S1 (by first|exact hl|((try simp only[ar,ao,au,Emit.jD,Emit.kH,j5,j7,j8]);omega)) (by first|exact hh|((try simp only[ar,ao,au,Emit.jD,Emit.kH,j5,j7,j8,n0]);omega)) ?_
 intro r g2 ob2 S2 K2
 have hg2:g2 G=gG:=(K2.gen G a7 S.gd S.gh).trans hg1
 have p3_2:ob2 (B+3)=some [.d (.int .i64 7),.d (.int .i64 a),.d (.int .i64 b),.d (.int .u32 n)]:=(K2.fr (B+3) a7 a7 a7 a7).trans p3_1
 have g3_2:g2 (B+3)=gI:=(K2.gen (B+3) a7 a7 a7).trans g3_1
 simp only[go_sem,p3_2,g3_2]
 refine aK aa rfl (kL hP 1 1 c8) (B+10) G D H gG _ _ (by first|rfl|simp only[go_sem,p3_2,g3_2,aZ]) hg2 S2 (by first|exact hl|((try simp only[ar,ao,au,Emit.jD,Emit.kH,j5,j7,j8]);omega)) (by first|exact hh|((try simp only[ar,ao,au,Emit.jD,Emit.kH,j5,j7,j8,n0]);omega)) ?_
 intro r g3 ob3 S3 K3
 simp only[go_sem]
 refine⟨_,ah.refl _,?_⟩
 simp only[go_sem]
 exact S.pack S3 (K0.trans (bP.down (K1.trans (K2.trans K3)) a7)) (by simp only[ar,ao,au,Emit.jD,Emit.kH,j5,j7,j8,s6,n0,x9]) (by simp only[ar,ao,au,Emit.jD,Emit.kH,j5,j7,j8,s6,n0,x9]) (rs':=[]) rfl
theorem JU (hP:kK k fs P f dp) (a b n:Int):bW 139 [.agg ((aZ ⟨8,a,b,n⟩).map .d)] (Emit.sA fs P f dp ⟨8,a,b,n⟩) k:=by
 intro B G D H gG code holes g ob S hg hl hh
 have hGB:=S.gB;have hDB:=S.dB;have hHB:=S.hB
 have hGD:=S.gd;have hGH:=S.gh;have hDH:=S.dh
 refine al B [G,D,H] ae mixed Tryz.func139 rfl b9 [] rfl c9 c9 (by simp[Tryz.ntmps139]) (by simp;omega) S.top fun b₀ β0 s0 w0=>?_
 have n1:∀k,(G=B+k)=False:=fun k=>by simp;omega
 have n2:∀k,(D=B+k)=False:=fun k=>by simp;omega
 have n3:∀k,(H=B+k)=False:=fun k=>by simp;omega
 have ho':=S.oG
 unfold aT.cells at ho'
 rw[hP.fn] at ho'
 have e0:Emit.sA fs P f dp ⟨8,a,b,n⟩=(au 18 0 f a):=by simp[Emit.sA]
 rw[e0] at hl hh ⊢
 simp only[go_sem,aZ]
 obtain⟨gI,hgI⟩:∃x,nxC 244 (g (B+3))=x:=⟨_,rfl⟩
 have S0:dg (B+12) G D H k code holes (upd g (B+3) gI) (upd ob (B+3) (some [.d (.int .i64 8),.d (.int .i64 a),.d (.int .i64 b),.d (.int .u32 n)])):=(S.up a7).upd a7 a7 a7 a7 _ _
 have K0:bP B G D H g ob (upd g (B+3) gI) (upd ob (B+3) (some [.d (.int .i64 8),.d (.int .i64 a),.d (.int .i64 b),.d (.int .u32 n)])):=⟨fun i hi _ _=>nu,fun i hi _ _ _=>nu⟩
 have hg0:upd g (B+3) gI G=gG:=by simp only[upd];rw[if_neg a7];exact hg
 rw[hgI]
 refine aI j0 ?_
 simp only[go_sem,n1,n2,n3,ho',hg]
 refine aK aa rfl (xZ 18 0 f a) (B+12) G D H gG _ _ (by first|rfl|simp only[go_sem,hg0,aZ]) hg0 S0 (by first|exact hl|((try simp only[ar,ao,au,Emit.jD,Emit.kH,j5,j7,j8]);omega)) (by first|exact hh|((try simp only[ar,ao,au,Emit.jD,Emit.kH,j5,j7,j8,n0]);omega)) ?_
 intro r g1 ob1 S1 K1
 simp only[go_sem]
 refine⟨_,ah.refl _,?_⟩
 simp only[go_sem]
 exact S.pack S1 (K0.trans (bP.down K1 a7)) rfl rfl (rs':=[]) rfl
theorem JV (hP:kK k fs P f dp) (a b n:Int):bW 141 [.agg ((aZ ⟨9,a,b,n⟩).map .d)] (Emit.sA fs P f dp ⟨9,a,b,n⟩) k:=by
 intro B G D H gG code holes g ob S hg hl hh
 have hGB:=S.gB;have hDB:=S.dB;have hHB:=S.hB
 have hGD:=S.gd;have hGH:=S.gh;have hDH:=S.dh
 refine al B [G,D,H] ae mixed Tryz.func141 rfl b9 [] rfl c9 c9 (by simp[Tryz.ntmps141]) (by simp;omega) S.top fun b₀ β0 s0 w0=>?_
 have n1:∀k,(G=B+k)=False:=fun k=>by simp;omega
 have n2:∀k,(D=B+k)=False:=fun k=>by simp;omega
 have n3:∀k,(H=B+k)=False:=fun k=>by simp;omega
 have ho':=S.oG
 unfold aT.cells at ho'
 rw[hP.fn] at ho'
 have e0:Emit.sA fs P f dp ⟨9,a,b,n⟩=(ar (Emit.jD P f dp 1 1) (au 19 1 f a)):=by simp[Emit.sA]
 rw[e0] at hl hh ⊢
 simp only[ar,ao,au,Emit.jD,Emit.kH,j5,j7,j8] at hl hh
 simp only[go_sem,aZ]
 obtain⟨gI,hgI⟩:∃x,nxC 244 (g (B+3))=x:=⟨_,rfl⟩
 have S0:dg (B+14) G D H k code holes (upd g (B+3) gI) (upd ob (B+3) (some [.d (.int .i64 9),.d (.int .i64 a),.d (.int .i64 b),.d (.int .u32 n)])):=(S.up a7).upd a7 a7 a7 a7 _ _
 have K0:bP B G D H g ob (upd g (B+3) gI) (upd ob (B+3) (some [.d (.int .i64 9),.d (.int .i64 a),.d (.int .i64 b),.d (.int .u32 n)])):=⟨fun i hi _ _=>nu,fun i hi _ _ _=>nu⟩
 have hg0:upd g (B+3) gI G=gG:=by simp only[upd];rw[if_neg a7];exact hg
 rw[hgI]
 refine aK aa rfl (jr hP 1 1 c8) (B+14) G D H gG _ _ (by first|rfl|simp only[go_sem,hg0,aZ]) hg0 S0 (by first|exact hl|((try simp only[ar,ao,au,Emit.jD,Emit.kH,j5,j7,j8]);omega)) (by first|exact hh|((try simp only[ar,ao,au,Emit.jD,Emit.kH,j5,j7,j8,n0]);omega)) ?_
 intro r g1 ob1 S1 K1
 have hg1:g1 G=gG:=(K1.gen G a7 S.gd S.gh).trans hg0
 have p3_1:ob1 (B+3)=some [.d (.int .i64 9),.d (.int .i64 a),.d (.int .i64 b),.d (.int .u32 n)]:=(K1.fr (B+3) a7 a7 a7 a7).trans (by simp only[upd];rw[if_pos trivial])
 have g3_1:g1 (B+3)=gI:=(K1.gen (B+3) a7 a7 a7).trans (by simp only[upd];rw[if_pos trivial])
 simp only[go_sem,p3_1,g3_1]
 refine aI j0 ?_
 have ho1:=S1.oG
 unfold aT.cells at ho1
 rw[hP.fn] at ho1
 simp only[go_sem,ho1,hg1,p3_1,g3_1]
 refine aK aa rfl (xZ 19 1 f a) (B+14) G D H gG _ _ (by first|rfl|simp only[go_sem,p3_1,g3_1,aZ]) hg1 S1 (by first|exact hl|((try simp only[ar,ao,au,Emit.jD,Emit.kH,j5,j7,j8]);omega)) (by first|exact hh|((try simp only[ar,ao,au,Emit.jD,Emit.kH,j5,j7,j8,n0]);omega)) ?_
 intro r g2 ob2 S2 K2
 simp only[go_sem]
 refine⟨_,ah.refl _,?_⟩
 simp only[go_sem]
 exact S.pack S2 (K0.trans (bP.down (K1.trans K2) a7)) (by simp only[ar,ao,au,Emit.jD,Emit.kH,j5,j7,j8,s6,n0,x9]) (by simp only[ar,ao,au,Emit.jD,Emit.kH,j5,j7,j8,s6,n0,x9]) (rs':=[]) rfl
theorem Gl (hP:kK k fs P f dp) (a b n:Int) {c:Nat}{y:Src.CFn} (hc:a=(c:Int)) (hy:fs[c]? = some y):bW 142 [.agg ((aZ ⟨10,a,b,n⟩).map .d)] (Emit.sA fs P f dp ⟨10,a,b,n⟩) k:=by
 intro B G D H gG code holes g ob S hg hl hh
 have hGB:=S.gB;have hDB:=S.dB;have hHB:=S.hB
 have hGD:=S.gd;have hGH:=S.gh;have hDH:=S.dh
 refine al B [G,D,H] ae mixed Tryz.func142 rfl b9 [] rfl c9 c9 (by simp[Tryz.ntmps142]) (by simp;omega) S.top fun b₀ β0 s0 w0=>?_
 have n1:∀k,(G=B+k)=False:=fun k=>by simp;omega
 have n2:∀k,(D=B+k)=False:=fun k=>by simp;omega
 have n3:∀k,(H=B+k)=False:=fun k=>by simp;omega
 have ho':=S.oG
 unfold aT.cells at ho'
 rw[hP.fn] at ho'
 have e0:Emit.sA fs P f dp ⟨10,a,b,n⟩=(Emit.yJ fs P f dp a):=by simp[Emit.sA]
 rw[e0] at hl hh ⊢
 simp only[go_sem,aZ]
 obtain⟨gI,hgI⟩:∃x,nxC 244 (g (B+3))=x:=⟨_,rfl⟩
 have S0:dg (B+7) G D H k code holes (upd g (B+3) gI) (upd ob (B+3) (some [.d (.int .i64 10),.d (.int .i64 a),.d (.int .i64 b),.d (.int .u32 n)])):=(S.up a7).upd a7 a7 a7 a7 _ _
 have K0:bP B G D H g ob (upd g (B+3) gI) (upd ob (B+3) (some [.d (.int .i64 10),.d (.int .i64 a),.d (.int .i64 b),.d (.int .u32 n)])):=⟨fun i hi _ _=>nu,fun i hi _ _ _=>nu⟩
 have hg0:upd g (B+3) gI G=gG:=by simp only[upd];rw[if_neg a7];exact hg
 rw[hgI]
 refine aK aa rfl (JM hP ⟨10,a,b,n⟩ hc hy) (B+7) G D H gG _ _ (by first|rfl|simp only[go_sem,hg0,aZ]) hg0 S0 (by first|exact hl|((try simp only[ar,ao,au,Emit.jD,Emit.kH,j5,j7,j8]);omega)) (by first|exact hh|((try simp only[ar,ao,au,Emit.jD,Emit.kH,j5,j7,j8,n0]);omega)) ?_
 intro r g1 ob1 S1 K1
 simp only[go_sem]
 refine⟨_,ah.refl _,?_⟩
 simp only[go_sem]
 exact S.pack S1 (K0.trans (bP.down K1 a7)) rfl rfl (rs':=[]) rfl
theorem Gm (hP:kK k fs P f dp) (a b n:Int):bW 144 [.agg ((aZ ⟨11,a,b,n⟩).map .d)] (Emit.sA fs P f dp ⟨11,a,b,n⟩) k:=by
 intro B G D H gG code holes g ob S hg hl hh
 have hGB:=S.gB;have hDB:=S.dB;have hHB:=S.hB
 have hGD:=S.gd;have hGH:=S.gh;have hDH:=S.dh
 refine al B [G,D,H] ae mixed Tryz.func144 rfl b9 [] rfl c9 c9 (by simp[Tryz.ntmps144]) (by simp;omega) S.top fun b₀ β0 s0 w0=>?_
 have n1:∀k,(G=B+k)=False:=fun k=>by simp;omega
 have n2:∀k,(D=B+k)=False:=fun k=>by simp;omega
 have n3:∀k,(H=B+k)=False:=fun k=>by simp;omega
 have ho':=S.oG
 unfold aT.cells at ho'
 rw[hP.fn] at ho'
 have e0:Emit.sA fs P f dp ⟨11,a,b,n⟩=(Emit.uz fs P f dp):=by simp[Emit.sA]
 rw[e0] at hl hh ⊢
 simp only[go_sem,aZ]
 obtain⟨gI,hgI⟩:∃x,nxC 244 (g (B+3))=x:=⟨_,rfl⟩
 have S0:dg (B+6) G D H k code holes (upd g (B+3) gI) (upd ob (B+3) (some [.d (.int .i64 11),.d (.int .i64 a),.d (.int .i64 b),.d (.int .u32 n)])):=(S.up a7).upd a7 a7 a7 a7 _ _
 have K0:bP B G D H g ob (upd g (B+3) gI) (upd ob (B+3) (some [.d (.int .i64 11),.d (.int .i64 a),.d (.int .i64 b),.d (.int .u32 n)])):=⟨fun i hi _ _=>nu,fun i hi _ _ _=>nu⟩
 have hg0:upd g (B+3) gI G=gG:=by simp only[upd];rw[if_neg a7];exact hg
 rw[hgI]
 refine aK aa rfl (Gj hP) (B+6) G D H gG _ _ (by first|rfl|simp only[go_sem,hg0,aZ]) hg0 S0 (by first|exact hl|((try simp only[ar,ao,au,Emit.jD,Emit.kH,j5,j7,j8]);omega)) (by first|exact hh|((try simp only[ar,ao,au,Emit.jD,Emit.kH,j5,j7,j8,n0]);omega)) ?_
 intro r g1 ob1 S1 K1
 simp only[go_sem]
 refine⟨_,ah.refl _,?_⟩
 simp only[go_sem]
 exact S.pack S1 (K0.trans (bP.down K1 a7)) rfl rfl (rs':=[]) rfl
theorem Gn (hP:kK k fs P f dp) (a b n:Int):bW 146 [.agg ((aZ ⟨12,a,b,n⟩).map .d)] (Emit.sA fs P f dp ⟨12,a,b,n⟩) k:=by
 intro B G D H gG code holes g ob S hg hl hh
 have hGB:=S.gB;have hDB:=S.dB;have hHB:=S.hB
 have hGD:=S.gd;have hGH:=S.gh;have hDH:=S.dh
 refine al B [G,D,H] ae mixed Tryz.func146 rfl b9 [] rfl c9 c9 (by simp[Tryz.ntmps146]) (by simp;omega) S.top fun b₀ β0 s0 w0=>?_
 have n1:∀k,(G=B+k)=False:=fun k=>by simp;omega
 have n2:∀k,(D=B+k)=False:=fun k=>by simp;omega
 have n3:∀k,(H=B+k)=False:=fun k=>by simp;omega
 have ho':=S.oG
 unfold aT.cells at ho'
 rw[hP.fn] at ho'
 have e0:Emit.sA fs P f dp ⟨12,a,b,n⟩=(ar (ao 23 1 0 0) (Emit.kH P f dp 1 0)):=by simp[Emit.sA]
 rw[e0] at hl hh ⊢
 simp only[ar,ao,au,Emit.jD,Emit.kH,j5,j7,j8] at hl hh
 simp only[go_sem,aZ]
 obtain⟨gI,hgI⟩:∃x,nxC 244 (g (B+3))=x:=⟨_,rfl⟩
 have S0:dg (B+8) G D H k code holes (upd g (B+3) gI) (upd ob (B+3) (some [.d (.int .i64 12),.d (.int .i64 a),.d (.int .i64 b),.d (.int .u32 n)])):=(S.up a7).upd a7 a7 a7 a7 _ _
 have K0:bP B G D H g ob (upd g (B+3) gI) (upd ob (B+3) (some [.d (.int .i64 12),.d (.int .i64 a),.d (.int .i64 b),.d (.int .u32 n)])):=⟨fun i hi _ _=>nu,fun i hi _ _ _=>nu⟩
 have hg0:upd g (B+3) gI G=gG:=by simp only[upd];rw[if_neg a7];exact hg
 rw[hgI]
 refine aK aa rfl (di 23 1 0 0 k) (B+8) G D H gG _ _ (by first|rfl|simp only[go_sem,hg0,aZ]) hg0 S0 (by first|exact hl|((try simp only[ar,ao,au,Emit.jD,Emit.kH,j5,j7,j8]);omega)) (by first|exact hh|((try simp only[ar,ao,au,Emit.jD,Emit.kH,j5,j7,j8,n0]);omega)) ?_
 intro r g1 ob1 S1 K1
 have hg1:g1 G=gG:=(K1.gen G a7 S.gd S.gh).trans hg0
 have p3_1:ob1 (B+3)=some [.d (.int .i64 12),.d (.int .i64 a),.d (.int .i64 b),.d (.int .u32 n)]:=(K1.fr (B+3) a7 a7 a7 a7).trans (by simp only[upd];rw[if_pos trivial])
 have g3_1:g1 (B+3)=gI:=(K1.gen (B+3) a7 a7 a7).trans (by simp only[upd];rw[if_pos trivial])
 simp only[go_sem,p3_1,g3_1]
 refine aK aa rfl (kL hP 1 0 c8) (B+8) G D H gG _ _ (by first|rfl|simp only[go_sem,p3_1,g3_1,aZ]) hg1 S1 (by first|exact hl|((try simp only[ar,ao,au,Emit.jD,Emit.kH,j5,j7,j8]);omega)) (by first|exact hh|((try simp only[ar,ao,au,Emit.jD,Emit.kH,j5,j7,j8,n0]);omega)) ?_
 intro r g2 ob2 S2 K2
 simp only[go_sem]
 refine⟨_,ah.refl _,?_⟩
 simp only[go_sem]
 exact S.pack S2 (K0.trans (bP.down (K1.trans K2) a7)) (by simp only[ar,ao,au,Emit.jD,Emit.kH,j5,j7,j8,s6,n0,x9]) (by simp only[ar,ao,au,Emit.jD,Emit.kH,j5,j7,j8,s6,n0,x9]) (rs':=[]) rfl
theorem Gp (hP:kK k fs P f dp) (a b n:Int):bW 147 [.agg ((aZ ⟨13,a,b,n⟩).map .d)] (Emit.sA fs P f dp ⟨13,a,b,n⟩) k:=by
 intro B G D H gG code holes g ob S hg hl hh
 have hGB:=S.gB;have hDB:=S.dB;have hHB:=S.hB
 have hGD:=S.gd;have hGH:=S.gh;have hDH:=S.dh
 refine al B [G,D,H] ae mixed Tryz.func147 rfl b9 [] rfl c9 c9 (by simp[Tryz.ntmps147]) (by simp;omega) S.top fun b₀ β0 s0 w0=>?_
 have n1:∀k,(G=B+k)=False:=fun k=>by simp;omega
 have n2:∀k,(D=B+k)=False:=fun k=>by simp;omega
 have n3:∀k,(H=B+k)=False:=fun k=>by simp;omega
 have ho':=S.oG
 unfold aT.cells at ho'
 rw[hP.fn] at ho'
 have e0:Emit.sA fs P f dp ⟨13,a,b,n⟩=(ar (Emit.jD P f dp 1 1) (ao 24 1 0 0)):=by simp[Emit.sA]
 rw[e0] at hl hh ⊢
 simp only[ar,ao,au,Emit.jD,Emit.kH,j5,j7,j8] at hl hh
 simp only[go_sem,aZ]
 obtain⟨gI,hgI⟩:∃x,nxC 244 (g (B+3))=x:=⟨_,rfl⟩
 have S0:dg (B+8) G D H k code holes (upd g (B+3) gI) (upd ob (B+3) (some [.d (.int .i64 13),.d (.int .i64 a),.d (.int .i64 b),.d (.int .u32 n)])):=(S.up a7).upd a7 a7 a7 a7 _ _
 have K0:bP B G D H g ob (upd g (B+3) gI) (upd ob (B+3) (some [.d (.int .i64 13),.d (.int .i64 a),.d (.int .i64 b),.d (.int .u32 n)])):=⟨fun i hi _ _=>nu,fun i hi _ _ _=>nu⟩
 have hg0:upd g (B+3) gI G=gG:=by simp only[upd];rw[if_neg a7];exact hg
 rw[hgI]
 refine aK aa rfl (jr hP 1 1 c8) (B+8) G D H gG _ _ (by first|rfl|simp only[go_sem,hg0,aZ]) hg0 S0 (by first|exact hl|((try simp only[ar,ao,au,Emit.jD,Emit.kH,j5,j7,j8]);omega)) (by first|exact hh|((try simp only[ar,ao,au,Emit.jD,Emit.kH,j5,j7,j8,n0]);omega)) ?_
 intro r g1 ob1 S1 K1
 have hg1:g1 G=gG:=(K1.gen G a7 S.gd S.gh).trans hg0
 have p3_1:ob1 (B+3)=some [.d (.int .i64 13),.d (.int .i64 a),.d (.int .i64 b),.d (.int .u32 n)]:=(K1.fr (B+3) a7 a7 a7 a7).trans (by simp only[upd];rw[if_pos trivial])
 have g3_1:g1 (B+3)=gI:=(K1.gen (B+3) a7 a7 a7).trans (by simp only[upd];rw[if_pos trivial])
 simp only[go_sem,p3_1,g3_1]
 refine aK aa rfl (di 24 1 0 0 k) (B+8) G D H gG _ _ (by first|rfl|simp only[go_sem,p3_1,g3_1,aZ]) hg1 S1 (by first|exact hl|((try simp only[ar,ao,au,Emit.jD,Emit.kH,j5,j7,j8]);omega)) (by first|exact hh|((try simp only[ar,ao,au,Emit.jD,Emit.kH,j5,j7,j8,n0]);omega)) ?_
 intro r g2 ob2 S2 K2
 simp only[go_sem]
 refine⟨_,ah.refl _,?_⟩
 simp only[go_sem]
 exact S.pack S2 (K0.trans (bP.down (K1.trans K2) a7)) (by simp only[ar,ao,au,Emit.jD,Emit.kH,j5,j7,j8,s6,n0,x9]) (by simp only[ar,ao,au,Emit.jD,Emit.kH,j5,j7,j8,s6,n0,x9]) (rs':=[]) rfl
end
section
def CZ:List C:=[.d (.int .i64 1),.d (.fn 129),.d (.int .i64 2),.d (.fn 132),.d (.int .i64 3),.d (.fn 133),.d (.int .i64 4),.d (.fn 135),.d (.int .i64 5),.d (.fn 136),.d (.int .i64 6),.d (.fn 137),.d (.int .i64 7),.d (.fn 138),.d (.int .i64 8),.d (.fn 139),.d (.int .i64 9),.d (.fn 141),.d (.int .i64 10),.d (.fn 142),.d (.int .i64 11),.d (.fn 144),.d (.int .i64 12),.d (.fn 146),.d (.int .i64 13),.d (.fn 147)]
theorem ya {g:Nat→Nat}{ob:Obs} (B:Nat) :
  dF Tryz.prog 89 [] g ob (fun r g' ob'=>r=.one (.mp (B+1) (g' (B+1)) 3)∧ob' (B+1)=some CZ∧∀i,i<B∨B+3≤i→g' i=g i∧ob' i=ob i) (fun _ _ _=>False):=by
 refine dU B ae mixed Tryz.func89 rfl b9 [.tmp 0] rfl c9 c9 (by simp[Tryz.ntmps89]) fun b₀ β0 s0 w0=>?_
 have km:∀a b:Int,iJ (.int .i64 a) (.int .i64 b)=decide (a=b):=fun a b=>by simp[iJ]
 simp only[go_sem]
 iterate 13 (refine ur aa ae rfl ?_;simp only[go_sem,mset,km,A5,L0,decide_true,B7])
 refine⟨_,ah.refl _,?_⟩
 simp only[go_sem]
 exact⟨rfl,rfl,fun i hi=>⟨nu,nu⟩⟩
structure zp (fs:List Src.CFn) (x:Ins):Prop where
 op:1≤x.op∧x.op≤13
 c:x.op=10→∃(c:Nat) (y:Src.CFn),x.a=(c:Int)∧fs[c]? = some y
variable {k:aT}{fs:List Src.CFn}{P:Emit.Plan}
theorem Og{f:Nat}{dp:Int} (hP:kK k fs P f dp) {x:Ins} (h:zp fs x):∃fn,mget CZ (.int .i64 x.op)=some (.d (.fn fn))∧bW fn [.agg ((aZ x).map .d)] (Emit.sA fs P f dp x) k:=by
 obtain⟨⟨h1,h2⟩,hc⟩:=h
 obtain⟨op,a,b,n⟩:=x
 simp only at h1 h2 hc
 have:op=1∨op=2∨op=3∨op=4∨op=5∨op=6∨op=7∨op=8∨op=9∨op=10∨op=11∨op=12∨op=13:=a7
 rcases this with rfl|rfl|rfl|rfl|rfl|rfl|rfl|rfl|rfl|rfl|rfl|rfl|rfl
 ·exact⟨129,rfl,JN hP a b n⟩
 ·exact⟨132,rfl,JO hP a b n⟩
 ·exact⟨133,rfl,JP hP a b n⟩
 ·exact⟨135,rfl,JQ hP a b n⟩
 ·exact⟨136,rfl,JR hP a b n⟩
 ·exact⟨137,rfl,JS hP a b n⟩
 ·exact⟨138,rfl,JT hP a b n⟩
 ·exact⟨139,rfl,JU hP a b n⟩
 ·exact⟨141,rfl,JV hP a b n⟩
 ·obtain⟨c,y,e1,e2⟩:=hc rfl
  exact⟨142,rfl,Gl hP a b n e1 e2⟩
 ·exact⟨144,rfl,Gm hP a b n⟩
 ·exact⟨146,rfl,Gn hP a b n⟩
 ·exact⟨147,rfl,Gp hP a b n⟩
section
variable {b₀:Bs}{rd:Option Nat}{Φ:St→Am.Loc→List Deferred→World→Prop}
theorem Gq {Ψ:fF}{B0:Nat} (hΦ:aE b₀ Φ) {o:Oper}{s:St}{K:St→Prop}{kb:Box K}{t:Nat}{f:FuncId}{args:Array Operand}{tys:Array TypeId} (ho:o.op=.call ⟨.value (.tmp t),args,tys⟩) (hf:s.f t=.one (.d (.fn f))) {xs:List AV}{w:Nat→Wr} (hw:bW f xs w k) (Bc G D H gG:Nat) (code:List fW) (holes:List iW)
  (hx:args.toList.map s.ev=.one (.ptr G gG 0)::xs) (hg:s.gen G=gG) (S:dg Bc G D H k code holes s.gen s.obj) (hl:code.length+(w code.length).code.length≤100000000) (hhl:holes.length+(w code.length).holes.length≤100000000)
  (hk:∀r g' ob',dg Bc G D H k (code++(w code.length).code) (holes++(w code.length).holes) g' ob'→bP Bc G D H s.gen s.obj g' ob'→K (St.put ⟨s.f,g',ob'⟩ o.dst r)):aS (spF Tryz.prog rd b₀ Φ B0 Ψ) o s kb:=by
 refine xF (R:=fun _ g' ob'=>dg Bc G D H k (code++(w code.length).code) (holes++(w code.length).holes) g' ob'∧bP Bc G D H s.gen s.obj g' ob') (Ψ0:=fun _ _ _=>False) hΦ ho hf (by rw[hx];exact hw Bc G D H gG code holes s.gen s.obj S hg hl hhl) (fun _ _ _ h=>h.elim) ?_
 rintro r g' ob' ⟨h1,h2⟩
 exact hk r g' ob' h1 h2
end
def aT.at (k:aT) (f:Nat) (c:C):aT:={ k with d3:=.d (.int .i64 (f:Nat)),d4:=c }
structure wo (k:aT) (fs:List Src.CFn) (P:Emit.Plan) (E Pl gE gP:Nat):Prop where
 s:k.c1=.d (.sl (fs.map sfD))
 ds:k.c2=.d (.sl (P.depths.map fun o=>[ksD o]))
 bk:k.c3=.d (ksD P.back)
 b:k.c4=.d (ksD P.base)
 e:k.d0=.osl E gE 1 0 fs.length
 p:k.d1=.osl Pl gP 1 0 fs.length
 dl:P.depths.length=fs.length
 bl:P.back.length=fs.length
 l:P.base.length=fs.length
 fz:fs.length≤1000000
 bz:∀x∈P.base,0≤x∧x≤1000000000000000
 dz:∀ds∈P.depths,∀d∈ds,-1≤d∧d≤1000000000
 pz:∀x∈fs,0≤x.params∧x.params≤1000000∧0≤x.first∧x.first≤1000000000000
 sz:∀x∈fs,x.params≤x.slots∧x.slots≤1000000
theorem wo.at {k:aT}{fs:List Src.CFn}{P:Emit.Plan}{E Pl gE gP:Nat} (h:wo k fs P E Pl gE gP) (f:Nat) (c:C):wo (k.at f c) fs P E Pl gE gP:=⟨h.s,h.ds,h.bk,h.b,h.e,h.p,h.dl,h.bl,h.l,h.fz,h.bz,h.dz,h.pz,h.sz⟩
theorem wo.toP{E Pl gE gP:Nat} (h:wo k fs P E Pl gE gP) {f:Nat}{dp:Int} (hf:f<fs.length) (hd:-1≤dp∧dp≤1000000000):kK (k.at f (.d (.int .i64 dp))) fs P f dp:=
 ⟨h.s,h.ds,h.bk,h.b,rfl,rfl,hf,h.dl,h.bl,h.l,h.fz,h.bz,hd,fun x hx=>by have:=h.pz x hx;omega⟩
end
section
structure AC (B G D H E Pl gE gP M gM:Nat) (k:aT) (fs:List Src.CFn) (P:Emit.Plan) (code:List fW) (holes:List iW) (ent:List Int) (plc:List C) (g:Nat→Nat) (ob:Obs):Prop where
 S:dg B G D H k code holes g ob
 q:wo k fs P E Pl gE gP
 gE:g E=gE
 gP:g Pl=gP
 gM:g M=gM
 oE:ob E=some (icells ent)
 oP:ob Pl=some plc
 oM:ob M=some CZ
 eB:E<B
 pB:Pl<B
 mB:M<B
 el:ent.length=fs.length
 pl:plc.length=fs.length
 d:[G,D,H,E,Pl,M].Nodup
def Oth (B G D H E Pl:Nat) (g:Nat→Nat) (ob:Obs) (g':Nat→Nat) (ob':Obs):Prop:=∀i,i<B→i≠G→i≠D→i≠H→i≠E→i≠Pl→g' i=g i∧ob' i=ob i
variable {code:List fW}{holes:List iW}
theorem dg.re {B G D H:Nat}{k k':aT}{g g':Nat→Nat}{ob ob':Obs} (S:dg B G D H k code holes g ob) (ht:∀i,B≤i→ob' i=none) (h1:g' D=g D) (h2:g' H=g H) (h3:ob' G=some (k'.cells D (g D) code.length H (g H) holes.length)) (h4:ob' D=ob D) (h5:ob' H=ob H) (hlow:∀x∈k'.all,lh B x):dg B G D H k' code holes g' ob':=
 ⟨ht,S.gB,S.dB,S.hB,S.gd,S.gh,S.dh,by rw[h1,h2];exact h3,by rw[h4];exact S.oD,by rw[h5];exact S.oH,hlow⟩
theorem aT.at_low {B:Nat}{k:aT}{f:Nat}{c c':C} (h:∀x∈(k.at f c).all,lh B x) (hc:lh B c'):∀x∈(k.at f c').all,lh B x:=fun x hx=>by
 simp only[aT.all,aT.at,x8,z7,E4] at hx h
 rcases hx with e|e|e|e|e|e|e|e|e|e
 all_goals first|(subst e;trivial)|(subst e;exact hc)|exact h x (by simp[e])
theorem Oh {S:Sp}{T:Nat→TI}{id:Nat}{ops:Array Oper}{s:St}{Q:Exit→St→Prop}{q:Box Q} (I:St→Prop) (h0:I s) (h:∀f g ob,I ⟨f,g,ob⟩→iL S T id ops ⟨f,g,ob⟩ q):iL S T id ops s q:=h s.f s.gen s.obj h0
def Oi (B G D H E Pl gE gP M gM gG:Nat) (k:aT) (fs:List Src.CFn) (P:Emit.Plan) (code:List fW) (holes:List iW) (ent:List Int) (plc:List C) (g:Nat→Nat) (ob:Obs) (f:Nat) (fx:Src.CFn) (st:St):Prop:=
 st.f 0=.one (.ptr G gG 0)∧st.f 1=iv .i64 f∧st.f 2=.one (.mp M gM 3)∧st.f 6=.one (.ptr (B+6) (st.gen (B+6)) 0)∧st.obj (B+6)=some [.d (.int .i64 fx.params),.d (.int .i64 fx.slots),.d (.int .i64 fx.first),.d (.bool fx.word),.d (qm (codeOf fx.word fx.body))]∧
 dg (B+122) G D H (k.at f k.d4) (code++(Emit.BU fs P f code.length).code) (holes++(Emit.BU fs P f code.length).holes) st.gen st.obj∧st.obj E=some (icells (ent.set f code.length))∧st.gen E=gE∧st.obj Pl=some plc∧st.gen Pl=gP∧st.gen G=gG∧Oth B G D H E Pl g ob st.gen st.obj
theorem yb {B G D H E Pl gE gP M gM gG:Nat}{k:aT}{fs:List Src.CFn}{P:Emit.Plan}{ent:List Int}{plc:List C}{g:Nat→Nat}{ob:Obs} (F:AC B G D H E Pl gE gP M gM k fs P code holes ent plc g ob) (hg:g G=gG)
  {f:Nat}{fx:Src.CFn}{ds:List Int} (hf:fs[f]? = some fx) (hds:P.depths[f]? = some ds) {cd:Lower.Code} (hcd:codeOf fx.word fx.body=cd) (hdl:ds.length=cd.length) (hz:cd.length≤100000000) (hok:∀x∈cd,zp fs x.1)
  (hl:∀j,j≤cd.length→code.length+(Emit.pS fs P f cd ds j code.length).code.length≤100000000) (hh:∀j,j≤cd.length→holes.length+(Emit.pS fs P f cd ds j code.length).holes.length≤100000000) :
  dF Tryz.prog 91 [.one (.ptr G gG 0),iv .i64 f,.one (.mp M gM 3)] g ob (fun _ g' ob'=>(∃c4,AC (B+122) G D H E Pl gE gP M gM (k.at f c4) fs P (code++(Emit.pS fs P f cd ds cd.length code.length).code) (holes++(Emit.pS fs P f cd ds cd.length code.length).holes) (ent.set f code.length) (plc.set f (.osl (B+71) (g' (B+71)) 1 0 cd.length)) g' ob')∧
   ob' (B+71)=some (icells (Emit.placesOf fs P f cd ds code.length))∧g' G=gG∧Oth B G D H E Pl g ob g' ob') (fun _ _ _=>False):=by
 have hfl:f<fs.length:=(l5.1 hf).1
 have hQ:=F.q
 have hGB:=F.S.gB;have hDB:=F.S.dB;have hHB:=F.S.hB;have hEB:=F.eB;have hPB:=F.pB;have hMB:=F.mB
 have hnd:=F.d
 simp only[RJ,x8,z7,E4,not_or,O0,RN,I6] at hnd
 obtain⟨⟨hGD,hGH,hGE,hGP,hGM⟩,⟨hDH,hDE,hDP,hDM⟩,⟨hHE,hHP,hHM⟩,⟨hEP,hEM⟩,hPM⟩:=hnd
 refine dU B ae mixed Tryz.func91 rfl b9 [] rfl c9 c9 (by simp[Tryz.ntmps91]) fun b₀ β0 s0 w0=>?_
 have ho:=F.S.oG
 unfold aT.cells at ho
 rw[hQ.s,hQ.ds,hQ.bk,hQ.b,hQ.e,hQ.p] at ho
 have hfz:=hQ.fz
 have hf0:(0:Int)≤(f:Int):=a7
 have hf1:(f:Int)<(fs.length:Int):=a7
 have hel:=F.el
 have hpl:=F.pl
 have n1:∀k,(G=B+k)=False:=fun k=>by simp;omega
 have n2:∀k,(E=B+k)=False:=fun k=>by simp;omega
 have n3:∀k,(Pl=B+k)=False:=fun k=>by simp;omega
 have n4:∀k,(D=B+k)=False:=fun k=>by simp;omega
 have n5:∀k,(H=B+k)=False:=fun k=>by simp;omega
 have n6:(E=G)=False:=by simp[y9 hGE]
 have n7:(Pl=G)=False:=by simp[y9 hGP]
 have n8:(G=E)=False:=by simp[hGE]
 have hwl:IntKind.i64.wrap ((fs.length:Int)-1)=(fs.length:Int)-1:=by rw[wrap_i64] <;> omega
 have gE0:=F.gE
 have gP0:=F.gP
 have oE0:=F.oE
 simp only[go_sem,ho,hg,j6,hf0,hf1,hfl,hf,sfD,n1]
 refine aI j0 ?_
 have m1:∀k,(B+k=G)=False:=fun k=>by simp;omega
 have m2:∀k,(B+k=E)=False:=fun k=>by simp;omega
 have m3:∀k,(B+k=Pl)=False:=fun k=>by simp;omega
 have n9:(D=G)=False:=by simp[y9 hGD]
 have n10:(D=E)=False:=by simp[hDE]
 have n11:(H=G)=False:=by simp[y9 hGH]
 have n12:(H=E)=False:=by simp[hHE]
 have n13:(Pl=E)=False:=by simp[y9 hEP]
 have n14:(E=Pl)=False:=by simp[hEP]
 have n15:(G=Pl)=False:=by simp[hGP]
 have hsd:(some (dJ code)).isSome=true:=rfl
 have hbl:=hQ.bl
 obtain⟨bf,hbf⟩:=getq (show f<P.back.length by omega)
 have hb1:(f:Int)<(P.back.length:Int):=a7
 have hb2:f<P.back.length:=a7
 have hmem:=l8 hf
 obtain⟨hp0,hp1,hr0,hr1⟩:=hQ.pz fx hmem
 obtain⟨hs0,hs1⟩:=hQ.sz fx hmem
 have hw1:IntKind.i64.wrap (fx.first+fx.params)=fx.first+fx.params:=by rw[wrap_i64] <;> omega
 have hw2:IntKind.i64.wrap (fx.first+fx.slots)=fx.first+fx.slots:=by rw[wrap_i64] <;> omega
 have hl0:=hl 0 (K9 _)
 have hh0:=hh 0 (K9 _)
 simp only[Emit.pS] at hl0 hh0
 have S0:∀(g':Nat→Nat) (ob':Obs),(∀i,B+122≤i→ob' i=none)→g' D=g D→g' H=g H→ob' D=ob D→ob' H=ob H→ob' G=some [k.c0,k.c1,k.c2,k.c3,k.c4,k.c5,.osl D (g D) 4 0 code.length,k.d0,k.d1,.osl H (g H) 3 0 holes.length,.d (.int .i64 (f:Nat)),k.d4]→dg (B+122) G D H (k.at f k.d4) code holes g' ob':=fun g' ob' h1 h2 h3 h4 h5 h6=>by
  have SU:=F.S.up (B':=B+122) a7
  refine⟨h1,SU.gB,SU.dB,SU.hB,SU.gd,SU.gh,SU.dh,?_,by rw[h4];exact SU.oD,by rw[h5];exact SU.oH,fun x hx=>?_⟩
  ·rw[h6,h2,h3];rfl
  ·have hall:=SU.low
   simp only[aT.all,aT.at,x8,z7,E4] at hx hall
   rcases hx with e|e|e|e|e|e|e|e|e|e
   all_goals first|(subst e;trivial)|exact hall x (by simp[e])
 by_cases hlast:(f:Int)=(fs.length:Int)-1
 case' pos=>
  have e0:Emit.BU fs P f=ea:=if_pos a7
  simp only[go_sem,ho,hg,j6,hf0,hf1,hfl,hf,sfD,n1,n2,n4,n6,n8,n9,n10,n11,n12,gE0,oE0,hel,bK,F.S.oD,hwl,r0 hlast]
  refine⟨a7,?_⟩
  refine Oh (Oi B G D H E Pl gE gP M gM gG k fs P code holes ent plc g ob f fx) ⟨by simp only[go_sem],by simp only[go_sem],by simp only[go_sem],by simp only[go_sem],?_,?_,?_,?_,?_,?_,?_,fun i hi h1 h2 h3 h4 h5=>⟨?_,?_⟩⟩ ?_
  ·simp only;(try simp only[upd]);(repeat rw[if_neg (by omega)])
   rw[if_pos trivial]
  ·rw[e0]
   simp only[ea,n0]
   refine S0 _ _ (fun i hi=>?_) ?_ ?_ ?_ ?_ ?_
   ·exact nt (F.S.top i a7)
   ·(try simp only[upd]);(repeat rw[if_neg (by omega)])
   ·(try simp only[upd]);(repeat rw[if_neg (by omega)])
   ·(try simp only[upd]);(repeat rw[if_neg (by omega)])
   ·(try simp only[upd]);(repeat rw[if_neg (by omega)])
   ·simp only[upd];rw[if_neg hGE,if_pos trivial,hQ.s,hQ.ds,hQ.bk,hQ.b,hQ.e,hQ.p]
  ·simp only[upd];rw[if_pos trivial,fK]
  ·exact nt (gE0)
  ·exact nt (F.oP)
  ·exact nt (gP0)
  ·exact nt (hg)
  ·(try simp only[upd]);(repeat rw[if_neg (by omega)])
  ·(try simp only[upd]);(repeat rw[if_neg (by omega)])
 case' neg=>
  have e0:Emit.BU fs P f=ar (ao 17 14 0 bf) (Emit.uB (fx.first+fx.params) (fx.first+fx.slots)):=by
   unfold Emit.BU
   rw[if_neg a7,hf,hbf]
   rfl
  simp only[go_sem,ho,hg,j6,hf0,hf1,hfl,hf,sfD,n1,n2,n4,n6,n8,n9,n10,n11,n12,gE0,oE0,hel,bK,F.S.oD,hwl,hlast,hbf,hb1,hb2,ksD]
  refine⟨a7,?_⟩
  rw[e0] at hl0 hh0
  simp only[ar,ao,j5,j7,j8,C9] at hl0 hh0
  refine aK aa rfl (di 17 14 0 bf (k.at f k.d4)) (B+122) G D H gG code holes (by simp only[go_sem]) ?_ (S0 _ _ (fun i hi=>?_) ?_ ?_ ?_ ?_ ?_) (by simp only[ao,j7,j8];omega) (by simp only[ao,j8];omega) ?_
  ·exact nt (hg)
  ·exact nt (F.S.top i a7)
  ·(try simp only[upd]);(repeat rw[if_neg (by omega)])
  ·(try simp only[upd]);(repeat rw[if_neg (by omega)])
  ·(try simp only[upd]);(repeat rw[if_neg (by omega)])
  ·(try simp only[upd]);(repeat rw[if_neg (by omega)])
  ·simp only[upd];rw[if_neg hGE,if_pos trivial,hQ.s,hQ.ds,hQ.bk,hQ.b,hQ.e,hQ.p];rfl
  intro r1 g1 ob1 S1 K1
  have hg1:g1 G=gG:=(K1.gen G a7 hGD hGH).trans (nt (hg))
  have p6:ob1 (B+6)=some [.d (.int .i64 fx.params),.d (.int .i64 fx.slots),.d (.int .i64 fx.first),.d (.bool fx.word),.d (qm (codeOf fx.word fx.body))]:=(K1.fr (B+6) (by omega) (by omega) (by omega) (by omega)).trans (by (try simp only[upd]);(repeat rw[if_neg (by omega)]);rw[if_pos trivial])
  have g6:g1 (B+6)=nxC 147 (g (B+6)):=(K1.gen (B+6) a7 a7 a7).trans (by simp only[upd];rw[if_pos trivial])
  simp only[go_sem,p6,g6,hw1,hw2]
  refine aK aa rfl (Gk (fx.first+fx.params) (fx.first+fx.slots) (by omega) (by omega) (by omega)) (B+122) G D H gG _ _ (by simp only[go_sem]) hg1 S1 (by simp only[ao,j5,j7,j8,C9];omega) (by simp only[ao,j5,j7,j8,C9,n0];omega) ?_
  intro r2 g2 ob2 S2 K2
  have p62:=(K2.fr (B+6) a7 a7 a7 a7).trans p6
  have g62:=(K2.gen (B+6) a7 a7 a7).trans g6
  simp only[go_sem]
  refine Oh (Oi B G D H E Pl gE gP M gM gG k fs P code holes ent plc g ob f fx) ⟨by simp only[go_sem],by simp only[go_sem],by simp only[go_sem],by simp only[go_sem,g62],p62,?_,?_,?_,?_,?_,(K2.gen G a7 hGD hGH).trans hg1,fun i hi h1 h2 h3 h4 h5=>⟨?_,?_⟩⟩ ?_
  ·rw[e0]
   simp only[ar,←s6]
   simp only[j5] at S2
   exact S2
  ·refine(K2.fr E a7 (y9 hGE) (y9 hDE) (y9 hHE)).trans ((K1.fr E a7 (y9 hGE) (y9 hDE) (y9 hHE)).trans ?_)
   simp only[upd];rw[if_pos trivial,fK]
  ·refine(K2.gen E a7 (y9 hDE) (y9 hHE)).trans ((K1.gen E a7 (y9 hDE) (y9 hHE)).trans ?_)
   exact nt (gE0)
  ·refine(K2.fr Pl a7 (y9 hGP) (y9 hDP) (y9 hHP)).trans ((K1.fr Pl a7 (y9 hGP) (y9 hDP) (y9 hHP)).trans ?_)
   exact nt (F.oP)
  ·refine(K2.gen Pl a7 (y9 hDP) (y9 hHP)).trans ((K1.gen Pl a7 (y9 hDP) (y9 hHP)).trans ?_)
   exact nt (gP0)
  ·refine(K2.gen i a7 h2 h3).trans ((K1.gen i a7 h2 h3).trans ?_)
   (try simp only[upd]);(repeat rw[if_neg (by omega)])
  ·refine(K2.fr i a7 h1 h2 h3).trans ((K1.fr i a7 h1 h2 h3).trans ?_)
   (try simp only[upd]);(repeat rw[if_neg (by omega)])
 all_goals
  clear ho S0
  rintro fa g1 ob1 ⟨q0,q1,q2,q6,o6,S1,oE1,gE1,oP1,gP1,hg1,O1⟩
  simp only at q0 q1 q2 q6 o6 S1 oE1 gE1 oP1 gP1 hg1 O1
  have ho:=S1.oG
  unfold aT.cells at ho
  rw[(hQ.at f k.d4).s,(hQ.at f k.d4).ds,(hQ.at f k.d4).bk,(hQ.at f k.d4).b,(hQ.at f k.d4).e,(hQ.at f k.d4).p] at ho
  skip
  refine fO ae mixed aa [B+71,Pl] [([0],[0],[],false),([63],[0],[],false),([64],[0],[],false),([65],[0],[],false),([1],[0],[],false),([6],[],[],false),([68],[],[],false),([69],[],[],false),([70],[],[0],false),([66,67],[],[],false),([72,71],[],[],true)] 2 rfl j0 rfl (by simp;omega) ?_
  simp only[go_sem]
  iterate 5 (apply aH;(case hg=>first|exact w9|exact⟨_,rfl,by decide,rfl⟩);(case h1=>intro fa ga oa K' hK;simp only[go_sem,q0,q1,q2,q6,hg1,n1,n3,n7,ho,j6] at hK ⊢;exact hK))
  iterate 3 (apply aH;(case hg=>first|exact w9|exact⟨_,rfl,by decide,rfl⟩);(case h1=>intro fa ga oa K' hK;simp only[go_sem,q0,q1,q2,q6,o6,n1,n3,n7,ho,hcd,j6] at hK ⊢;exact hK))
  refine db (a:=0) (v:=.one (.osl (B+71) (nxC 4 (g1 (B+71))) 1 0 cd.length)) (x:=nxC 4 (g1 (B+71))) (y:=some (icells (List.replicate cd.length 0))) w9 (fun fa ga oa K' hK=>?_) ?_
  ·simp only[go_sem,aD,n1,n3,n7] at hK ⊢
   refine⟨l4 _,a7,a7,?_⟩
   rw[show (List.replicate cd.length [C.d (.int .i64 0)]).flatten=icells (List.replicate cd.length 0) by rw[lU,icells,N8]]
   exact hK
  (apply aH;(case hg=>first|exact w9|exact⟨_,rfl,by decide,rfl⟩);(case h1=>intro fa ga oa K' hK;simp only[go_sem,q0,q1,q2,q6,oP1,gP1,n1,n3,n7,hf0,hf1,hfl,hpl] at hK ⊢;exact hK))
  refine fP w9 ?_
  intro K' hK'
  simp only[go_sem,n1,n3,n7,oP1,gP1,hpl]
  refine⟨a7,hK' _ ?_⟩
  clear hK' K'
  simp only[go_sem,q0,q1,q2,q6,o6,n3,m3,hcd,j6]
  have hrep0:List.replicate cd.length (0:Int)=(List.range 0).map (fun j=>((code.length+(Emit.pS fs P f cd ds j code.length).code.length:Nat):Int))++List.replicate (cd.length-0) 0:=a8
  refine ak (fun m st=>∃(j:Nat) (c4:C),m+j=cd.length∧st.f 0=.one (.ptr G gG 0)∧st.f 1=iv .i64 f∧st.f 2=.one (.mp M gM 3)∧st.f 74=.one (.d (qm cd))∧st.f 75=iv .i64 cd.length∧st.f 76=iv .i64 j∧
   dg (B+122) G D H (k.at f c4) (code++(Emit.pS fs P f cd ds j code.length).code) (holes++(Emit.pS fs P f cd ds j code.length).holes) st.gen st.obj∧st.gen G=gG∧st.obj E=some (icells (ent.set f code.length))∧st.gen E=gE∧st.obj Pl=some (plc.set f (.osl (B+71) (st.gen (B+71)) 1 0 cd.length))∧st.gen Pl=gP∧
   st.obj (B+71)=some (icells ((List.range j).map (fun j=>((code.length+(Emit.pS fs P f cd ds j code.length).code.length:Nat):Int))++List.replicate (cd.length-j) 0))∧Oth B G D H E Pl g ob st.gen st.obj) cd.length ?_ ?_
  ·refine⟨0,k.d4,rfl,?_⟩
   simp only[go_sem,q0,q1,q2,n1,n2,n3,m1,m2,m3,n14,hg1,oE1,gE1,gP1]
   refine⟨S1.to (fun i hi=>nt (S1.top i hi)) ?_ ?_ ?_ ?_ ?_,?_,fun i hi h1 h2 h3 h4 h5=>⟨?_,?_⟩⟩
   ·(try simp only[upd]);(repeat rw[if_neg (by omega)])
   ·(try simp only[upd]);(repeat rw[if_neg (by omega)])
   ·(try simp only[upd]);(repeat rw[if_neg (by omega)])
   ·(try simp only[upd]);(repeat rw[if_neg (by omega)])
   ·(try simp only[upd]);(repeat rw[if_neg (by omega)])
   ·rfl
   ·exact nt ((O1 i hi h1 h2 h3 h4 h5).1)
   ·exact nt ((O1 i hi h1 h2 h3 h4 h5).2)
  clear ho hrep0 S1 oE1 gE1 oP1 gP1 hg1 O1 q0 q1 q2 q6 o6 gE0 gP0 oE0
  clear fa g1 ob1
  rintro m fa g1 ob1 ⟨j,c4,hm,q0,q1,q2,q74,q75,q76,S1,hg1,oE1,gE1,oP1,gP1,oL1,O1⟩
  simp only at q0 q1 q2 q74 q75 q76 S1 hg1 oE1 gE1 oP1 gP1 oL1 O1
  by_cases hlt:j<cd.length
  case neg=>
   have hji:¬(j:Int)<(cd.length:Int):=a7
   obtain rfl:j=cd.length:=a7
   simp only[go_sem,q75,q76,hji]
   refine⟨_,ah.refl _,?_⟩
   simp only[go_sem]
   rw[M4,N1,n0] at oL1
   exact⟨⟨c4,⟨S1,hQ.at f c4,gE1,gP1,((O1 M hMB (y9 hGM) (y9 hDM) (y9 hHM) (y9 hEM) (y9 hPM)).1).trans F.gM,oE1,oP1,((O1 M hMB (y9 hGM) (y9 hDM) (y9 hHM) (y9 hEM) (y9 hPM)).2).trans F.oM,a7,a7,a7,by rw[E3];exact hel,by rw[E3];exact hpl,F.d⟩⟩,oL1,hg1,O1⟩
  have hji:(j:Int)<(cd.length:Int):=a7
  have hj0:(0:Int)≤(j:Int):=a7
  obtain⟨⟨x,dx⟩,hx⟩:∃y,cd[j]? = some y:=⟨_,u3 hlt⟩
  obtain⟨d,hd⟩:=getq (show j<ds.length by omega)
  have hdz:=hQ.dz ds (l8 hds) d (l8 hd)
  have hdl2:f<P.depths.length:=by have:=hQ.dl;omega
  have hdl3:(f:Int)<(P.depths.length:Int):=by have:=hQ.dl;omega
  have hdl4:j<ds.length:=a7
  have hdl5:(j:Int)<(ds.length:Int):=a7
  have hwj:=am (k:=j) a7
  have hinD:aZ x=[.int .i64 x.op,.int .i64 x.a,.int .i64 x.b,.int .u32 x.n]:=rfl
  have ho:=S1.oG
  unfold aT.cells at ho
  rw[(hQ.at f c4).s,(hQ.at f c4).ds,(hQ.at f c4).bk,(hQ.at f c4).b,(hQ.at f c4).e,(hQ.at f c4).p] at ho
  have hpf:(plc.set f (.osl (B+71) (g1 (B+71)) 1 0 cd.length))[f]? = some (.osl (B+71) (g1 (B+71)) 1 0 cd.length):=by rw[C5,if_pos rfl,if_pos a7]
  simp only[go_sem,q0,q1,q2,q74,q75,q76,hji,hj0,hx,qm,j6,hinD]
  have hLl:((List.range j).map (fun j=>((code.length+(Emit.pS fs P f cd ds j code.length).code.length:Nat):Int))++List.replicate (cd.length-j) 0).length=cd.length:=by simp;omega
  obtain⟨L,hL⟩:∃L,(List.range j).map (fun j=>((code.length+(Emit.pS fs P f cd ds j code.length).code.length:Nat):Int))++List.replicate (cd.length-j) 0=L:=⟨_,rfl⟩
  rw[hL] at oL1 hLl
  have hsd:∀l,(some (dJ l)).isSome=true:=fun _=>rfl
  refine aI j0 ?_
  obtain⟨gM1,oM1⟩:=O1 M hMB (y9 hGM) (y9 hDM) (y9 hHM) (y9 hEM) (y9 hPM)
  rw[F.gM] at gM1
  rw[F.oM] at oM1
  have nM1:∀k,(M=B+k)=False:=fun k=>by simp;omega
  have nM2:(M=G)=False:=by simp[y9 hGM]
  have hLs:L.set j ((code++(Emit.pS fs P f cd ds j code.length).code).length:Nat)=(List.range (j+1)).map (fun j=>((code.length+(Emit.pS fs P f cd ds j code.length).code.length:Nat):Int))++List.replicate (cd.length-(j+1)) 0:=by
   rw[←hL,J3 _ _ a8,j6,List.length_range,M4,P5,A2,s6]
   congr 1
   obtain⟨z,hz⟩:∃z,cd.length-j=z+1:=⟨cd.length-j-1,a7⟩
   rw[hz,show cd.length-(j+1)=z by omega,D9,F9,j5]
   rfl
  have hlow1:=aT.at_low (c':=.d (.int .i64 d)) S1.low trivial
  by_cases hd0:0≤d
  ·obtain⟨fn,hm1,hw⟩:=Og (hQ.toP hfl hdz) (hok _ (l8 hx))
   simp only at hm1 hw
   have hU:Emit.pS fs P f cd ds (j+1)=ar (Emit.pS fs P f cd ds j) (Emit.sA fs P f d x):=by
    rw[Emit.pS,hx,hd]
    simp only[hd0,A4]
   simp only[go_sem,q0,q1,q2,q74,q75,q76,ho,hg1,oP1,gP1,n1,n2,n3,n4,n5,m1,m2,m3,n7,n9,n11,n13,n14,n15,hpf,E3,hpl,hf0,hf1,hfl,oL1,bK,hLl,hj0,hji,hlt,S1.oD,hds,hd,hdl2,hdl3,hdl4,hdl5,ksD,j6,setAt,fK,r0 hd0,nM1,nM2,gM1,oM1,hm1,pI,x6]
   refine⟨a7,?_⟩
   refine Gq aa rfl (by simp only[go_sem]) hw (B+122) G D H gG _ _ (by simp only[go_sem,hinD]) ?_ (dg.re S1 (fun i hi=>?_) ?_ ?_ ?_ ?_ ?_ hlow1) ?_ ?_ ?_
   ·exact nt (hg1)
   ·exact nt (S1.top i hi)
   ·(try simp only[upd]);(repeat rw[if_neg (by omega)])
   ·(try simp only[upd]);(repeat rw[if_neg (by omega)])
   ·simp only[upd];rw[if_pos trivial];simp only[aT.cells,aT.at,hQ.s,hQ.ds,hQ.bk,hQ.b,hQ.e,hQ.p,ksD]
   ·(try simp only[upd]);(repeat rw[if_neg (by omega)])
   ·(try simp only[upd]);(repeat rw[if_neg (by omega)])
   ·have:=hl (j+1) a7
    rw[hU] at this
    simp only[ar,j5] at this ⊢
    omega
   ·have:=hh (j+1) a7
    rw[hU] at this
    simp only[ar,j5] at this ⊢
    omega
   intro r2 g2 ob2 S2 K2
   have e71:g2 (B+71)=g1 (B+71):=(K2.gen (B+71) a7 a7 a7).trans (nu)
   simp only[go_sem,q76,hwj]
   refine ai (m-1) a7 ⟨j+1,.d (.int .i64 d),a7,?_⟩
   simp only[go_sem,q0,q1,q2,q74,q75,qm]
   refine⟨?_,(K2.gen G a7 hGD hGH).trans ?_,(K2.fr E a7 (y9 hGE) (y9 hDE) (y9 hHE)).trans ?_,(K2.gen E a7 (y9 hDE) (y9 hHE)).trans ?_,(K2.fr Pl a7 (y9 hGP) (y9 hDP) (y9 hHP)).trans ?_,(K2.gen Pl a7 (y9 hDP) (y9 hHP)).trans ?_,(K2.fr (B+71) a7 a7 a7 a7).trans ?_,fun i hi h1 h2 h3 h4 h5=>⟨(K2.gen i a7 h2 h3).trans ?_,(K2.fr i a7 h1 h2 h3).trans ?_⟩⟩
   ·rw[hU]
    simp only[ar,←s6]
    simp only[j5] at S2
    exact S2
   ·exact nt (hg1)
   ·exact nt (oE1)
   ·exact nt (gE1)
   ·rw[e71];exact nt (oP1)
   ·exact nt (gP1)
   ·simp only[upd];rw[if_neg a7,if_pos trivial,hLs,P5]
   ·exact nt ((O1 i hi h1 h2 h3 h4 h5).1)
   ·exact nt ((O1 i hi h1 h2 h3 h4 h5).2)
  ·have hU:Emit.pS fs P f cd ds (j+1)=ar (Emit.pS fs P f cd ds j) ea:=by
    rw[Emit.pS,hx,hd]
    simp only[hd0,A3]
   simp only[go_sem,q0,q1,q2,q74,q75,q76,ho,hg1,oP1,gP1,n1,n2,n3,n4,n5,m1,m2,m3,n7,n9,n11,n13,n14,n15,hpf,E3,hpl,hf0,hf1,hfl,oL1,bK,hLl,hj0,hji,hlt,S1.oD,hds,hd,hdl2,hdl3,hdl4,hdl5,ksD,j6,setAt,fK,hd0]
   refine⟨a7,?_⟩
   refine ai (m-1) a7 ⟨j+1,.d (.int .i64 d),a7,?_⟩
   simp only[go_sem,q0,q1,q2,q74,q75,qm,n1,n2,n3,m1,m2,m3,hg1,oE1,gE1,gP1,n6,n7,oP1,hwj]
   refine⟨?_,?_,fun i hi h1 h2 h3 h4 h5=>⟨?_,?_⟩⟩
   ·rw[hU]
    simp only[ar,ea,n0]
    refine dg.re S1 (fun i hi=>?_) ?_ ?_ ?_ ?_ ?_ hlow1
    ·exact nt (S1.top i hi)
    ·(try simp only[upd]);(repeat rw[if_neg (by omega)])
    ·(try simp only[upd]);(repeat rw[if_neg (by omega)])
    ·simp only[upd];rw[if_pos trivial];simp only[aT.cells,aT.at,hQ.s,hQ.ds,hQ.bk,hQ.b,hQ.e,hQ.p,ksD]
    ·(try simp only[upd]);(repeat rw[if_neg (by omega)])
    ·(try simp only[upd]);(repeat rw[if_neg (by omega)])
   ·rw[hLs,P5]
   ·exact nt ((O1 i hi h1 h2 h3 h4 h5).1)
   ·exact nt ((O1 i hi h1 h2 h3 h4 h5).2)
end
end
section
open Go Go.Am Go.Lower
open Go.Emit (Wr ao au ar oU ea gY eF)
section
structure tB (fs:List Src.CFn) (P:Emit.Plan) (d:gY) (f:Nat):Prop where
 ok:∀x,fs[f]? = some x→∀i∈codeOf x.word x.body,zp fs i.1
 dl:∀x ds,fs[f]? = some x→P.depths[f]? = some ds→ds.length=(codeOf x.word x.body).length
 z:∀x,fs[f]? = some x→(codeOf x.word x.body).length≤100000000
 l:∀x ds,fs[f]? = some x→P.depths[f]? = some ds→∀j,j≤(codeOf x.word x.body).length→d.code.length+(Emit.pS fs P f (codeOf x.word x.body) ds j d.code.length).code.length≤100000000
 h:∀x ds,fs[f]? = some x→P.depths[f]? = some ds→∀j,j≤(codeOf x.word x.body).length→d.holes.length+(Emit.pS fs P f (codeOf x.word x.body) ds j d.code.length).holes.length≤100000000
structure ph (B0 B G D H E Pl gE gP M gM:Nat) (k:aT) (fs:List Src.CFn) (P:Emit.Plan) (d:gY) (was:List (Nat×Nat)) (g:Nat→Nat) (ob:Obs):Prop where
 F:∃plc,AC B G D H E Pl gE gP M gM k fs P d.code d.holes d.ent plc g ob∧∀f id,(f,id)∈was→∃l,d.pls[f]? = some l∧plc[f]? = some (.osl id (g id) 1 0 l.length)∧ob id=some (icells l)∧B0≤id∧id<B
 pl:d.pls.length=fs.length
variable {fs:List Src.CFn}{P:Emit.Plan}
theorem yc{d:gY}{f:Nat} (h:d.pls.length=fs.length):(eF fs P d f).pls.length=fs.length:=by
 unfold eF
 split
 ·simp only[E3];exact h
 ·exact h
theorem uQ (fs:List Src.CFn) (P:Emit.Plan) (f:Nat) (cd:Lower.Code) (ds:List Int) (n:Nat):(Emit.placesOf fs P f cd ds n).length=cd.length:=by simp[Emit.placesOf]
theorem rt {B0 B G D H E Pl gE gP M gM gG:Nat}{k:aT}{d:gY}{was:List (Nat×Nat)}{g:Nat→Nat}{ob:Obs} (X:ph B0 B G D H E Pl gE gP M gM k fs P d was g ob) (hB0:B0≤B) (hMB:G<B0∧D<B0∧H<B0∧E<B0∧Pl<B0) (hg:g G=gG) {f:Nat} (hf:f<fs.length) (ok:tB fs P d f) (hw:∀x∈was,x.1≠f) :
  dF Tryz.prog 91 [.one (.ptr G gG 0),iv .i64 f,.one (.mp M gM 3)] g ob (fun _ g' ob'=>(∃c4,ph B0 (B+122) G D H E Pl gE gP M gM (k.at f c4) fs P (eF fs P d f) (was++[(f,B+71)]) g' ob')∧g' G=gG∧Oth B G D H E Pl g ob g' ob') (fun _ _ _=>False):=by
 obtain⟨⟨plc,F,hwas⟩,hpl⟩:=X
 obtain⟨fx,hfx⟩:=getq hf
 obtain⟨ds,hds⟩:=getq (show f<P.depths.length by rw[F.q.dl];exact hf)
 have hz:=ok.z fx hfx
 refine(yb F hg hfx hds rfl (ok.dl fx ds hfx hds) hz (ok.ok fx hfx) (ok.l fx ds hfx hds) (ok.h fx ds hfx hds)).mono ?_ (fun _ _ _ h=>h)
 rintro _ g' ob' ⟨⟨c4,F'⟩,oL,hG',O⟩
 have hadd:eF fs P d f=⟨d.code++(Emit.pS fs P f (codeOf fx.word fx.body) ds (codeOf fx.word fx.body).length d.code.length).code,d.holes++(Emit.pS fs P f (codeOf fx.word fx.body) ds (codeOf fx.word fx.body).length d.code.length).holes,d.ent.set f d.code.length,d.pls.set f (Emit.placesOf fs P f (codeOf fx.word fx.body) ds d.code.length)⟩:=by
  unfold eF
  rw[hfx,hds]
 refine⟨⟨c4,⟨_,by rw[hadd];exact F',fun f1 id hm=>?_⟩,yc hpl⟩,hG',O⟩
 rw[hadd]
 rcases C8.1 hm with hm|hm
 ·obtain⟨l,h1,h2,h3,h4,h5⟩:=hwas f1 id hm
  have hne:f1≠f:=hw _ hm
  obtain⟨o1,o2⟩:=O id h5 a7 a7 a7 a7 a7
  exact⟨l,by simp only;rw[C5,if_neg (y9 hne)];exact h1,by rw[C5,if_neg (y9 hne),o1];exact h2,by rw[o2];exact h3,h4,a7⟩
 ·obtain⟨rfl,rfl⟩:f1=f∧id=B+71:=by simpa using hm
  refine⟨Emit.placesOf fs P f1 (codeOf fx.word fx.body) ds d.code.length,by simp only;rw[C5,if_pos rfl,if_pos a7],?_,oL,a7,a7⟩
  rw[C5,if_pos rfl,if_pos (by rw[F.pl];exact hf),uQ]
end
theorem zq:∀{l:List iW}{j:Nat}{h:iW},l[j]? = some h→((lj l).drop (j*3)).take 3=[.d (.int .i64 h.1),.d (.int .i64 h.2.1),.d (.int .i64 h.2.2)]
 |a::l,0,h,e=>by
   cases e
   simp[lj]
 |a::l,j+1,h,e=>by
   have ih:=zq (l:=l) (j:=j) (h:=h) (by simpa using e)
   rw[show lj (a::l)=[C.d (.int .i64 a.1),.d (.int .i64 a.2.1),.d (.int .i64 a.2.2)]++lj l by simp[lj],show (j+1)*3=3+j*3 by omega,List.drop_append,E8 a8,x9]
   simpa using ih
theorem js (a:fW) (l:List fW):dJ (a::l)=[C.d (.int .i64 a.1),.d (.int .i64 a.2.1),.d (.int .i64 a.2.2.1),.d (.int .i64 a.2.2.2)]++dJ l:=by simp[dJ,wl]
theorem nn:∀{l:List fW}{j:Nat}{x:fW}{v:Int},l[j]? = some x→(dJ l).set (j*4+3) (.d (.int .i64 v))=dJ (l.set j (x.1,x.2.1,x.2.2.1,v))
 |a::l,0,x,v,e=>by
   cases e
   simp[js]
 |a::l,j+1,x,v,e=>by
   have ih:=nn (l:=l) (j:=j) (x:=x) (v:=v) (by simpa using e)
   rw[js,N6,js,←ih,J3 _ _ (by simp;omega)]
   simp only[j7,j8]
   rw[show (j+1)*4+3-(0+1+1+1+1)=j*4+3 by omega]
end
section
attribute [local congr] Go.Am.ite_cc
open Go Go.Am Go.Lower
open Go.Emit (Wr ao au ar oU ea gY eF)
section
section
variable {S:Sp}{T:Nat→TI}
@[go_sem] theorem Oj {dst:Option Tmp}{ty:TypeId}{ps:String}{af:Array Edge}{gd:Option (Nat×Bool)}{s:St}{K:St→Prop}{k:Box K}{a:Array Operand}{ts:Array TypeId}:opA S T ⟨dst,.call ⟨.builtin .copy,a,ts⟩,ty,ps,af,gd⟩ s k=aS S ⟨dst,.call ⟨.builtin .copy,a,ts⟩,ty,ps,af,gd⟩ s k:=l0 rfl rfl
end
theorem AC.up {B B' G D H E Pl gE gP M gM:Nat}{k:aT}{fs:List Src.CFn}{P:Emit.Plan}{code:List fW}{holes:List iW}{ent:List Int}{plc:List C}{g:Nat→Nat}{ob:Obs} (F:AC B G D H E Pl gE gP M gM k fs P code holes ent plc g ob) (h:B≤B'):AC B' G D H E Pl gE gP M gM k fs P code holes ent plc g ob:=
 ⟨F.S.up h,F.q,F.gE,F.gP,F.gM,F.oE,F.oP,F.oM,by have:=F.eB;omega,by have:=F.pB;omega,by have:=F.mB;omega,F.el,F.pl,F.d⟩
theorem ph.up {B0 B B' G D H E Pl gE gP M gM:Nat}{k:aT}{fs:List Src.CFn}{P:Emit.Plan}{d:gY}{was:List (Nat×Nat)}{g:Nat→Nat}{ob:Obs} (X:ph B0 B G D H E Pl gE gP M gM k fs P d was g ob) (h:B≤B'):ph B0 B' G D H E Pl gE gP M gM k fs P d was g ob:=by
 obtain⟨⟨plc,F,hw⟩,hp⟩:=X
 exact⟨⟨plc,F.up h,fun f id hm=>by obtain⟨l,h1,h2,h3,h4,h5⟩:=hw f id hm;exact⟨l,h1,h2,h3,h4,a7⟩⟩,hp⟩
theorem ph.to {B0 B G D H E Pl gE gP M gM:Nat}{k:aT}{fs:List Src.CFn}{P:Emit.Plan}{d:gY}{was:List (Nat×Nat)}{g g':Nat→Nat}{ob ob':Obs} (X:ph B0 B G D H E Pl gE gP M gM k fs P d was g ob) (ht:∀i,B≤i→ob' i=none) (h:∀i,i=G∨i=D∨i=H∨i=E∨i=Pl∨i=M∨(B0≤i∧i<B)→g' i=g i∧ob' i=ob i):ph B0 B G D H E Pl gE gP M gM k fs P d was g' ob':=by
 obtain⟨⟨plc,F,hw⟩,hp⟩:=X
 have hG:=h G a8;have hD:=h D a8;have hH:=h H a8;have hE:=h E a8;have hP:=h Pl a8;have hM:=h M a8
 refine⟨⟨plc,⟨F.S.to ht hD.1 hH.1 hG.2 hD.2 hH.2,F.q,by rw[hE.1];exact F.gE,by rw[hP.1];exact F.gP,by rw[hM.1];exact F.gM,by rw[hE.2];exact F.oE,by rw[hP.2];exact F.oP,by rw[hM.2];exact F.oM,F.eB,F.pB,F.mB,F.el,F.pl,F.d⟩,fun f id hm=>?_⟩,hp⟩
 obtain⟨l,h1,h2,h3,h4,h5⟩:=hw f id hm
 have hi:=h id (by simp[h4,h5])
 exact⟨l,h1,by rw[hi.1];exact h2,by rw[hi.2];exact h3,h4,h5⟩
variable {fs:List Src.CFn}{P:Emit.Plan}
theorem tC{d:gY}{f:Nat}:d.code.length≤(eF fs P d f).code.length:=by
 unfold eF
 split
 ·simp only[j5];omega
 ·exact l4 _
theorem wq {fs:List Src.CFn}{P:Emit.Plan}:∀k,0<(Emit.IZ fs P k).code.length
 |0=>F0 a8 (tC (d:=⟨[(1,15,0,1)],[],List.replicate fs.length 0,List.replicate fs.length []⟩))
 |k+1=>F0 (wq k) tC
def kX (B n:Nat) (k:Nat):List (Nat×Nat):=(n-1,B+271)::(List.range k).map fun f=>(f,B+471+200*f)
theorem yd (B n k:Nat):kX B n (k+1)=kX B n k++[(k,B+400+200*k+71)]:=by
 simp only[kX,P5,A2,l7,v7,z6]
 rw[show B+471+200*k=B+400+200*k+71 by omega]
def Da (d:gY) (n:Nat) (h:iW):Prop:=
 (0≤h.1∧h.1<(d.code.length:Int))∧(0≤h.2.1∧h.2.1<(n:Int))∧(0≤h.2.2→∃l:List Int,d.pls[h.2.1.toNat]? = some l∧h.2.2<(l.length:Int))
theorem Gr {B G D H E Pl gE gP gG:Nat}{k:aT}{g:Nat→Nat}{ob:Obs} (S:dg B G D H k [] [] g ob) (q:wo k fs P E Pl gE gP) (hg:g G=gG) (hgE:g E=gE) (hgP:g Pl=gP) (oE:ob E=some (icells (List.replicate fs.length 0))) (oP:ob Pl=some (List.replicate fs.length (.d .nsl))) (eB:E<B) (pB:Pl<B)
  (hd5:[G,D,H,E,Pl].Nodup) (hn:0<fs.length) (ok0:tB fs P ⟨[(1,15,0,1)],[],List.replicate fs.length 0,List.replicate fs.length []⟩ (fs.length-1)) (okj:∀j,j<fs.length-1→tB fs P (Emit.IZ fs P j) j)
  (hz:(Emit.whole fs P).code.length≤100000000) (hzh:(Emit.whole fs P).holes.length≤100000000) (hho:∀h∈(Emit.whole fs P).holes,Da (Emit.whole fs P) fs.length h) :
  dF Tryz.prog 59 [.one (.ptr G gG 0)] g ob (fun r g' ob'=>r=.one (.osl (B+37) (g' (B+37)) 4 0 (Emit.whole fs P).code.length)∧ob' (B+37)=some (dJ (Emit.filled (Emit.whole fs P)))∧Oth B G D H E Pl g ob g' ob') (fun _ _ _=>False):=by
 have hGB:=S.gB;have hDB:=S.dB;have hHB:=S.hB
 have hnd:=hd5
 simp only[RJ,x8,z7,E4,not_or,O0,RN,I6] at hnd
 obtain⟨⟨hGD,hGH,hGE,hGP⟩,⟨hDH,hDE,hDP⟩,⟨hHE,hHP⟩,hEP⟩:=hnd
 have hfz:=q.fz
 refine dU B ae mixed Tryz.func59 rfl b9 [.tmp 2] rfl c9 c9 (by simp[Tryz.ntmps59]) fun b₀ β0 s0 w0=>?_
 have hwl:IntKind.i64.wrap ((fs.length:Int)-1)=((fs.length-1:Nat):Int):=by rw[wrap_i64] <;> omega
 simp only[go_sem]
 refine bp (Ψ0:=fun _ _ _=>False) aa rfl (by simp only[go_sem];exact ya (B+100)) (fun _ _ _ h=>h.elim) ?_
 rintro r g1 ob1 ⟨rfl,oM1,fr1⟩
 have S1:dg (B+200) G D H k [] [] g1 ob1:=(S.up (B':=B+200) a7).to (fun i hi=>by rw[(fr1 i a7).2];exact S.top i a7) (fr1 D a7).1 (fr1 H a7).1 (fr1 G a7).2 (fr1 D a7).2 (fr1 H a7).2
 have hg1:g1 G=gG:=(fr1 G a7).1.trans hg
 have ho:=S1.oG
 unfold aT.cells at ho
 rw[q.s,q.ds,q.bk,q.b,q.e,q.p] at ho
 simp only[go_sem,ho,hg1,j6,hwl]
 refine aK aa rfl (di 1 15 0 1 k) (B+200) G D H gG [] [] (by simp only[go_sem]) hg1 S1 (by simp[ao]) (by simp[ao]) ?_
 intro r g2 ob2 S2 K2
 simp only[x9,n0,ao] at S2
 have hg2:g2 G=gG:=(K2.gen G a7 hGD hGH).trans hg1
 have gM2:g2 (B+101)=g1 (B+101):=K2.gen (B+101) a7 a7 a7
 have X0:ph (B+102) (B+200) G D H E Pl gE gP (B+101) (g1 (B+101)) k fs P ⟨[(1,15,0,1)],[],List.replicate fs.length 0,List.replicate fs.length []⟩ [] g2 ob2:=by
  refine⟨⟨List.replicate fs.length (.d .nsl),⟨S2,q,?_,?_,gM2,?_,?_,?_,a7,a7,a7,a8,a8,?_⟩,fun f id hm=>by cases hm⟩,a8⟩
  ·exact(K2.gen E a7 (y9 hDE) (y9 hHE)).trans ((fr1 E a7).1.trans hgE)
  ·exact(K2.gen Pl a7 (y9 hDP) (y9 hHP)).trans ((fr1 Pl a7).1.trans hgP)
  ·exact(K2.fr E a7 (y9 hGE) (y9 hDE) (y9 hHE)).trans ((fr1 E a7).2.trans oE)
  ·exact(K2.fr Pl a7 (y9 hGP) (y9 hDP) (y9 hHP)).trans ((fr1 Pl a7).2.trans oP)
  ·exact(K2.fr (B+101) a7 a7 a7 a7).trans oM1
  ·simp only[RJ,x8,z7,E4,not_or,O0,RN,I6]
   exact⟨⟨hGD,hGH,hGE,hGP,a7⟩,⟨hDH,hDE,hDP,a7⟩,⟨hHE,hHP,a7⟩,⟨hEP,a7⟩,a7⟩
 simp only[go_sem]
 refine bp (Ψ0:=fun _ _ _=>False) aa rfl (by simp only[go_sem];exact rt (k:=k) X0 a7 ⟨a7,a7,a7,a7,a7⟩ hg2 (f:=fs.length-1) a7 ok0 (fun x hx=>by cases hx)) (fun _ _ _ h=>h.elim) ?_
 rintro r g3 ob3 ⟨⟨c4,X3⟩,hg3,O3⟩
 have gM3:=(O3 (B+101) a7 a7 a7 a7 a7 a7).1
 rw[gM2] at gM3
 have X3':ph (B+102) (B+400+200*0) G D H E Pl gE gP (B+101) (g1 (B+101)) (k.at (fs.length-1) c4) fs P (Emit.IZ fs P 0) (kX B fs.length 0) g3 ob3:=X3.up a7
 simp only[go_sem]
 refine ak (fun m st=>∃(j:Nat) (kk:aT),m+j=fs.length-1∧st.f 0=.one (.ptr G gG 0)∧st.f 3=.one (.mp (B+101) (g1 (B+101)) 3)∧st.f 23=iv .i64 (fs.length-1:Nat)∧st.f 24=iv .i64 j∧st.gen G=gG∧
  ph (B+102) (B+400+200*j) G D H E Pl gE gP (B+101) (g1 (B+101)) kk fs P (Emit.IZ fs P j) (kX B fs.length j) st.gen st.obj∧Oth B G D H E Pl g ob st.gen st.obj) (fs.length-1) ?_ ?_
 ·refine⟨0,k.at (fs.length-1) c4,rfl,?_⟩
  simp only[go_sem]
  refine⟨hg3,X3',fun i hi h1 h2 h3 h4 h5=>?_⟩
  obtain⟨a1,a2⟩:=O3 i a7 h1 h2 h3 h4 h5
  obtain⟨b1,b2⟩:=fr1 i a7
  exact⟨a1.trans ((K2.gen i a7 h2 h3).trans b1),a2.trans ((K2.fr i a7 h1 h2 h3).trans b2)⟩
 clear ho
 rintro m fa g4 ob4 ⟨j,kk,hm,q0,q3,q23,q24,hg4,X4,O4⟩
 simp only at q0 q3 q23 q24 hg4 X4 O4
 by_cases hlt:j<fs.length-1
 case pos=>
  have hji:(j:Int)<((fs.length-1:Nat):Int):=a7
  have hwj:=am (k:=j) a7
  have hne:∀x∈kX B fs.length j,x.1≠j:=fun x hx=>by
   simp only[kX,x8,I2,z8] at hx
   rcases hx with rfl|⟨a,ha,rfl⟩
   ·simp only;omega
   ·simp only;omega
  simp only[go_sem,q0,q3,q23,q24,hji]
  refine bp (Ψ0:=fun _ _ _=>False) aa rfl (by simp only[go_sem,q0,q3];exact rt (k:=kk) X4 a7 ⟨a7,a7,a7,a7,a7⟩ hg4 (f:=j) a7 (okj j hlt) hne) (fun _ _ _ h=>h.elim) ?_
  rintro r g5 ob5 ⟨⟨c5,X5⟩,hg5,O5⟩
  simp only[go_sem,q24,hwj]
  refine ai (m-1) a7 ⟨j+1,kk.at j c5,a7,?_⟩
  simp only[go_sem,q0,q3,q23]
  refine⟨hg5,?_,fun i hi h1 h2 h3 h4 h5=>?_⟩
  ·rw[yd]
   exact X5.up a7
  ·obtain⟨a1,a2⟩:=O5 i a7 h1 h2 h3 h4 h5
   obtain⟨b1,b2⟩:=O4 i hi h1 h2 h3 h4 h5
   exact⟨a1.trans b1,a2.trans b2⟩
 obtain rfl:j=fs.length-1:=a7
 have hji:¬((fs.length-1:Nat):Int)<((fs.length-1:Nat):Int):=a7
 have hWh:Emit.IZ fs P (fs.length-1)=Emit.whole fs P:=rfl
 rw[hWh] at X4
 obtain⟨W,hW⟩:∃W,Emit.whole fs P=W:=⟨_,rfl⟩
 rw[hW] at X4 hz hzh hho ⊢
 have X4c:=X4
 obtain⟨⟨plc,F4,hwas⟩,hpl⟩:=X4
 have ho:=F4.S.oG
 unfold aT.cells at ho
 rw[F4.q.s,F4.q.ds,F4.q.bk,F4.q.b,F4.q.e,F4.q.p] at ho
 have n1:∀k,(G=B+k)=False:=fun k=>by simp;omega
 have n2:∀k,(D=B+k)=False:=fun k=>by simp;omega
 simp only[go_sem,q0,q3,q23,q24,hji,ho,hg4,n1]
 have hWn:0<W.code.length:=by rw[←hW];exact wq _
 refine⟨by rw[F4.S.oD];rfl,l4 _,a7,a7,?_⟩
 obtain⟨gC,hgC⟩:∃x,nxC (aD Tt 136+1) (g4 (B+37))=x:=⟨_,rfl⟩
 rw[hgC]
 refine xE (cells:=(List.replicate W.code.length [C.d (.int .i64 0),C.d (.int .i64 0),C.d (.int .i64 0),C.d (.int .i64 0)]).flatten) (cells2:=dJ W.code) (n:=W.code.length) (sz:=4) (id:=B+37) (g:=gC) (id2:=D) (g2:=g4 D) aa ae rfl rfl (by simp only[go_sem]) (by simp only[upd];rw[if_pos trivial]) (by simp only[go_sem]) (nu) rfl (by simp only[upd];rw[if_pos trivial]) ?_ (nt (F4.S.oD)) (fR _) hWn ?_
 ·simp[List.length_flatten]
 have n3:∀k,(H=B+k)=False:=fun k=>by simp;omega
 have n4:∀k,(E=B+k)=False:=fun k=>by simp;omega
 have n5:∀k,(Pl=B+k)=False:=fun k=>by simp;omega
 simp only[go_sem,q0,ho,hg4,n1,n2,n3]
 refine⟨by rw[F4.S.oH];rfl,?_⟩
 have hlC:=fR W.code
 obtain⟨k4,hk4⟩:∃k4:aT,wo k4 fs P E Pl gE gP∧ph (B+102) (B+400+200*(fs.length-1)) G D H E Pl gE gP (B+101) (g1 (B+101)) k4 fs P W (kX B fs.length (fs.length-1)) g4 ob4:=⟨kk,F4.q,X4c⟩
 refine ak (fun m st=>∃j:Nat,m+j=W.holes.length∧st.f 0=.one (.ptr G gG 0)∧st.f 6=.one (.osl (B+37) gC 4 0 W.code.length)∧st.f 47=.one (.osl H (st.gen H) 3 0 W.holes.length)∧st.f 48=iv .i64 W.holes.length∧st.f 49=iv .i64 j∧st.gen G=gG∧st.gen (B+37)=gC∧st.obj (B+37)=some (dJ ((W.holes.take j).foldl (Emit.fill W) W.code))∧
  ph (B+102) (B+400+200*(fs.length-1)) G D H E Pl gE gP (B+101) (g1 (B+101)) kk fs P W (kX B fs.length (fs.length-1)) st.gen st.obj∧Oth B G D H E Pl g ob st.gen st.obj) W.holes.length ?_ ?_
 ·refine⟨0,rfl,?_⟩
  simp only[go_sem,q0,n1,n2,n3,hg4,H4,List.foldl_nil]
  refine⟨X4c.to (fun i hi=>?_) (fun i hi=>⟨?_,?_⟩),fun i hi h1 h2 h3 h4 h5=>⟨?_,?_⟩⟩
  ·exact nt (F4.S.top i hi)
  ·have:i≠B+37:=a7
   (try simp only[upd]);(repeat rw[if_neg (by omega)])
  ·have:i≠B+37:=a7
   (try simp only[upd]);(repeat rw[if_neg (by omega)])
  ·exact nt ((O4 i hi h1 h2 h3 h4 h5).1)
  ·exact nt ((O4 i hi h1 h2 h3 h4 h5).2)
 clear ho hk4 k4
 rintro m fa2 g5 ob5 ⟨j,hm5,p0,p6,p47,p48,p49,hg5,gC5,oC5,X5,O5⟩
 simp only at p0 p6 p47 p48 p49 hg5 gC5 oC5 X5 O5
 have X5c:=X5
 obtain⟨⟨plc5,F5,hwas5⟩,hpl5⟩:=X5
 have ho:=F5.S.oG
 unfold aT.cells at ho
 rw[F5.q.s,F5.q.ds,F5.q.bk,F5.q.b,F5.q.e,F5.q.p] at ho
 have hgH:g5 H=g5 H:=rfl
 have hLl:∀l:List iW,(l.foldl (Emit.fill W) W.code).length=W.code.length:=fun l=>by
  have:∀(l:List iW) (c:List fW),(l.foldl (Emit.fill W) c).length=c.length:=by
   intro l
   induction l with
   |nil=>intro c;rfl
   |cons a l ih=>
     intro c
     rw[L4,ih]
     unfold Emit.fill
     split
     ·rw[E3]
     ·rfl
  exact this l W.code
 by_cases hlt:j<W.holes.length
 case pos=>
  have hji:(j:Int)<(W.holes.length:Int):=a7
  have hj0:(0:Int)≤(j:Int):=a7
  obtain⟨h,hh⟩:=getq hlt
  have hat:=zq hh
  obtain⟨⟨ha0,ha1⟩,⟨hf0,hf1⟩,hpl0⟩:=hho h (l8 hh)
  have hwj:=am (k:=j) a7
  have hcl:=wm W.holes
  obtain⟨hA,hF,hP⟩:=h
  simp only at hat ha0 ha1 hf0 hf1 hpl0
  obtain⟨a,rfl⟩:∃a:Nat,hA=(a:Int):=⟨hA.toNat,a7⟩
  obtain⟨f,rfl⟩:∃f:Nat,hF=(f:Int):=⟨hF.toNat,a7⟩
  obtain⟨cur,hcur⟩:∃c,(W.holes.take j).foldl (Emit.fill W) W.code=c:=⟨_,rfl⟩
  have hcurl:cur.length=W.code.length:=by rw[←hcur];exact hLl _
  rw[hcur] at oC5
  have hac:a<cur.length:=a7
  have hac2:(a:Int)<(W.code.length:Int):=a7
  have hac3:a<W.code.length:=a7
  obtain⟨x,hx⟩:∃x,cur[a]? = some x:=⟨_,u3 hac⟩
  have hfl:f<fs.length:=a7
  have hel:=F5.el
  have hpl5:=F5.pl
  obtain⟨e,he⟩:=getq (show f<W.ent.length by omega)
  have hmc:=fR cur
  have hstep:(W.holes.take (j+1)).foldl (Emit.fill W) W.code=cur.set a (x.1,x.2.1,x.2.2.1,Emit.place W ((a:Int),(f:Int),hP)):=by
   rw[List.take_add_one,hh,Option.toList,List.foldl_append,hcur]
   simp only[L4,List.foldl_nil,Emit.fill,A6,hx]
  have m1:∀k,(B+k=G)=False:=fun k=>by simp;omega
  have m2:∀k,(B+k=D)=False:=fun k=>by simp;omega
  have m4:∀k,(B+k=E)=False:=fun k=>by simp;omega
  have m5:∀k,(B+k=Pl)=False:=fun k=>by simp;omega
  have oE5:=F5.oE
  have gE5:=F5.gE
  have oP5:=F5.oP
  have gP5:=F5.gP
  have hf9:(f:Int)<(fs.length:Int):=a7
  have hs3:=nn (v:=e) hx
  simp only[go_sem,p0,p6,p47,p48,p49,hji,hj0,hlt,F5.S.oH,hcl,hat]
  refine⟨a7,?_⟩
  refine aI j0 ?_
  have hfin:∀(v:Int),Emit.place W ((a:Int),(f:Int),hP)=v→cur.set a (x.1,x.2.1,x.2.2.1,v)=(W.holes.take (j+1)).foldl (Emit.fill W) W.code:=fun v hv=>by rw[hstep,hv]
  by_cases hp:0≤hP
  ·obtain⟨p,rfl⟩:∃p:Nat,hP=(p:Int):=⟨hP.toNat,a7⟩
   obtain⟨l,hl,hlp⟩:=hpl0 hp
   rw[A6] at hl
   obtain⟨id,hid⟩:∃id,(f,id)∈kX B fs.length (fs.length-1):=by
    by_cases e:f=fs.length-1
    ·exact⟨B+271,by rw[e];simp[kX]⟩
    ·exact⟨B+471+200*f,by simp only[kX,x8,I2,z8];exact .inr ⟨f,a7,rfl⟩⟩
   obtain⟨l',k1,k2,k3,k4,k5⟩:=hwas5 f id hid
   rw[hl] at k1
   cases k1
   obtain⟨v,hv⟩:=getq (show p<l.length by omega)
   have hp1:(p:Int)<(l.length:Int):=a7
   have hp2:p<l.length:=a7
   have hp3:(0:Int)≤(p:Int):=a7
   have i1:∀k,k≤100→(id=B+k)=False:=fun k hk=>by simp;omega
   have i8:=i1 8 c8
   have i37:=i1 37 c8
   have hx2:(cur.set a (x.1,x.2.1,x.2.2.1,e))[a]? = some (x.1,x.2.1,x.2.2.1,e):=by rw[C5,if_pos rfl,if_pos hac]
   have hs4:=nn (v:=v) hx2
   rw[List.set_set] at hs4
   have hmc2:=fR (cur.set a (x.1,x.2.1,x.2.2.1,e))
   have hpv:Emit.place W ((a:Int),(f:Int),(p:Int))=v:=by
    simp only[Emit.place,hp,A4,A6,hl,x6,hv]
   simp only[go_sem,p0,p6,ho,hg5,n1,n4,n5,m1,m2,m4,m5,oE5,gE5,oP5,gP5,hf0,hf9,hfl,hel,hpl5,bK,fJ,he,oC5,gC5,ha0,hac2,hac3,hmc,hcurl,setAt,hs3,r0 hp]
   refine⟨a7,?_⟩
   refine aI j0 ?_
   simp only[go_sem,p0,p6,ho,hg5,n1,n4,n5,m1,m2,m4,m5,oP5,gP5,hf0,hf9,hfl,hpl5,bK,fJ,ha0,hac2,hac3,hmc2,hcurl,E3,setAt,hs4,k2,k3,i8,i37,hp1,hp2,hp3,hv,gC5]
   refine⟨a7,?_⟩
   simp only[go_sem,p49,hwj]
   refine ai (m-1) a7 ⟨j+1,a7,?_⟩
   simp only[go_sem,p0,p6,p47,p48,hwj,n1,n3,m1,hg5,gC5]
   refine⟨by rw[hfin _ hpv],X5c.to (fun i hi=>?_) (fun i hi=>⟨?_,?_⟩),fun i hi h1 h2 h3 h4 h5=>⟨?_,?_⟩⟩
   ·exact nt (F5.S.top i hi)
   ·have:i≠B+8:=a7
    (try simp only[upd]);(repeat rw[if_neg (by omega)])
   ·have:i≠B+8:=a7
    have:i≠B+37:=a7
    (try simp only[upd]);(repeat rw[if_neg (by omega)])
   ·exact nt ((O5 i hi h1 h2 h3 h4 h5).1)
   ·exact nt ((O5 i hi h1 h2 h3 h4 h5).2)
  ·have hpv:Emit.place W ((a:Int),(f:Int),hP)=e:=by
    simp only[Emit.place,hp,A3,A6,he,x6]
   simp only[go_sem,p0,p6,ho,hg5,n1,n4,n5,m1,m2,m4,m5,oE5,gE5,oP5,gP5,hf0,hf9,hfl,hel,hpl5,bK,fJ,he,oC5,gC5,ha0,hac2,hac3,hmc,hcurl,setAt,hs3,hp]
   refine⟨a7,?_⟩
   simp only[go_sem,p49,hwj]
   refine ai (m-1) a7 ⟨j+1,a7,?_⟩
   simp only[go_sem,p0,p6,p47,p48,hwj,n1,n3,m1,hg5,gC5]
   refine⟨by rw[hfin _ hpv],X5c.to (fun i hi=>?_) (fun i hi=>⟨?_,?_⟩),fun i hi h1 h2 h3 h4 h5=>⟨?_,?_⟩⟩
   ·exact nt (F5.S.top i hi)
   ·have:i≠B+8:=a7
    (try simp only[upd]);(repeat rw[if_neg (by omega)])
   ·have:i≠B+8:=a7
    have:i≠B+37:=a7
    (try simp only[upd]);(repeat rw[if_neg (by omega)])
   ·exact nt ((O5 i hi h1 h2 h3 h4 h5).1)
   ·exact nt ((O5 i hi h1 h2 h3 h4 h5).2)
 have hji:¬(j:Int)<(W.holes.length:Int):=a7
 have hjl:j=W.holes.length:=a7
 rw[hjl,G4] at oC5
 simp only[go_sem,p0,p6,p47,p48,p49,hji]
 refine⟨_,ah.refl _,?_⟩
 simp only[go_sem,gC5]
 exact⟨rfl,oC5,O5⟩
end
end
end Go.Proofs.YtlglgadejgdpcaaGreatDoor.Low
namespace Go.Proofs.YtlglgadejgdpcaaGreatDoor
section
attribute [local congr] Go.Am.ite_cc
open Go Go.Am Go.RowKit
section
theorem wA:Tryz.prog.underlying 55=some (.pointer 58):=c9
theorem Dq:Tryz.prog.underlying 162=some .unsafePointer:=c9
theorem Ig:Tryz.prog.underlying 58=some (.struct #[⟨ "addr",55,0,false,"","strings",0⟩,⟨ "buf",56,1,false,"","strings",8⟩]):=c9
theorem Oo:Tryz.prog.underlying 4=some .bool:=c9
theorem Dr:∃j,Tryz.prog.info? 58=some j∧j.size=2:=by
 obtain⟨i,hi,hs,_⟩:=PK.info
 exact⟨i,hi,hs⟩
theorem Ke:∃j,Tryz.prog.info? 55=some j∧j.size=1:=by
 obtain⟨i,hi,hs,_⟩:=Nc.info
 exact⟨i,hi,hs⟩
theorem rA (b:Nat) (w:World) (h0:w.cell? ⟨b,0,none⟩=some (.pointer (some ⟨b,0,none⟩))) :
  Calls Tryz.prog 40 #[.pointer (some ⟨b,0,none⟩)] w fun e w'=>e=.returned (.tuple #[])∧w'=w:=by
 obtain⟨j,hj,_⟩:=Dr
 have u34:=run_underlying wA
 have u37:=run_underlying Ig
 have u4:=run_underlying Oo
 go_enter Tryz.func40,Tryz.ntmps40
 go_wp2
 rw[Lib.run_neq_ptr_same w _ wA hj]
 go_wp2
 go_end0
 exact⟨rfl,rfl⟩
theorem zx:Tryz.prog.cellsOf 58=2:=c9
theorem Kf {n:Nat} (hn:2≤n):liesAt Tryz.prog Tryz.prog.depth 58 (n/Tryz.prog.cellsOf 58) 0 58 1=true:=by
 rw[zx]
 have hd:Tryz.prog.depth=(2*(Tryz.prog.types.size+Made.depth)+1)+1:=rfl
 have h1:1≤n/2:=a7
 rw[hd]
 simp only[liesAt,B5]
 left
 rw[hd]
 simp[rowAt,zx,h1,sameLayout]
theorem qo (b n:Nat) (w:World) (h0:w.cell? ⟨b,0,none⟩=some (.pointer none)) (hsh:w.shape? b=some (58,n)) (hn:2≤n) (hfz:w.frozen? ⟨b,0,none⟩=false) :
  Calls Tryz.prog 40 #[.pointer (some ⟨b,0,none⟩)] w fun e w'=>e=.returned (.tuple #[])∧w'=w.setCell ⟨b,0,none⟩ (.pointer (some ⟨b,0,none⟩)):=by
 obtain⟨j,hj,hjs⟩:=Dr
 obtain⟨j9,hj9,hj9s⟩:=Ke
 have u34:=run_underlying wA
 have u37:=run_underlying Ig
 have u4:=run_underlying Oo
 have u79:=run_underlying Dq
 go_enter Tryz.func40,Tryz.ntmps40
 go_wp2
 rw[Lib.run_to_unsafe w ⟨b,0,none⟩ wA Dq hj (by rw[hjs];decide) hsh (by show 0<n;omega)]
 simp only[Result.andThen]
 rw[Oper.upon_value]
 go_wp2
 rw[run_callFunc_extern Tryz.func68 c9 c9 c9 (e:=Extern.AbiNoEscape.same) c9]
 rw[Lib.run_noEscape]
 simp only[Result.andThen]
 rw[Oper.upon_value]
 go_wp2
 rw[Lib.run_from_unsafe w ⟨b,0,none⟩ Dq wA hj hsh (Kf hn)]
 simp only[Result.andThen]
 rw[Oper.upon_value]
 go_wp2
 go_end0
 exact⟨rfl,rfl⟩
theorem Kg:uu Tryz.prog 40:=⟨_,Tryz.func40,rfl,b9⟩
variable {g:Nat→Nat}{ob:Obs}{bs:List UInt8}
theorem pX {b gb:Nat}{a buf:C} (hg:g b=gb) (hc:code gb=59) (ho:ob b=some [a,buf]) (ha:a=.d .nilp∨a=.ptr b gb 0) :
  gf Tryz.prog 40 [.one (.ptr b gb 0)] g ob (fun r g' ob'=>r=uv∧g'=g∧ob'=upd ob b (some [.ptr b gb 0,buf])):=by
 refine⟨Kg,fun b₀ N β ac fa w vs hr hv=>?_⟩
 simp only[ax] at hv
 obtain⟨u,us,rfl,hu,rfl⟩:=hv
 have hu0:=hu
 simp only[ag,aw] at hu
 obtain⟨ad,hβ,hsp,rfl⟩:=hu.2.2 hg (by rw[ho];rfl)
 have hob:=hr.obj b _ ho
 rw[hβ] at hob
 obtain⟨hB,arr,el,lo,hi,hblk,⟨hfr,hcl⟩,hlen,hcells⟩:=hob.cells hsp
 simp only at hcl
 rw[hg,hc] at hcl
 obtain⟨hel,hoff⟩:=hcl a7
 have hel:el=58:=Nat.add_right_cancel (m:=1) hel
 subst hel
 simp only[j7,j8] at hlen
 rw[hoff] at hlen
 simp only[I3,hoff]
 have hun:ag b₀ β g ob w uv (.tuple #[]):=bH
 obtain⟨v0,hv0,hr0⟩:=hcells 0 a rfl
 rw[hoff] at hv0
 have hcell:w.cell? ⟨ad.block,0,none⟩=some v0:=by rw[cp hblk];exact hv0
 rcases ha with rfl|rfl
 ·-- it stores its address
  have hv:v0=.pointer none:=by simp only[aw] at hr0;cases hr0;rfl
  subst hv
  have hst:mR (Tt 55) ⟨fa,g,ob⟩ (.one (.ptr b gb 0)) (.one (.ptr b gb 0)) (bx fun s'=>s'=⟨fa,g,upd ob b (some [.ptr b gb 0,buf])⟩):=by
   simp only[go_sem,hg,ho]
  obtain⟨s',w',rfl,h1,h2,h3⟩:=nG ae hr hst hu0 hu0
  have hrun:=kV (P:=Tryz.prog) (w:=w) (t:=55) (ti:=Tt 55) Nc (b:=ad.block) (o:=0) (v:=.pointer (some ⟨ad.block,0,none⟩)) (vs:=[.pointer (some ⟨ad.block,0,none⟩)]) rfl rfl (by simp[Value.oneCell']) hblk hfr (by simp only[j7,j8];omega)
  simp only[I3,hoff] at h1
  rw[h1] at hrun
  have hw':w'=w.setCells ad.block 0 [.pointer (some ⟨ad.block,0,none⟩)]:=by injection hrun
  refine(qo ad.block arr.size w hcell (by simp[World.shape?,hblk]) a7 (jY hblk hfr a7)).mono fun e w2 ⟨q1,q2⟩=>?_
  have hw2:w2=w':=by rw[q2,hw'];rfl
  subst hw2
  exact⟨_,uv,g,_,β,q1,⟨rfl,rfl,rfl⟩,bH,h2.obj,h2.inj,h3⟩
 ·have hv:v0=.pointer (some ⟨ad.block,0,none⟩):=by
   simp only[aw] at hr0
   obtain⟨ad',hβ',_,e⟩:=hr0.2.2 hg (by rw[ho];rfl)
   rw[hβ] at hβ';cases hβ'
   rw[e,hoff]
  subst hv
  refine(rA ad.block w hcell).mono fun e w' ⟨h1,h2⟩=>?_
  subst h2
  have he:upd ob b (some [.ptr b gb 0,buf])=ob:=by funext i;simp only[upd];split <;> simp_all
  exact⟨_,uv,g,ob,β,h1,⟨rfl,rfl,he.symm⟩,hun,hr.obj,hr.inj,Tr.refl⟩
def Oq (c:UInt8):C:=.d (.int .u8 c.toNat)
structure Bld (b ib gb:Nat) (bs:List UInt8) (g:Nat→Nat) (ob:Obs):Prop where
 gen:g b=gb
 code:code gb=59
 obj:∃a,(a=.d .nilp∨a=.ptr b gb 0)∧((bs=[]∧ob b=some [a,.d .nsl]∧ob ib=none)∨(bs≠[]∧ob b=some [a,.osl ib (g ib) 1 0 bs.length]∧Go.Am.code (g ib)=6∧ob ib=some (bs.map Oq)))
 ne:b≠ib
theorem ey {b B gb:Nat} (t:List UInt8) (h:Bld b (B+14) gb bs g ob) (hb:b<B) (ht:t≠[]) (hl:bs.length≤1000000000) (hl2:t.length≤1000000000) (hfree:∀i,B≤i→i≠B+14→ob i=none) :
  gf Tryz.prog 21 [.one (.ptr b gb 0),sv t] g ob (fun r g' ob'=>r=.tup [iv .i64 t.length,.one (.d .nili)]∧Bld b (B+14) gb (bs++t) g' ob'∧(∀i,i<B→g' i=g i)∧(∀i,i<B→i≠b→ob' i=ob i)∧∀i,B≤i→i≠B+14→ob' i=none):=by
 refine bQ B ae mixed Tryz.func21 rfl b9 [4,5] rfl c9 (by simp[Tryz.ntmps21]) ?_
 obtain⟨hg,hcd,⟨a,ha,hobj⟩,hne⟩:=h
 have n14:=MB hb 14
 have m14:=MC hb 14
 simp only[go_sem]
 rcases hobj with⟨rfl,ho,hi⟩|⟨hbs,ho,hc2,hi⟩
 ·refine ei rfl (by simp only[go_sem];exact pX hg hcd ho ha) ?_
  rintro _ g' ob' ⟨rfl,rfl,rfl⟩
  simp only[go_sem,hg,ho,n14,aD]
  refine⟨⟨c8,a7⟩,_,ah.refl _,⟨by simp only[gK,upd];rfl,⟨?_,hcd,⟨_,.inr rfl,.inr ⟨by simpa using ht,?_,?_,?_⟩⟩,hne⟩,fun i hi=>?_,fun i hi hib=>?_,fun i hi hi'=>?_⟩⟩
  ·simp[upd,n14,hg]
  ·simp[upd,n14]
  ·simp[upd,fY]
  ·simp[upd,m14];intros;rfl
  ·simp only[upd,if_neg (show ¬i=B+14 by omega)]
  ·simp[upd,show ¬i=B+14 by omega,hib]
  ·simp[upd,hi',show ¬i=b by omega,hfree i hi hi']
 ·refine ei rfl (by simp only[go_sem];exact pX hg hcd ho ha) ?_
  rintro _ g' ob' ⟨rfl,rfl,rfl⟩
  simp only[go_sem,hg,ho,n14,m14,aD,hi]
  refine⟨a8,⟨c8,a7⟩,_,ah.refl _,⟨by simp only[gK,upd];rfl,⟨?_,hcd,⟨_,.inr rfl,.inr ⟨by simp[hbs],?_,?_,?_⟩⟩,hne⟩,fun i hi=>?_,fun i hi hib=>?_,fun i hi hi'=>?_⟩⟩
  ·simp[upd,n14,hg]
  ·simp[upd,n14]
  ·simp[upd,fY,apC,hc2]
  ·rw[l6 a8]
   simp[upd,m14];intros;rfl
  ·simp only[upd,if_neg (show ¬i=B+14 by omega)]
  ·simp[upd,show ¬i=B+14 by omega,hib]
  ·simp[upd,hi',show ¬i=b by omega,hfree i hi hi']
theorem Ot:Tryz.prog.underlying 98=some (.pointer 5):=c9
theorem Kh:Tryz.prog.cellsOf 5=1:=c9
theorem wB {b ib gb:Nat} (h:Bld b ib gb bs g ob) (hl:bs.length≤1000000000) :
  gf Tryz.prog 25 [.one (.ptr b gb 0)] g ob (fun r g' ob'=>r=sv bs∧g'=g∧∀i,i≠ib→ob' i=ob i):=by
 refine bQ 0 ae mixed Tryz.func25 rfl b9 [2] rfl c9 (by simp[Tryz.ntmps25]) ?_
 obtain⟨hg,hcd,⟨a,ha,hobj⟩,hne⟩:=h
 rcases hobj with⟨rfl,ho,hi⟩|⟨hbs,ho,hc2,hi⟩
 ·simp only[go_sem]
  refine ir ae mixed [] [([0],[],[],false),([3],[],[],false),([4],[],[],false),([5],[],[],false),([6],[],[],false),([0],[],[],false),([8],[],[],false),([9],[],[],false),([10],[],[],false),([11],[],[],false),([7,12],[],[],false),([13],[],[],true)] 0 j0 rfl c8 ?_
  simp only[go_sem]
  iterate 4 (apply aO;· (intro fa ga oa K' hK;simp only[go_sem,hg,ho] at hK ⊢;exact hK))
  refine aO (v:=.one (.d .nilp)) (fun fa ga oa K' hK=>?_) ?_
  ·simp only[go_sem] at hK ⊢
   refine uh (k:=bx K') rfl (by simp only[go_sem]) ?_
   simp only[go_sem]
   exact hK
  iterate 5 (apply aO;· (intro fa ga oa K' hK;simp only[go_sem,hg,ho] at hK ⊢;exact hK))
  refine aO (v:=sv []) (fun fa ga oa K' hK=>?_) ?_
  ·simp only[go_sem] at hK ⊢
   refine si (k:=bx K') rfl (by simp only[go_sem]) (by simp only[go_sem]) ?_
   simp only[go_sem]
   exact hK
  apply cY
  intro K' hK'
  simp only[go_sem]
  refine hK' _ ?_
  clear hK' K'
  simp only[go_sem]
  exact⟨_,ah.refl _,by simp only[gK,upd];rfl,rfl,fun _ _=>rfl⟩
 ·simp only[go_sem]
  refine ir ae mixed [ib] [([0],[],[],false),([3],[],[],false),([4],[],[],false),([5],[],[],false),([6],[],[],false),([0],[],[],false),([8],[],[],false),([9],[],[],false),([10],[],[],false),([11],[],[],false),([7,12],[],[0],false),([13],[],[],true)] 1 j0 rfl a8 ?_
  simp only[go_sem]
  iterate 4 (apply aO;· (intro fa ga oa K' hK;simp only[go_sem,hg,ho] at hK ⊢;exact hK))
  refine aO (v:=.one (.ptr ib (g ib) 0)) (fun fa ga oa K' hK=>?_) ?_
  ·simp only[go_sem] at hK ⊢
   refine Bz (k:=bx K') rfl (by simp only[go_sem];rfl) rfl (by simp only[go_sem,hi]) (by cases bs;exact absurd rfl hbs;simp) ?_
   simp only[go_sem]
   exact hK
  iterate 5 (apply aO;· (intro fa ga oa K' hK;simp only[go_sem,hg,ho,hi] at hK ⊢;exact hK))
  have hself:upd g ib (g ib)=g:=by funext j;simp only[upd];split <;> simp_all
  refine dR (v:=sv bs) (x:=g ib) (y:=none) (fun fa ga oa K' hK=>?_) ?_
  ·simp only[go_sem,hself,P6] at hK ⊢
   refine zT (k:=bx K') rfl Ot Kh (l:=bs) (by simp only[go_sem]) (by simp only[go_sem]) rfl hc2 hi (by rw[l6 a8];rfl) hbs a7 ?_
   simp only[go_sem]
   exact hK
  simp only[go_sem,hself,P6]
  apply cY
  intro K' hK'
  simp only[go_sem]
  refine hK' _ ?_
  clear hK' K'
  simp only[go_sem]
  refine⟨_,ah.refl _,by simp only[gK,upd];rfl,rfl,fun i hib=>?_⟩
  simp[upd,hib]
end
end
section
open Go Go.Am Go.Asm
end
section
attribute [local congr] Go.Am.ite_cc
open Go Go.Am Go.Asm
theorem Ds {a b:Nat} (ha:a<4294967296) (hb:b<4294967296):(BitVec.ofInt 32 (a:Int) &&&BitVec.ofInt 32 (b:Int)).toNat=a &&&b:=by
 rw[RD,H2,H2,show ((a:Int)%(2^32:Nat)).toNat=a by omega,show ((b:Int)%(2^32:Nat)).toNat=b by omega]
theorem Ou {n:Nat} (h:n<4294967296):IntKind.u32.wrap (n:Int)=(n:Int):=by rw[IntKind.wrap_u32];omega
theorem yi (a b:Nat):(a:Int).fdiv (b:Int)=((a/b:Nat):Int):=by rw[I9 _ a7];rfl
def Ki (w:Nat):AV:=if eG (w/16777216:Nat) (w/1048576%16:Nat) (w/65536%16:Nat) (w%65536:Nat)=true then .tup [nN (w/16777216:Nat) (w/1048576%16:Nat) (w/65536%16:Nat) (w%65536:Nat),iv .i64 0] else .tup [nN 0 0 0 0,iv .i64 7]
theorem zy {s:St}{a b c d e:Int}:mZ s [.agg [.d (.int .i64 a),.d (.int .i64 b),.d (.int .i64 c),.d (.int .i64 d)],iv .i64 e] (.tup [nN a b c d,iv .i64 e]):=
 ⟨_,⟨_,_,rfl,QS [.int .i64 a,.int .i64 b,.int .i64 c,.int .i64 d],_,_,rfl,dy _,rfl⟩,rfl⟩
theorem Dt (w:Nat) (hw:w<4294967296):ba Tryz.prog 23 [iv .u32 w] (· = Ki w):=by
 refine bO ae mixed Tryz.func23 rfl b9 [.cell 2 65,.tmp 3] rfl c9 (by simp[Tryz.ntmps23]) fun g=>?_
 have s24:((w:Nat):Int).fdiv ((2:Int)^min 24 32)=((w/16777216:Nat):Int):=yi w 16777216
 have s20:((w:Nat):Int).fdiv ((2:Int)^min 20 32)=((w/1048576:Nat):Int):=yi w 1048576
 have s16:((w:Nat):Int).fdiv ((2:Int)^min 16 32)=((w/65536:Nat):Int):=yi w 65536
 have m15:∀x:Nat,x<4294967296→IntKind.u32.wrap ((BitVec.ofInt 32 ((x:Nat):Int) &&&BitVec.ofInt 32 15).toNat:Int)=((x%16:Nat):Int):=fun x hx=>by
  rw[show (15:Int)=((15:Nat):Int) from rfl,Ds hx c8,show x &&&15=x%16 from I0 x 4,Ou a7]
 have mFF:∀x:Nat,x<4294967296→IntKind.u32.wrap ((BitVec.ofInt 32 ((x:Nat):Int) &&&BitVec.ofInt 32 65535).toNat:Int)=((x%65536:Nat):Int):=fun x hx=>by
  rw[show (65535:Int)=((65535:Nat):Int) from rfl,Ds hx c8,show x &&&65535=x%65536 from I0 x 16,Ou a7]
 have c64:∀x:Nat,x<4294967296→IntKind.i64.wrap ((x:Nat):Int)=((x:Nat):Int):=fun x hx=>by rw[wrap_i64] <;> omega
 simp only[go_sem,s24,s20,s16]
 erw[m15 (w/1048576) a7,m15 (w/65536) a7,mFF w hw,c64 (w/16777216) a7,c64 (w/1048576%16) a7,c64 (w/65536%16) a7,c64 (w%65536) a7]
 refine aY rfl (by simp only[go_sem];exact yL (w/16777216:Nat) (w/1048576%16:Nat) (w/65536%16:Nat) (w%65536:Nat)) (by simp only[go_sem];rfl) ?_
 rintro _ rfl
 unfold Ki
 cases hR:eG (w/16777216:Nat) (w/1048576%16:Nat) (w/65536%16:Nat) (w%65536:Nat)
 ·simp only[go_sem,dQ]
  exact⟨_,zy,rfl⟩
 ·simp only[go_sem,dQ]
  exact⟨_,zy,rfl⟩
def nq (code:List Nat) (d:Int):AV:=.agg [.d (dt code),.d (.int .i64 d)]
abbrev GK (code:List Nat) (d:Int):Bool:=decide (code.length≤16384∧0≤d∧d≤32768)
theorem yj (code:List Nat) (d:Int):ba Tryz.prog 20 [nq code d] (· = bv (GK code d)):=by
 refine bh ae mixed Tryz.func20 rfl b9 [2] rfl c9 (by simp[Tryz.ntmps20]) fun g=>?_
 unfold nq dt GK
 by_cases h1:code.length≤16384
 ·have h1i:((code.length:Nat):Int)≤16384:=a7
  by_cases h0:0≤d
  ·by_cases h2:d≤32768
   ·rw[D3 ⟨h1,h0,h2⟩]
    simp only[go_sem,j6,h1i,h2,h0]
   ·rw[y7 (fun h=>h2 h.2.2)]
    simp only[go_sem,j6,h1i,h2,h0]
  ·rw[y7 (fun h=>h0 h.2.1)]
   simp only[go_sem,j6,h1i,h0]
 ·have h1i:¬((code.length:Nat):Int)≤16384:=a7
  rw[y7 (fun h=>h1 h.1)]
  simp only[go_sem,j6,h1i]
end
end Go.Proofs.YtlglgadejgdpcaaGreatDoor
namespace Go.Am
section
attribute [local congr] Go.Am.ite_cc
theorem Db {P:Program}{rd:Option Nat}{b₀:Bs}{Φ:St→Loc→List Deferred→World→Prop}{B0:Nat}{Ψ:fF} (hΦ:aE b₀ Φ) {o:Oper}{s:St} (s₁:St) {K:St→Prop}{k:Box K} (hv:ah s s₁) (h:aS (spF P rd b₀ Φ B0 Ψ) o s₁ k):aS (spF P rd b₀ Φ B0 Ψ) o s k:=by
 obtain⟨R,hR,hK⟩:=h
 refine⟨R,fun N β a ds w hr hφ hdst next Q hn hx=>?_,hK⟩
 obtain⟨β1,r1,t1⟩:=hv b₀ N β a w hr
 exact hR N β1 a ds w r1 (hΦ _ _ _ _ _ _ _ hφ t1) hdst next Q hn hx
end
end Go.Am
namespace Go.Proofs.YtlglgadejgdpcaaGreatDoor.Low
section
attribute [local congr] Go.Am.ite_cc
open Go Go.Am Go.Lower
open Go.Emit (Wr ao au ar oU ea gY eF)
def ru (x:fW):Bool:=eG x.1 x.2.1 x.2.2.1 x.2.2.2
def ki (x:fW):Nat:=Asm.word x.1.toNat x.2.1.toNat x.2.2.1.toNat x.2.2.2.toNat
def tD (fs:List Src.CFn) (P:Emit.Plan):AV:=
 if 32768<P.data then .tup [nq [] 0,iv .i64 2]
 else
  let c:=Emit.filled (Emit.whole fs P)
  if 16384<c.length then .tup [nq [] 0,iv .i64 2]
  else if c.all ru then .tup [nq (c.map ki) P.data,iv .i64 0] else .tup [nq [] 0,iv .i64 2]
structure Ok (w:Int) (fs:List Src.CFn) (P:Emit.Plan):Prop where
 n:0<fs.length
 dl:P.depths.length=fs.length
 bl:P.back.length=fs.length
 l:P.base.length=fs.length
 fz:fs.length≤1000000
 bz:∀x∈P.base,0≤x∧x≤1000000000000000
 dz:∀ds∈P.depths,∀d∈ds,-1≤d∧d≤1000000000
 pz:∀x∈fs,0≤x.params∧x.params≤1000000∧0≤x.first∧x.first≤1000000000000
 sz:∀x∈fs,x.params≤x.slots∧x.slots≤1000000
 d0:0≤P.data
 ok0:tB fs P ⟨[(1,15,0,1)],[],List.replicate fs.length 0,List.replicate fs.length []⟩ (fs.length-1)
 okj:∀j,j<fs.length-1→tB fs P (Emit.IZ fs P j) j
 z:(Emit.whole fs P).code.length≤100000000
 zh:(Emit.whole fs P).holes.length≤100000000
 ho:∀h∈(Emit.whole fs P).holes,Da (Emit.whole fs P) fs.length h
theorem wr (d:gY):∀(l:List iW) (c:List fW),(l.foldl (Emit.fill d) c).length=c.length
 |[],c=>rfl
 |a::l,c=>by
   rw[L4,wr d l]
   unfold Emit.fill
   split
   ·rw[E3]
   ·rfl
theorem wt:∀{l:List fW}{j:Nat}{x:fW},l[j]? = some x→((dJ l).drop (j*4)).take 4=wl x
 |a::l,0,x,e=>by
   cases e
   simp[js,wl]
 |a::l,j+1,x,e=>by
   have ih:=wt (l:=l) (j:=j) (x:=x) (by simpa using e)
   rw[js,show (j+1)*4=4+j*4 by omega,List.drop_append,E8 a8,x9]
   simpa using ih
def wcells (l:List Nat):List C:=l.map fun n=>.d (.int .u32 (n:Nat))
theorem yf (l:List Nat):(wcells l).length=l.length:=by simp[wcells]
theorem lV {s:St}{n:Int}:mZ s [.agg [.d .nsl,.d (.int .i64 0)],iv .i64 n] (.tup [nq [] 0,iv .i64 n]):=by
 refine⟨_,⟨nq [] 0,_,rfl,⟨[dt [],.int .i64 0],rfl,fun i c hc'=>?_,rfl⟩,_,_,rfl,⟨_,.d _,rfl⟩,rfl⟩,rfl⟩
 match i,hc' with
 |0,hc'=>cases hc';exact⟨_,rfl,.d _⟩
 |1,hc'=>cases hc';exact⟨_,rfl,.d _⟩
theorem QO {o:bF}{w:Int}{fs:List Src.CFn}{P:Emit.Plan} (ok:P.data≤32768→Ok w fs P) (hpl:ba Tryz.prog 58 [gu w fs] (· = CV P.depths P.back P.base P.data)):bj Tryz.prog 3 o 33 [gu w fs] (· = tD fs P):=by
 refine ap 0 3 o ae mixed Tryz.func33 rfl b9 [.cell 2 35,.tmp 3] rfl c9 c9 (by simp[Tryz.ntmps33]) fun b₀ β0 s0 w0 g=>?_
 obtain⟨z,hz⟩:∃z,tD fs P=z:=⟨_,rfl⟩
 rw[hz]
 unfold tD at hz
 have hsC:gu w fs=.agg [.d (.int .i64 w),.d (.sl (fs.map sfD))]:=rfl
 rw[hsC] at hpl ⊢
 simp only[go_sem]
 refine aR ab rfl (by simp only[go_sem];exact hpl) b9 ?_
 rintro _ rfl
 unfold CV
 by_cases hd:32768<P.data
 ·rw[if_pos hd] at hz
  subst hz
  simp only[go_sem,hd]
  exact⟨_,lV,rfl⟩
 rw[if_neg hd] at hz
 have k:=ok a7
 simp only[go_sem,hd]
 have hfz:=k.fz
 have hrf:(List.replicate fs.length [C.d .nsl]).flatten=List.replicate fs.length (C.d .nsl):=lU _ _
 refine fO ae mixed ab [23,27,29] [([1],[0,1],[],false),([4],[0,1],[],false),([1],[1],[],false),([20],[1],[],false),([21],[1],[],false),([22],[1],[0],false),([1],[0],[],false),([24],[0],[],false),([25],[0],[],false),([26],[0],[1],false),([18,19,23,27],[],[],false),([28],[],[2],false),([29],[],[],true)] 3 rfl j0 rfl c8 ?_
 simp only[go_sem]
 iterate 5 (apply aH;(case hg=>first|exact w9|exact⟨_,rfl,by decide,rfl⟩);(case h1=>intro fa ga oa K' hK;simp only[go_sem,j6] at hK ⊢;exact hK))
 refine db (a:=0) (v:=.one (.osl 23 (nxC 4 (g 23)) 1 0 fs.length)) (x:=nxC 4 (g 23)) (y:=some (icells (List.replicate fs.length 0))) w9 (fun fa ga oa K' hK=>?_) ?_
 ·simp only[go_sem,aD] at hK ⊢
  refine⟨l4 _,a7,a7,?_⟩
  rw[show (List.replicate fs.length [C.d (.int .i64 0)]).flatten=icells (List.replicate fs.length 0) by rw[lU,icells,N8]]
  exact hK
 iterate 3 (apply aH;(case hg=>first|exact w9|exact⟨_,rfl,by decide,rfl⟩);(case h1=>intro fa ga oa K' hK;simp only[go_sem,j6] at hK ⊢;exact hK))
 refine db (a:=1) (v:=.one (.osl 27 (nxC (aD Tt 131+1) (g 27)) 1 0 fs.length)) (x:=nxC (aD Tt 131+1) (g 27)) (y:=some (List.replicate fs.length (.d .nsl))) w9 (fun fa ga oa K' hK=>?_) ?_
 ·simp only[go_sem] at hK ⊢
  refine⟨l4 _,a7,a7,?_⟩
  rw[hrf]
  exact hK
 (apply aH;(case hg=>first|exact w9|exact⟨_,rfl,by decide,rfl⟩);(case h1=>intro fa ga oa K' hK;simp only[go_sem] at hK ⊢;exact hK))
 (apply db;(case hg=>first|exact w9|exact⟨_,rfl,by decide,rfl⟩);(case h1=>intro fa ga oa K' hK;simp only[go_sem] at hK ⊢;exact hK))
 refine fP w9 ?_
 intro K' hK'
 simp only[go_sem]
 refine hK' _ ?_
 clear hK' K'
 obtain⟨g23,hg23⟩:∃x,nxC 4 (g 23)=x:=⟨_,rfl⟩
 obtain⟨g27,hg27⟩:∃x,nxC (aD Tt 131+1) (g 27)=x:=⟨_,rfl⟩
 rw[hg23,hg27]
 have hksd:P.depths.map (fun o=>[ksD o])=P.depths.map (fun o=>[ksD o]):=rfl
 simp only[go_sem]
 refine Db ab _ ((cl (t:=5) (o:=29) (b:=200) (j:=6) (sz:=4) (off:=0) (cells:=[.d (.int .i64 w),.d (.sl (fs.map sfD)),.d (.sl (P.depths.map fun o=>[ksD o])),.d (ksD P.back),.d (ksD P.base),.d (.int .i64 P.data),.d .nsl,.osl 23 g23 1 0 fs.length,.osl 27 g27 1 0 fs.length,.d .nsl,.d (.int .i64 0),.d (.int .i64 0)]) (by simp only[go_sem]) (by simp only[go_sem]) rfl c8).trans
  (cl (t:=5) (o:=29) (b:=201) (j:=9) (sz:=3) (off:=0) (cells:=[.d (.int .i64 w),.d (.sl (fs.map sfD)),.d (.sl (P.depths.map fun o=>[ksD o])),.d (ksD P.back),.d (ksD P.base),.d (.int .i64 P.data),.osl 200 (g 200+1) 4 0 0,.osl 23 g23 1 0 fs.length,.osl 27 g27 1 0 fs.length,.d .nsl,.d (.int .i64 0),.d (.int .i64 0)]) (by simp only[St.claimAt];simp only[go_sem]) (by simp only[St.claimAt];simp only[go_sem]) rfl c8)) ?_
 simp only[St.claimAt]
 refine bp (Ψ0:=fun _ _ _=>False) (R:=fun r g' ob'=>r=.one (.osl 1037 (g' 1037) 4 0 (Emit.whole fs P).code.length)∧ob' 1037=some (dJ (Emit.filled (Emit.whole fs P)))∧∀i,i<10→g' i=(upd (upd (upd g 1 (nxC 85 (g 1))) 2 (nxC 36 (g 2))) 4 (nxC 134 (g 4))) i∧ob' i=(upd (upd (upd (fun _=>none) 1 (some [C.d (D.int IntKind.i64 w),C.d (D.sl (List.map sfD fs))])) 2 (some [C.d D.nsl,C.d (D.int IntKind.i64 0)])) 4 (some [C.d (D.sl (P.depths.map fun o=>[ksD o])),C.d (ksD P.back),C.d (ksD P.base),C.d (D.int IntKind.i64 P.data)])) i) ab rfl ?_ (fun _ _ _ h=>h.elim) ?_
 ·simp only[go_sem]
  refine(Gr (B:=1000) (G:=29) (D:=200) (H:=201) (E:=23) (Pl:=27) (gE:=g23) (gP:=g27) (P:=P) (fs:=fs) (k:=⟨.d (.int .i64 w),.d (.sl (fs.map sfD)),.d (.sl (P.depths.map fun o=>[ksD o])),.d (ksD P.back),.d (ksD P.base),.d (.int .i64 P.data),.osl 23 g23 1 0 fs.length,.osl 27 g27 1 0 fs.length,.d (.int .i64 0),.d (.int .i64 0)⟩)
   ⟨fun i hi=>?_,c8,c8,c8,c8,c8,c8,?_,?_,?_,?_⟩ ⟨rfl,rfl,rfl,rfl,rfl,rfl,k.dl,k.bl,k.l,k.fz,k.bz,k.dz,k.pz,k.sz⟩ ?_ ?_ ?_ ?_ ?_ c8 c8 c8 k.n k.ok0 k.okj k.z k.zh k.ho).mono ?_ (fun _ _ _ h=>h)
  ·(try simp only[upd]);(repeat rw[if_neg (by omega)])
  ·simp[upd,aT.cells]
  ·simp[upd];rfl
  ·simp[upd];rfl
  ·intro x hx
   simp only[aT.all,x8,z7,E4] at hx
   rcases hx with e|e|e|e|e|e|e|e|e|e
   all_goals (subst e;first|trivial|(show (23:Nat)<1000;decide)|(show (27:Nat)<1000;decide))
  ·simp[upd]
  ·simp[upd]
  ·simp[upd]
  ·simp[upd]
  ·simp[upd]
  rintro r g' ob' ⟨h1,h2,h3⟩
  refine⟨h1,h2,fun i hi=>?_⟩
  obtain⟨a1,a2⟩:=h3 i a7 a7 a7 a7 a7 a7
  refine⟨a1.trans ?_,a2.trans ?_⟩
  ·simp only[upd]
   (repeat rw[if_neg (show ¬i=201 by omega)])
   (repeat rw[if_neg (show ¬i=200 by omega)])
   (repeat rw[if_neg (show ¬i=29 by omega)])
   (repeat rw[if_neg (show ¬i=27 by omega)])
   (repeat rw[if_neg (show ¬i=23 by omega)])
  ·simp only[upd]
   (repeat rw[if_neg (show ¬i=201 by omega)])
   (repeat rw[if_neg (show ¬i=200 by omega)])
   (repeat rw[if_neg (show ¬i=29 by omega)])
   (repeat rw[if_neg (show ¬i=27 by omega)])
   (repeat rw[if_neg (show ¬i=23 by omega)])
   split
   ·rfl
   ·rfl
 rintro r g1 ob1 ⟨rfl,oC,O1⟩
 have e2:=O1 2 c8
 have e4:=O1 4 c8
 simp[upd] at e2 e4
 obtain⟨e2,o2⟩:=e2
 obtain⟨e4,o4⟩:=e4
 clear O1
 obtain⟨W,hW⟩:∃W,Emit.whole fs P=W:=⟨_,rfl⟩
 rw[hW] at oC hz
 have hkz:=k.z
 rw[hW] at hkz ⊢
 obtain⟨c,hc⟩:∃c,Emit.filled W=c:=⟨_,rfl⟩
 have hcl:W.code.length=c.length:=by rw[←hc];exact(wr W W.holes W.code).symm
 simp only[hc] at hz
 rw[hc] at oC
 rw[hcl] at hkz ⊢
 obtain⟨gC,hgC⟩:∃x,g1 1037=x:=⟨_,rfl⟩
 rw[hgC]
 have hmc:=fR c
 by_cases hbig:16384<c.length
 ·rw[if_pos hbig] at hz
  subst hz
  have hb:(16384:Int)<(c.length:Int):=a7
  simp only[go_sem,hb,hgC,oC,e2,o2]
  exact⟨_,lV,rfl⟩
 rw[if_neg hbig] at hz
 have hb:¬(16384:Int)<(c.length:Int):=a7
 simp only[go_sem,hb,hgC,oC,e2,o2]
 refine⟨l4 _,a7,a7,?_⟩
 have hwz:(List.replicate c.length [C.d (.int .u32 0)]).flatten=wcells ((c.take 0).map ki++List.replicate (c.length-0) 0):=by
  rw[lU];simp[wcells]
 refine ak (fun m st=>∃j:Nat,m+j=c.length∧(c.take j).all ru=true∧st.f 2=.one (.ptr 2 (st.gen 2) 0)∧st.f 4=.one (.ptr 4 (st.gen 4) 0)∧st.f 7=.one (.osl 38 (st.gen 38) 1 0 c.length)∧st.f 39=.one (.osl 1037 gC 4 0 c.length)∧st.f 40=iv .i64 c.length∧st.f 41=iv .i64 j∧st.gen 1037=gC∧
  st.obj 1037=some (dJ c)∧st.obj 38=some (wcells ((c.take j).map ki++List.replicate (c.length-j) 0))∧(∃x y,st.obj 2=some [x,y])∧st.obj 4=some [.d (.sl (P.depths.map fun o=>[ksD o])),.d (ksD P.back),.d (ksD P.base),.d (.int .i64 P.data)]) c.length ?_ ?_
 ·refine⟨0,rfl,rfl,?_⟩
  simp only[go_sem,hgC,oC,e2,e4,o2,o4]
  exact⟨by rw[hwz];simp,_,_,rfl,rfl⟩
 clear e2 e4 o2 o4 oC hgC hwz hg23 hg27
 rintro m fa g2 ob2 ⟨j,hm,hall,q2,q4,q7,q39,q40,q41,hgC,oC,o38,⟨x0,y0,o2⟩,o4⟩
 simp only at q2 q4 q7 q39 q40 q41 hgC oC o38 o2 o4
 have hwl:(wcells ((c.take j).map ki++List.replicate (c.length-j) 0)).length=c.length:=by
  rw[yf,j5,j6,B9,H9];omega
 by_cases hlt:j<c.length
 case neg=>
  obtain rfl:j=c.length:=a7
  have hji:¬(c.length:Int)<(c.length:Int):=a7
  rw[G4] at hall o38
  rw[M4,N1,n0] at o38
  rw[if_pos hall] at hz
  subst hz
  simp only[go_sem,q2,q4,q7,q40,q41,hji,o2,o4]
  refine⟨_,⟨_,⟨nq (c.map ki) P.data,_,rfl,⟨[dt (c.map ki),.int .i64 P.data],rfl,fun i y hy=>?_,rfl⟩,_,_,rfl,⟨_,.d _,rfl⟩,rfl⟩,rfl⟩,rfl⟩
  match i,hy with
  |0,hy=>
    cases hy
    refine⟨_,rfl,cZ (s:=⟨_,_,_⟩) (cells:=wcells (c.map ki)) rfl (c.map ki) (fun n=>[.int .u32 (n:Nat)]) ?_ ?_ (fun _ _ y hy=>by simp at hy;subst hy;rfl) (fun _ _=>rfl) a8⟩
    ·simp only[upd]
     exact o38
    ·unfold wcells
     generalize c.map ki=l
     induction l with
     |nil=>rfl
     |cons b l ih=>rw[l7,B4,ih];rfl
  |1,hy=>cases hy;exact⟨_,rfl,.d _⟩
 have hji:(j:Int)<(c.length:Int):=a7
 have hj0:(0:Int)≤(j:Int):=a7
 obtain⟨x,hx⟩:∃x,c[j]? = some x:=⟨_,u3 hlt⟩
 have hat:=wt hx
 unfold wl at hat
 have hwj:=am (k:=j) a7
 simp only[go_sem,q2,q4,q7,q39,q40,q41,hji,hj0,hlt,hgC,oC,hmc,hat]
 refine⟨a7,?_⟩
 refine aR ab rfl (by simp only[go_sem];exact vK x.1 x.2.1 x.2.2.1 x.2.2.2) (by simp only[go_sem];rfl) ?_
 rintro _ rfl
 cases hr:ru x
 ·have hr2:eG x.1 x.2.1 x.2.2.1 x.2.2.2=false:=hr
  have hall2:c.all ru=false:=by
   rw[Bool.eq_false_iff]
   intro h
   rw[s7] at h
   rw[h x (l8 hx)] at hr
   cases hr
  rw[hall2] at hz
  simp only[B7,A3] at hz
  subst hz
  simp only[go_sem,hr2,B7,q2,o2]
  exact⟨_,lV,rfl⟩
 ·have hr2:eG x.1 x.2.1 x.2.2.1 x.2.2.2=true:=hr
  have hset:(wcells ((c.take j).map ki++List.replicate (c.length-j) 0)).set j (.d (.int .u32 (ki x:Nat)))=wcells ((c.take (j+1)).map ki++List.replicate (c.length-(j+1)) 0):=by
   obtain⟨n,hn⟩:∃n,c.length-j=n+1:=⟨c.length-j-1,a7⟩
   rw[hn,show c.length-(j+1)=n by omega,A7,hx,Option.toList,A2,s6]
   unfold wcells
   rw[A2,J3 _ _ (by simp;omega)]
   simp only[j6,B9,A2,l7,v7,D9]
   rw[show j-min j c.length=0 by omega]
   rfl
  simp only[go_sem,hr2,q2,q4,q7,o38,hwl,hlt,hji,hj0]
  refine⟨a7,?_⟩
  simp only[go_sem,q41,hwj,setAt]
  refine ai (m-1) a7 ⟨j+1,a7,?_,?_⟩
  ·rw[A7,hx,Option.toList,N5,hall]
   simp[hr]
  simp only[go_sem,q2,q4,q7,q39,q40,hgC,oC,o2,o4,hwj]
  exact⟨hset▸rfl,_,_,rfl,rfl⟩
end
end Go.Proofs.YtlglgadejgdpcaaGreatDoor.Low
namespace Go.Emit
section
open Go.Lower (Ins Code Sig codeOf takes next Inv left Good OkI gw)
section
def Fits (L M:Nat) (Q:Int×Int→Prop) (w:Nat→Wr):Prop:=∀n,(w n).code.length≤L∧(w n).holes.length≤M∧∀h∈(w n).holes,(n:Int)≤h.1∧h.1<(n:Int)+(w n).code.length∧Q h.2
variable {P:Plan}{f:Nat}{fs:List Src.CFn}{d r b:Int}
section
variable {L L' M M':Nat}{Q:Int×Int→Prop}{v w:Nat→Wr}
theorem Fits.mono (h:Fits L M Q w) (hL:L≤L') (hM:M≤M'):Fits L' M' Q w:=fun n=>⟨A9 (h n).1 hL,A9 (h n).2.1 hM,(h n).2.2⟩
theorem fh:Fits 0 0 Q ea:=fun _=>⟨l4 _,l4 _,fun _ h=>by cases h⟩
theorem bI {a b c d:Int}:Fits 1 0 Q (ao a b c d):=fun _=>⟨l4 _,l4 _,fun _ h=>by cases h⟩
theorem mq {a b f pl:Int} (hq:Q (f,pl)):Fits 1 1 Q (au a b f pl):=fun n=>⟨l4 _,l4 _,fun h hh=>by
 obtain rfl:h=((n:Int),f,pl):=by simpa[au] using hh
 exact⟨F3 _,by simp[au];omega,hq⟩⟩
theorem Fits.seq (hv:Fits L M Q v) (hw:Fits L' M' Q w):Fits (L+L') (M+M') Q (ar v w):=fun n=>by
 obtain⟨a1,a2,a3⟩:=hv n
 obtain⟨b1,b2,b3⟩:=hw (n+(v n).code.length)
 refine⟨by simp only[ar,j5];omega,by simp only[ar,j5];omega,fun h hh=>?_⟩
 simp only[ar,C8,j5] at hh ⊢
 rcases hh with hh|hh
 ·obtain⟨c1,c2,c3⟩:=a3 h hh
  exact⟨c1,a7,c3⟩
 ·obtain⟨c1,c2,c3⟩:=b3 h hh
  exact⟨a7,a7,c3⟩
theorem dI:Fits 1 0 Q (jD P f d r b):=bI
theorem fH:Fits 1 0 Q (kH P f d r b):=bI
theorem vH {r n:Int}:Fits 2 0 Q (uy r n):=by
 unfold uy
 split
 ·exact bI.seq bI
 ·exact bI.mono c8 c8
theorem xJ{d:Int}:Fits 3 0 Q (uz fs P f d):=by
 unfold uz
 split
 ·exact bI.mono c8 c8
 ·simp only
  split
  ·exact dI.seq (bI.seq bI)
  ·exact(bI.seq bI).mono c8 c8
theorem rf {a:Int}:∀k,Fits k 0 Q (uA a k)
 |0=>fh
 |k+1=>(rf k).seq bI
theorem xK {a b:Int}:Fits 6 0 Q (uB a b):=by
 by_cases h:b-a≤6
 ·have e:uB a b=uA a (b-a).toNat:=if_pos h
  rw[e]
  exact(rf _).mono a7 c8
 ·have e:uB a b=fun n=>⟨[(1,1,0,a),(1,2,0,b),(17,0,1,0),(4,1,1,15),(14,3,1,2),(20,3,0,(n:Int)+2)],[]⟩:=if_neg h
  rw[e]
  exact fun n=>⟨l4 _,l4 _,fun _ h=>by cases h⟩
theorem oW {P:Plan}{f:Nat}{d p i:Int}:∀k,Fits (2*k) 0 Q (BT P f d p i k)
 |0=>fh
 |k+1=>((oW k).seq (dI.seq bI)).mono a7 c8
theorem Ad{d a:Int}{S:Nat} (hS:∀y,fs[a.toNat]? = some y→y.params.toNat≤S∧Q (a,-1)):Fits (2*S+2) 1 Q (yJ fs P f d a):=by
 unfold yJ
 cases hy:fs[a.toNat]? with
 |none=>exact fh.mono a7 c8
 |some y=>
   obtain⟨h1,h2⟩:=hS y hy
   simp only
   split
   ·exact((oW _).seq ((mq h2).seq fH)).mono a7 c8
   ·exact((oW _).seq ((mq h2).seq fh)).mono a7 c8
theorem BW{d:Int}{x:Ins}{S:Nat} (hS:x.op=10→∀y,fs[x.a.toNat]? = some y→y.params.toNat≤S∧Q (x.a,-1)) (hQ:x.op=8∨x.op=9→Q ((f:Int),x.a)):Fits (2*S+5) 1 Q (sA fs P f d x):=by
 by_cases h1:x.op=1
 ·rw[show sA fs P f d x=_ from if_pos h1]
  exact(vH.seq fH).mono a7 c8
 by_cases h2:x.op=2
 ·rw[show sA fs P f d x=_ from(if_neg h1).trans (if_pos h2)]
  exact(bI.seq fH).mono a7 c8
 by_cases h3:x.op=3
 ·rw[show sA fs P f d x=_ from(if_neg h1).trans ((if_neg h2).trans (if_pos h3))]
  exact(dI.seq bI).mono a7 c8
 by_cases h4:x.op=4
 ·rw[show sA fs P f d x=_ from(if_neg h1).trans ((if_neg h2).trans ((if_neg h3).trans (if_pos h4)))]
  exact(dI.seq (bI.seq (bI.seq fH))).mono a7 c8
 by_cases h5:x.op=5
 ·rw[show sA fs P f d x=_ from(if_neg h1).trans ((if_neg h2).trans ((if_neg h3).trans ((if_neg h4).trans (if_pos h5))))]
  exact(dI.seq (bI.seq (dI.seq bI))).mono a7 c8
 by_cases h6:x.op=6
 ·rw[show sA fs P f d x=_ from(if_neg h1).trans ((if_neg h2).trans ((if_neg h3).trans ((if_neg h4).trans ((if_neg h5).trans (if_pos h6)))))]
  exact(dI.seq (dI.seq (bI.seq fH))).mono a7 c8
 by_cases h7:x.op=7
 ·rw[show sA fs P f d x=_ from(if_neg h1).trans ((if_neg h2).trans ((if_neg h3).trans ((if_neg h4).trans ((if_neg h5).trans ((if_neg h6).trans (if_pos h7))))))]
  exact(dI.seq (bI.seq fH)).mono a7 c8
 have e7:sA fs P f d x=if x.op=8 then au 18 0 f x.a
 else if x.op=9 then ar (jD P f d 1 1) (au 19 1 f x.a)
 else if x.op=10 then yJ fs P f d x.a
 else if x.op=11 then uz fs P f d
 else if x.op=12 then ar (ao 23 1 0 0) (kH P f d 1 0)
 else if x.op=13 then ar (jD P f d 1 1) (ao 24 1 0 0)
 else ea:=(if_neg h1).trans ((if_neg h2).trans ((if_neg h3).trans ((if_neg h4).trans ((if_neg h5).trans ((if_neg h6).trans (if_neg h7))))))
 rw[e7]
 by_cases h8:x.op=8
 ·rw[if_pos h8]
  exact(mq (hQ (.inl h8))).mono a7 c8
 rw[if_neg h8]
 by_cases h9:x.op=9
 ·rw[if_pos h9]
  exact(dI.seq (mq (hQ (.inr h9)))).mono a7 c8
 rw[if_neg h9]
 by_cases h10:x.op=10
 ·rw[if_pos h10]
  exact(Ad (hS h10)).mono a7 c8
 rw[if_neg h10]
 by_cases h11:x.op=11
 ·rw[if_pos h11]
  exact xJ.mono a7 c8
 rw[if_neg h11]
 by_cases h12:x.op=12
 ·rw[if_pos h12]
  exact(bI.seq fH).mono a7 c8
 rw[if_neg h12]
 by_cases h13:x.op=13
 ·rw[if_pos h13]
  exact(dI.seq bI).mono a7 c8
 rw[if_neg h13]
 exact fh.mono a7 c8
theorem Ae:Fits 7 0 Q (BU fs P f):=by
 unfold BU
 split
 ·exact fh.mono c8 c8
 ·cases fs[f]? with
  |none=>exact fh.mono c8 c8
  |some y=>exact(bI.seq xK).mono c8 c8
theorem te {fs:List Src.CFn}{P:Plan}{f:Nat}{cd:Lower.Code}{ds:List Int}{S:Nat} (h:∀x∈cd,(x.1.op=10→∀y,fs[x.1.a.toNat]? = some y→y.params.toNat≤S∧Q (x.1.a,-1))∧(x.1.op=8∨x.1.op=9→Q ((f:Int),x.1.a))):∀k,Fits (7+k*(2*S+5)) k Q (pS fs P f cd ds k)
 |0=>Ae.mono a7 a7
 |k+1=>by
   have ih:=te (P:=P) (ds:=ds) h k
   rw[pS]
   cases hx:cd[k]? with
   |none=>exact(ih.seq fh).mono (by rw[D8];omega) a7
   |some x=>
     cases hd:ds[k]? with
     |none=>exact(ih.seq fh).mono (by rw[D8];omega) a7
     |some d=>
       simp only
       obtain⟨h1,h2⟩:=h x (l8 hx)
       split
       ·exact(ih.seq (BW h1 h2)).mono (by rw[D8];omega) a7
       ·exact(ih.seq fh).mono (by rw[D8];omega) a7
end
end
section
def gz (x:Src.CFn):Lower.Code:=codeOf x.word x.body
def szF (fs:List Src.CFn) (S f:Nat):Nat:=match fs[f]? with|some x=>7+(gz x).length*(2*S+5)|none=>0
def oX (fs:List Src.CFn) (S:Nat):Nat→Nat
 |0=>0
 |k+1=>oX fs S k+szF fs S k
theorem Af (fs:List Src.CFn) (S:Nat) {a b:Nat} (h:a≤b):oX fs S a≤oX fs S b:=by
 induction h with
 |refl=>exact l4 _
 |step _ ih=>exact A9 ih (O7 _ _)
theorem yK (fs:List Src.CFn) (S:Nat):∀k,k≤fs.length→oX fs S k≤7*k+((fs.take k).map fun x=>(gz x).length).sum*(2*S+5)
 |0,_=>by simp[oX]
 |k+1,h=>by
   have ih:=yK fs S k a7
   have hk:fs[k]? = some (fs[k]'a7):=u3 a7
   rw[oX,A7,hk]
   simp only[szF,hk,Option.toList,A2,J5,l7,v7,E6,P9,D8,I3]
   omega
def HH (fs:List Src.CFn) (q:Int×Int):Prop:=(0≤q.1∧q.1<(fs.length:Int))∧(0≤q.2→∃x,fs[q.1.toNat]? = some x∧q.2<((gz x).length:Int))
structure BX (fs:List Src.CFn) (P:Plan) (S:Nat):Prop where
 n:0<fs.length
 dl:P.depths.length=fs.length
 c:∀x∈fs,∀y∈gz x,y.1.op=10→∃(k:Nat) (z:Src.CFn),y.1.a=(k:Int)∧fs[k]? = some z
 j:∀x∈fs,∀y∈gz x,y.1.op=8∨y.1.op=9→0≤y.1.a∧y.1.a<((gz x).length:Int)
 p:∀x∈fs,x.params.toNat≤S
variable {fs:List Src.CFn}{P:Plan}{x:Src.CFn}
theorem BX.fits{S:Nat} (h:BX fs P S) {f:Nat} (hx:fs[f]? = some x) (ds:List Int) (k:Nat):Fits (7+k*(2*S+5)) k (HH fs) (pS fs P f (gz x) ds k):=by
 have hm:=l8 hx
 have hfl:f<fs.length:=(l5.1 hx).1
 refine te (fun y hy=>⟨fun h10 z hz=>?_,fun h89=>?_⟩) k
 ·obtain⟨c,z',e1,e2⟩:=h.c x hm y hy h10
  have:c<fs.length:=(l5.1 e2).1
  exact⟨h.p z (l8 hz),⟨by simp only[e1];omega,fun h0=>by simp only at h0;omega⟩⟩
 ·obtain⟨a1,a2⟩:=h.j x hm y hy h89
  exact⟨⟨by simp only;omega,by simp only;omega⟩,fun _=>⟨x,by simp only[A6];exact hx,a2⟩⟩
structure rh (fs:List Src.CFn) (d:gY) (done:Nat→Prop) (N:Nat):Prop where
 c:d.code.length≤N
 hl:d.holes.length≤N
 h:∀x∈d.holes,0≤x.1∧x.1<(d.code.length:Int)∧HH fs x.2
 pl:d.pls.length=fs.length
 el:d.ent.length=fs.length
 p:∀f,done f→∃x l,fs[f]? = some x∧d.pls[f]? = some l∧l.length=(gz x).length
theorem Ag{d:gY}{f:Nat}{ds:List Int} (hx:fs[f]? = some x) (hd:P.depths[f]? = some ds):eF fs P d f =
  ⟨d.code++(pS fs P f (gz x) ds (gz x).length d.code.length).code,d.holes++(pS fs P f (gz x) ds (gz x).length d.code.length).holes,d.ent.set f d.code.length,d.pls.set f (placesOf fs P f (gz x) ds d.code.length)⟩:=by
 unfold eF
 rw[hx,hd]
 rfl
theorem rh.add{S:Nat} (H:BX fs P S) {d:gY}{done:Nat→Prop}{N f:Nat} (h:rh fs d done N) (hf:f<fs.length):rh fs (eF fs P d f) (fun i=>done i∨i=f) (N+szF fs S f):=by
 obtain⟨x,hx⟩:∃x,fs[f]? = some x:=⟨_,u3 hf⟩
 obtain⟨ds,hd⟩:∃ds,P.depths[f]? = some ds:=⟨_,u3 (by rw[H.dl];exact hf)⟩
 obtain⟨f1,f2,f3⟩:=H.fits hx ds (gz x).length d.code.length
 have hsz:szF fs S f=7+(gz x).length*(2*S+5):=by unfold szF;rw[hx]
 have hge:(gz x).length≤(gz x).length*(2*S+5):=Nat.le_mul_of_pos_right _ a7
 rw[Ag hx hd,hsz]
 refine⟨?_,?_,fun y hy=>?_,?_,?_,fun i hi=>?_⟩
 ·simp only[j5];have:=h.c;omega
 ·simp only[j5];have:=h.hl;omega
 ·simp only[C8,j5] at hy ⊢
  rcases hy with hy|hy
  ·obtain⟨a1,a2,a3⟩:=h.h y hy
   exact⟨a1,a7,a3⟩
  ·obtain⟨a1,a2,a3⟩:=f3 y hy
   exact⟨a7,a7,a3⟩
 ·simp only[E3];exact h.pl
 ·simp only[E3];exact h.el
 ·simp only
  by_cases e:i=f
  ·subst e
   exact⟨x,_,hx,by rw[C5,if_pos rfl,if_pos (by rw[h.pl];exact hf)],by simp[placesOf]⟩
  ·obtain⟨x',l,e1,e2,e3⟩:=h.p i (hi.resolve_right e)
   exact⟨x',l,e1,by rw[C5,if_neg (y9 e)];exact e2,e3⟩
theorem Ff {fs:List Src.CFn}{P:Plan}{S:Nat} (H:BX fs P S):∀k,k≤fs.length-1→rh fs (IZ fs P k) (fun i=>i<k∨i=fs.length-1) (1+szF fs S (fs.length-1)+oX fs S k)
 |0,_=>by
   have hn:=H.n
   have h0:rh fs ⟨[(1,15,0,1)],[],List.replicate fs.length 0,List.replicate fs.length []⟩ (fun _=>False) 1:=⟨a8,a8,(fun _ h=>by cases h),a8,a8,(fun _ h=>False.elim h)⟩
   have h1:=h0.add H (f:=fs.length-1) a7
   refine⟨h1.c,h1.hl,h1.h,h1.pl,h1.el,fun i hi=>h1.p i (.inr (hi.resolve_left a7))⟩
 |k+1,hk=>by
   have ih:=(Ff H k a7).add H (f:=k) a7
   refine⟨by have:=ih.c;rw[oX];exact A9 this a7,by have:=ih.hl;rw[oX];exact A9 this a7,ih.h,ih.pl,ih.el,fun i hi=>ih.p i ?_⟩
   rcases hi with hi|hi
   ·by_cases e:i=k
    ·exact .inr e
    ·exact .inl (.inl a7)
   ·exact .inl (.inr hi)
theorem Lr (fs:List Src.CFn) (S:Nat) {k:Nat} (hn:0<fs.length) (hk:k≤fs.length-1):szF fs S (fs.length-1)+oX fs S k≤oX fs S fs.length:=by
 obtain⟨m,hm⟩:∃m,fs.length=m+1:=⟨fs.length-1,a7⟩
 have h1:=Af fs S hk
 rw[hm] at h1 ⊢
 rw[show m+1-1=m by omega] at h1 ⊢
 rw[oX]
 omega
end
end
section
open Go.Lower (Ins Code Sig codeOf takes next Inv left Good OkI gw)
open Go.Src (aq cK kP jv tQ aN sigs cn dE ll bt CFn)
section
theorem Ah (n:Nat):∀(l:List (List Int)) (k:Nat) (w:Int),(∀o∈l,0≤deepest o 0)→w≤(gp n k l w).2.2∧∀x∈(gp n k l w).2.1,w≤x∧x≤(gp n k l w).2.2
 |[],k,w,_=>⟨F3 _,fun _ h=>by cases h⟩
 |o::l,k,w,h=>by
   have h0:=h o a8
   simp only[gp]
   have ih:=Ah n l (k+1) ((if k+1=n then w else w+1)+deepest o 0) (fun o ho=>h o (by simp[ho]))
   have hb:w≤(if k+1=n then w else w+1):=by split <;> omega
   refine⟨a7,fun x hx=>?_⟩
   rcases x8.1 hx with rfl|hx
   ·exact⟨hb,a7⟩
   ·have:=ih.2 x hx
    exact⟨a7,a7⟩
theorem xL:∀(l:List Int) (d:Int),d≤deepest l d
 |[],d=>F3 _
 |a::l,d=>by rw[uw];have:=xL l (max d a);omega
theorem HI:∀(l:List Asm.Str) (m:Src.Pl) (w:Int),w≤(Src.gV l m w).2
 |[],m,w=>F3 _
 |n::l,m,w=>by rw[Src.gV];have:=HI l ((n,w,0)::m) (w+1);omega
theorem HJ:∀(l:List (Asm.Str×Int)) (m:Src.Pl) (w:Int),(∀a∈l,0≤a.2)→w≤(Src.gA l m w).2
 |[],m,w,_=>F3 _
 |n::l,m,w,h=>by rw[Src.gA];have:=HJ l ((n.1,w,n.2)::m) (w+n.2) (fun a ha=>h a (by simp[ha]));have:=h n a8;omega
variable {p:Src.Prog}{x:CFn}
theorem Ja (h:cn p=0):0≤(aN p).2:=by
 obtain⟨hr,_,_⟩:=Src.wN h
 unfold dE at hr
 simp only[l9,s7] at hr
 have har:∀a∈p.arrays,0≤a.2:=fun a ha=>by
  have:=hr.2.1 a ha
  unfold Src.fB at this
  simp at this
  omega
 unfold aN
 have h1:=HI p.vars [] 0
 have h2:=HJ p.arrays (Src.gV p.vars [] 0).1 (Src.gV p.vars [] 0).2 har
 omega
theorem HK{k:Nat} (hx:(aq p).funcs[k]? = some x):∃f w,p.funcs[k]? = some f∧(aN p).2≤w∧x=Src.mf (aN p).1 f w∧w+(f.params.length+f.locals.length)≤(aq p).words:=by
 unfold aq at hx ⊢
 simp only at hx ⊢
 have hk:k<p.funcs.length:=by
  have:=(l5.1 hx).1
  rw[jv] at this
  exact this
 obtain⟨f,hf⟩:∃f,p.funcs[k]? = some f:=⟨_,u3 hk⟩
 obtain⟨w',h1,h2,h3⟩:=kP (aN p).1 p.funcs (aN p).2 k f hf
 rw[hx] at h2
 exact⟨f,w',hf,h1,C3 h2,h3⟩
theorem Jb (hx:x∈(aq p).funcs):∃f w,f∈p.funcs∧(aN p).2≤w∧x=Src.mf (aN p).1 f w∧w+(f.params.length+f.locals.length)≤(aq p).words:=by
 obtain⟨k,hk⟩:=C2 hx
 obtain⟨f,w,h1,h2⟩:=HK hk
 exact⟨f,w,l8 h1,h2⟩
theorem xM (p:Src.Prog):(aq p).funcs.length=p.funcs.length:=jv _ _ _
theorem Jc (p:Src.Prog):(aq p).funcs.map (fun x=>(x.params,x.word))=sigs p.funcs:=by
 apply L7
 intro k
 unfold sigs
 rw[x7,x7]
 cases hx:(aq p).funcs[k]? with
 |none=>
   have:p.funcs.length≤k:=by rw[←xM];exact List.getElem?_eq_none_iff.1 hx
   rw[D7 this]
   rfl
 |some x=>
   obtain⟨f,w,h1,_,rfl,_⟩:=HK hx
   rw[h1]
   rfl
theorem tg (h:cn p=0) (hx:x∈(aq p).funcs) :
  let T:=fun k=>((gz x)[k]?).map Prod.snd
  T 0=some 0∧Lower.Good (sigs p.funcs) x.word T 0 (gz x):=by
 obtain⟨k,hk⟩:=C2 hx
 exact Lower.wM (Src.Kr h hk)
theorem BY (h:cn p=0) (hx:x∈(aq p).funcs) {y:Ins×Int} (hy:y∈gz x):(1≤y.1.op∧y.1.op≤13)∧(y.1.op=10→∃(c:Nat) (z:CFn),y.1.a=(c:Int)∧(aq p).funcs[c]? = some z)∧(y.1.op=8∨y.1.op=9→0≤y.1.a∧y.1.a<((gz x).length:Int)):=by
 obtain⟨k,hk⟩:=C2 hx
 obtain⟨i,hi⟩:=C2 hy
 obtain⟨t,q,htk,_⟩:=gw (tg h hx).2 hi
 refine⟨by have:=td htk;omega,fun h10=>?_,fun h89=>Lower.GR (Src.Kr h hk) hi h89⟩
 by_cases ha:y.1.a<0
 ·simp[takes,h10,ha] at htk
 ·obtain⟨c,hc⟩:∃c:Nat,y.1.a=(c:Int):=⟨y.1.a.toNat,a7⟩
  cases hs:(sigs p.funcs)[c]? with
  |none=>simp[takes,h10,hc,hs] at htk
  |some s=>
    have hl:c<(aq p).funcs.length:=by
     have:=(l5.1 hs).1
     rw[←Jc,j6] at this
     exact this
    exact⟨c,_,hc,u3 hl⟩
theorem Jd{f:Nat}{ds:List Int} (hd:(ux (aq p).words (aq p).funcs).depths[f]? = some ds):∃x,(aq p).funcs[f]? = some x∧ds=ke (gz x):=by
 unfold ux at hd
 simp only[x7] at hd
 obtain⟨x,h1,h2⟩:=H6.1 hd
 exact⟨x,h1,h2.symm⟩
theorem Ls (h:cn p=0) (hx:x∈(aq p).funcs):(ke (gz x)).length=(gz x).length∧∀d∈ke (gz x),-1≤d∧d≤((gz x).length:Int):=by
 obtain⟨h0,hg⟩:=tg h hx
 obtain⟨hm,_⟩:=uD (fun _=>rfl) h0 hg
 refine⟨hm.inv.1,fun d hd=>?_⟩
 obtain⟨k,hk⟩:=C2 hd
 have:=hm.le d hd
 rcases hm.inv.2.1 k d hk with h|⟨_,h⟩ <;> omega
theorem QV (h:cn p=0) {S:Nat} (hS:∀f∈p.funcs,f.params.length≤S):BX (aq p).funcs (ux (aq p).words (aq p).funcs) S:=by
 obtain⟨hr,_,_⟩:=Src.wN h
 have hl:1≤p.funcs.length:=by unfold dE at hr;simp at hr;exact hr.1.1.1
 refine⟨by rw[xM];exact hl,by simp[ux],fun x hx y hy=>(BY h hx hy).2.1,fun x hx y hy=>(BY h hx hy).2.2,fun x hx=>?_⟩
 obtain⟨f,w,h1,_,rfl,_⟩:=Jb hx
 simp only[Src.mf,A6]
 exact hS f h1
theorem ri {α:Type} (f g:α→Nat) (h:∀x,f x≤6*g x+2):∀l:List α,(l.map f).sum≤6*(l.map g).sum+2*l.length
 |[]=>by simp
 |a::l=>by
   have:=ri f g h l
   have:=h a
   simp only[l7,E6,j7]
   omega
theorem MS{S:Nat} (hl:p.funcs.length≤64) (hN:(p.funcs.map fun f=>bt f.body).sum≤S):oX (aq p).funcs S (aq p).funcs.length≤448+(6*S+128)*(2*S+5):=by
 have h1:=yK (aq p).funcs S (aq p).funcs.length (l4 _)
 rw[G4] at h1
 have h2:=ri (fun x:CFn=>(gz x).length) (fun x=>Src.ll x.body) (fun x=>Src.Lt x.word x.body) (aq p).funcs
 have h3:((aq p).funcs.map fun x=>Src.ll x.body).sum=(p.funcs.map fun f=>bt f.body).sum:=Src.wQ _ _ _
 have h4:=xM p
 have h5:((aq p).funcs.map fun x=>(gz x).length).sum≤6*S+128:=a7
 have:=J6 (2*S+5) h5
 omega
end
end
end Go.Emit

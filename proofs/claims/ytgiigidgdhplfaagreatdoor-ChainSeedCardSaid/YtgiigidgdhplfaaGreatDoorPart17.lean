/- A part of the proof; no conditions. -/
import Derived.Test.YtgiigidgdhplfaaGreatDoorPart16
import Derived.WalkKit
import Derived.Lib.Builder
set_option linter.unusedSimpArgs false
set_option linter.unusedVariables false
set_option maxHeartbeats 64000000
set_option maxRecDepth 100000
namespace Go.Proofs.YtgiigidgdhplfaaGreatDoor.Low
section
attribute [local congr] Go.Am.ite_cc
open Go Go.Am Go.Lower
section
theorem wW {s:St}{cs:List D} (h:cs.all (fun x=>match x with|.nsl=>false|_=>true)=true):jc s (.agg (cs.map .d)) (.agg (cs.map .d)):=by
 refine⟨cs,a7,fun i c hc=>?_,rfl⟩
 rw[w8] at hc
 cases hq:cs[i]? with
 |none=>rw[hq] at hc;cases hc
 |some x=>
   rw[hq] at hc
   cases hc
   refine⟨x,rfl,?_⟩
   have:=x7.1 h x (l6 hq)
   have hn:eQ x=x:=by cases x <;> simp_all[eQ]
   have h2:=Frz.d (s:=s) x
   rwa [hn] at h2
theorem EM (n k:Nat) (h:k<n):(List.replicate k (-1:Int)++List.replicate (n-k) 0).set k (-1)=List.replicate (k+1) (-1)++List.replicate (n-(k+1)) 0:=by
 rw[I9 _ _ a7,H2,L9]
 obtain⟨m,hm⟩:∃m,n-k=m+1:=⟨n-k-1,a6⟩
 rw[hm,show n-(k+1)=m by omega,D4,G2,List.replicate_succ' (n:=k),r0]
 rfl
variable {T:Nat→Option Int}{word:Bool}
theorem BU{n:Nat} (hn:0<n) (hT:T 0=some 0):Inv T n ((List.replicate n (-1:Int)).set 0 0) [0]∧left ((List.replicate n (-1:Int)).set 0 0)+1=n∧(∀v∈(List.replicate n (-1:Int)).set 0 0,v≤0):=by
 obtain⟨m,rfl⟩:∃m,n=m+1:=⟨n-1,a6⟩
 rw[D4,G2]
 refine⟨⟨a7,fun k v h=>?_,fun a ha=>?_⟩,?_,fun v hv=>?_⟩
 ·cases k with
  |zero=>simp at h;subst h;exact .inr ⟨hT,G6 _⟩
  |succ k=>rw[l9,P6] at h;split at h <;> simp at h;exact .inl h.symm
 ·obtain rfl:a=0:=by simpa using ha
  exact⟨0,rfl,hT,G6 _⟩
 ·unfold left
  rw[UO,UX]
  simp
 ·rcases x9.1 hv with rfl|h
  ·exact G6 _
  ·have:=H7 h;omega
theorem mv {α:Type} (n:Nat) (x:α):(List.replicate n [x]).flatten=List.replicate n x:=by
 induction n with
 |zero=>rfl
 |succ n ih=>rw[D4,G1,ih,D4];rfl
theorem wX (x:Ins):(bb x).length=4:=rfl
def nI (l:List Nat):List Int:=l.map fun k:Nat=>(k:Int)
theorem wY {α:Type} (l:List α):l=[]∨∃l' a,l=l'++[a]:=by
 exact XH
structure Mid (T:Nat→Option Int) (n:Nat) (out:List Int) (todo:List Nat):Prop where
 inv:Inv T n out todo
 le:∀v∈out,v+left out≤n
theorem Mid.popL{n:Nat}{out:List Int}{a:Nat}{todo:List Nat} (h:Mid T n out (todo++[a])):Mid T n out todo∧∃v,out[a]? = some v∧T a=some v∧0≤v∧v+left out≤n:=by
 obtain⟨v,h1,h2,h3⟩:=h.inv.2.2 a a7
 exact⟨⟨⟨h.inv.1,h.inv.2.1,fun b hb=>h.inv.2.2 b (by simp[hb])⟩,h.le⟩,v,h1,h2,h3,h.le v (l6 h1)⟩
theorem Mid.find {T:Nat→Option Int}{n k:Nat}{out:List Int}{todo:List Nat}{deep v d:Int} (h:Mid T n out todo) (hT:T k=some deep) (h0:0≤deep) (hv:out[k]? = some v) (hn:v<0) (hd:deep≤d+1) (hdl:d+left out≤n) :
  Mid T n (out.set k deep) (todo++[k])∧left (out.set k deep)+(todo++[k]).length=left out+todo.length∧d+left (out.set k deep)≤n:=by
 obtain⟨h1,h2⟩:=h.inv.find hT h0 hv hn
 have hc:=jY hv hn h0
 refine⟨⟨h1,fun u hu=>?_⟩,h2,a6⟩
 rcases O7 hu with hu|rfl
 ·have:=h.le u hu;omega
 ·omega
theorem EN {ps:Sig}{c:Lower.Code} (h:Lower.Good ps word T 0 c) {i:Nat}{x:Ins}{d:Int} (hi:c[i]? = some (x,d)):OkI ps word T i x d:=by
 have:=gL h hi
 rwa [C5] at this
theorem Ix {ps:Sig}{x:Ins}{t p:Int} (h:takes ps word x=some (t,p)):0≤p∧p≤1:=by
 rcases wV h with h1|h1|h1|h1|h1|h1|h1|h1|h1|h1|h1|h1|h1
 all_goals try (obtain⟨rfl,rfl⟩:_=t∧_=p:=by simpa[takes,h1] using h)
 all_goals try (exact⟨by decide,by decide⟩)
 ·simp only[takes,h1] at h
  simp at h
  obtain⟨_,a,⟨_,_,hb⟩|⟨_,_,hb⟩⟩:=h <;> omega
 ·cases word <;> simp[takes,h1] at h <;> omega
theorem EO {w:Int}{fs:List Src.CFn}{f:Nat}{fx:Src.CFn} (hf:fs[f]? = some fx) {cd:Lower.Code} (hcd:codeOf fx.word fx.body=cd) (hl:cd.length≤100000000) (hT:∀k,T k=(cd[k]?).map Prod.snd) (h0:T 0=some 0) (hg:Lower.Good (Iw fs) fx.word T 0 cd) :
  aG Tryz.prog 98 [gy w fs,iv .i64 f] (fun r=>(Inv T cd.length (Emit.kv cd) []∧∀v∈Emit.kv cd,v≤cd.length)∧r=.tup [.one (.d (ksD (Emit.kv cd))),bv true]):=by
 refine hdP Tryz.func98 rfl [4,5] fun g=>?_
 have hfl:f<fs.length:=(l4.1 hf).1
 have hfl':¬fs.length≤f:=a6
 have hn:0<cd.length:=by
  cases hq:cd with
  |nil=>rw[hT] at h0;simp[hq] at h0
  |cons=>simp
 have hn0:¬(cd.length:Int)=0:=a6
 have hf0:¬(f:Int)<0:=a6
 have hfi1:¬(fs.length:Int)≤(f:Int):=a6
 have hfi2:(f:Int)<(fs.length:Int):=a6
 have hfi0:(0:Int)≤(f:Int):=a6
 have hTl:∀k v,T k=some v→k<cd.length:=fun k v h=>by
  rw[hT] at h
  cases hq:cd[k]? with
  |none=>rw[hq] at h;cases h
  |some=>exact(l4.1 hq).1
 unfold gy
 simp only[go_sem,hf,hfl,hfl',hf0,hfi0,hfi1,hfi2,hn0,sfD,hcd,j5]
 refine⟨l0 _,a6,a6,?_⟩
 refine dn (fun n s=>∃k:Nat,n+k=cd.length∧s.f 1=iv .i64 f∧s.f 2=.one (.ptr 2 (s.gen 2) 0)∧s.f 6=.one (.d (qB cd))∧s.f 7=.one (.osl 42 (s.gen 42) 1 0 cd.length)∧s.f 44=iv .i64 cd.length∧s.f 45=iv .i64 k∧
  s.obj 2=some [.d (.int .i64 w),.d (.sl (fs.map sfD))]∧s.obj 42=some (icells (List.replicate k (-1)++List.replicate (cd.length-k) 0))∧∀j,200≤j→s.obj j=none) cd.length ?_ ?_
 ·refine⟨0,rfl,?_⟩
  simp only[go_sem]
  refine⟨?_,fun j hj=>nu⟩
  rw[mv,icells,A3,P5,P5,M5,y1]
 clear g
 rintro n g gn ob ⟨k,hk,f1,f2,f6,f7,f44,f45,o2,o42,hfr⟩
 simp only at f1 f2 f6 f7 f44 f45 o2 o42 hfr
 have hw:=ah (k:=k) a6
 have hil:(icells (List.replicate k (-1)++List.replicate (cd.length-k) 0)).length=cd.length:=by rw[bN,j4,H2,H2];omega
 by_cases hlt:k<cd.length
 ·have hki:(k:Int)<(cd.length:Int):=a6
  have hk0:(0:Int)≤(k:Int):=a6
  simp only[go_sem,f1,f2,f6,f7,f44,f45,o2,o42,hki,hk0,hlt,hil,hw]
  refine⟨a6,?_⟩
  refine cU (n-1) a6 ⟨k+1,a6,?_⟩
  simp only[go_sem,f1,f2,f6,f7,f44,o2,o42,hw,setAt]
  exact⟨by rw[fL,EM cd.length k hlt],fun j hj=>nt (hfr j hj)⟩
 have hkk:k=cd.length:=a6
 subst hkk
 have hki:¬(cd.length:Int)<(cd.length:Int):=a6
 rw[L9,M5,l8] at o42
 simp only[go_sem,f1,f2,f6,f7,f44,f45,o2,o42,hki,bN,H2,hn]
 refine⟨a6,a6,?_⟩
 refine zH _ (cA (t:=9) (o:=9) (b:=200) (j:=0) (sz:=1) (off:=0) (cells:=[.d .nsl]) XP XP rfl a8) ?_
 simp only[St.claimAt]
 refine bp rfl (by simp only[go_sem];exact(EL (B:=300) (T:=9) (D:=200) (l:=[]) (x:=0) (fun j hj=>nt (hfr j a6)) a8 a8 a8 ⟨by simp[upd],[],by simp[upd,icells]⟩ XR a7).toR) ?_
 rintro _ g2 ob2 ⟨pl,q1,q2⟩
 have e2:=q1 2 a8
 have e42:=q1 42 a8
 have e9:=q1 9 a8
 have p2:=q2 2 a8 a8
 have p42:=q2 42 a8 a8
 simp[upd] at e2 e42 e9 p2 p42
 have hfr2:∀j,300≤j→ob2 j=none:=fun j hj=>by rw[q2 j a6 a6];exact nt (hfr j a6)
 obtain⟨s1,s2,s3⟩:=BU (T:=T) hn h0
 simp only[go_sem]
 refine dn (fun m s=>∃(out:List Int) (todo:List Nat),m=left out+todo.length∧m≤cd.length∧Mid T cd.length out todo∧Emit.search cd (left out+todo.length) (out,todo)=Emit.kv cd∧s.f 1=iv .i64 f∧s.f 2=.one (.ptr 2 (s.gen 2) 0)∧s.f 6=.one (.d (qB cd))∧s.f 7=.one (.osl 42 (s.gen 42) 1 0 cd.length)∧s.f 9=.one (.ptr 9 (s.gen 9) 0)∧s.obj 2=some [.d (.int .i64 w),.d (.sl (fs.map sfD))]∧s.obj 42=some (icells out)∧qh 9 200 (nI todo) s.gen s.obj∧(∀j,300≤j→s.obj j=none)) cd.length ?_ ?_
 ·refine⟨(List.replicate cd.length (-1)).set 0 0,[0],by rw[j6,j7];exact s2.symm,l0 _,⟨s1,fun v hv=>by have:=s3 v hv;omega⟩,by rw[j6,j7,s2];rfl,?_⟩
  simp only[go_sem,f1,f2,f6,f7,e2,e42,e9,p2,p42,o2]
  exact⟨fL _ _ _,pl,hfr2⟩
 clear f1 f2 f6 f7 f44 f45 o2 o42 hk hlt hw s1 s2 s3 hfr hfr2 e2 e42 e9 p2 p42 pl q1 q2 hil hki
 clear n g gn ob g2 ob2
 rintro n g gn ob ⟨out,todo,hm,hmn,hmid,hse,f1,f2,f6,f7,f9,o2,o42,pl,hfr⟩
 simp only at f1 f2 f6 f7 f9 o2 o42 pl hfr
 have hnl:(nI todo).length=todo.length:=by simp[nI]
 simp only[go_sem,f9]
 refine bp rfl (by simp only[go_sem,f9];exact(Ml (B:=300) (T:=9) (D:=200) (l:=nI todo) hfr a8 pl rfl).toR) ?_
 rintro _ g2 ob2 ⟨rfl,rfl,rfl⟩
 rw[hnl]
 rcases wY todo with rfl|⟨todo,a,rfl⟩
 ·rw[Emit.yD] at hse
  subst hse
  simp only[go_sem,f7,j7]
  refine⟨_,⟨_,cL (s:=⟨_,_,_⟩) rfl (Emit.kv cd) (fun k=>[.int .i64 k]) o42 ?_ (fun _ _ y hy=>by simp at hy;subst hy;rfl) (fun _ _=>rfl) hmid.inv.1,rfl⟩,⟨hmid.inv,fun v hv=>by have:=hmid.le v hv;omega⟩,rfl⟩
  simp only[icells,l7,v8]
  clear o42 hmid hm
  generalize Emit.kv cd=out
  induction out with
  |nil=>rfl
  |cons b out ih=>rw[l7,B4,ih];rfl
 obtain⟨hmid',v,hv,hTa,hv0,hvn⟩:=hmid.popL
 have hal:=hTl a v hTa
 have hTa':=hTa
 rw[hT] at hTa'
 obtain⟨⟨x,v'⟩,hx,hxv⟩:=I5.1 hTa'
 obtain rfl:v'=v:=hxv
 obtain⟨t,p,htk,ht0,htv,hret,hnx⟩:=EN hg hx
 have hpos:(0:Int)<((todo.length+1:Nat):Int):=a6
 have hcn:nI (todo++[a])=nI todo++[(a:Int)]:=by simp[nI]
 rw[hcn] at pl
 have hll:(todo++[a]).length=todo.length+1:=a7
 rw[hll]
 have htl:todo.length≤1000000000:=by rw[hll] at hm;omega
 have hse2:Emit.search cd (n-1) (Emit.visit cd ((next x a).drop 0) (out,todo))=Emit.kv cd:=by
  rw[hll,←C0,Emit.wt cd _ out todo a hx] at hse
  rw[hm,hll]
  exact hse
 have hnl2:(nI todo).length=todo.length:=by simp[nI]
 simp only[go_sem,hpos,f9]
 refine bp rfl (by simp only[go_sem,f9];exact(Rr (B:=300) (T:=9) (D:=200) (l:=nI todo) (x:=(a:Int)) hfr a8 a8 a8 pl rfl a6).toR) ?_
 rintro _ g3 ob3 ⟨rfl,pl3,rfl,q3⟩
 have p2:=q3 2 a8
 have p42:=q3 42 a8
 rw[o2] at p2
 rw[o42] at p42
 have hfr3:∀j,300≤j→ob3 j=none:=fun j hj=>by rw[q3 j a6];exact hfr j hj
 simp only[go_sem]
 refine eR aB mixed b9 ?_
 have hol:=hmid.inv.1
 have ha0:(0:Int)≤(a:Int):=a6
 have ha1:(a:Int)<(cd.length:Int):=a6
 have hao:a<out.length:=a6
 simp only[go_sem,f1,f2,f6,f7,p2,p42,hal,hx,ha0,ha1,j5,wX,hv,fK,bN,hol]
 have hvb:v'≤1000000000:=a6
 refine bT rfl (EK hf htk ht0 htv hvb hret) ⟨_,_,rfl,wW (cs:=[.int .i64 w,.sl (fs.map sfD)]) rfl,_,_,rfl,⟨_,.d _,rfl⟩,_,_,rfl,wW (cs:=bb x) rfl,_,_,rfl,⟨_,.d _,rfl⟩,rfl⟩ rfl ?_
 have hp:=Ix htk
 obtain⟨dp,hdp⟩:∃q:Int,(if x.op=11 then 0 else v'-t+p)=q:=⟨_,rfl⟩
 rw[hdp]
 have hnx2:∀y∈next x a,∃k':Nat,y=(k':Int)∧T k'=some dp∧0≤dp∧dp≤v'+1:=fun y hy=>by
  obtain⟨k',h1,h2⟩:=hnx y hy
  have h11:¬x.op=11:=by
   intro e
   unfold next at hy
   rw[if_neg a6,if_neg a6,if_pos e] at hy
   cases hy
  rw[if_neg h11] at hdp
  exact⟨k',h1,by rw[h2,hdp],a6,a6⟩
 simp only[go_sem,f1,f2,f6,f7,p2,p42,hal,hx,ha0,ha1,j5,wX]
 refine dX rfl (Mj (at':=a) (x:=x) a6) c9 ?_
 rintro _ rfl
 simp only[go_sem,j5,ksD]
 refine dn (fun m s=>∃(out:List Int) (todo:List Nat) (j:Nat),m+j=(next x a).length∧left out+todo.length+1=n∧Mid T cd.length out todo∧Emit.search cd (n-1) (Emit.visit cd ((next x a).drop j) (out,todo))=Emit.kv cd∧v'+left out≤cd.length∧s.f 11=iv .i64 dp∧s.f 79=.one (.d (ksD (next x a)))∧s.f 80=iv .i64 (next x a).length∧s.f 81=iv .i64 j∧s.f 1=iv .i64 f∧s.f 2=.one (.ptr 2 (s.gen 2) 0)∧s.f 6=.one (.d (qB cd))∧s.f 7=.one (.osl 42 (s.gen 42) 1 0 cd.length)∧s.f 9=.one (.ptr 9 (s.gen 9) 0)∧s.obj 2=some [.d (.int .i64 w),.d (.sl (fs.map sfD))]∧s.obj 42=some (icells out)∧qh 9 200 (nI todo) s.gen s.obj∧(∀j,300≤j→s.obj j=none)) (next x a).length ?_ ?_
 ·refine⟨out,todo,0,rfl,by rw[hm,hll];omega,hmid',hse2,hvn,?_⟩
  simp only[go_sem,f1,f2,f6,f7,f9,p2,p42,ksD]
  exact⟨pl3,hfr3⟩
 clear f1 f2 f6 f7 f9 o2 o42 pl pl3 p2 p42 q3 hfr hfr3 hm hmid hmid' hse hse2 hv hvn hol hao hll hcn hnl hnl2 htl hpos hvb
 clear g g3 ob2 ob3 out todo
 rintro m g gn ob ⟨out,todo,j,hj,hm,hmid,hse,hvn,f11,f79,f80,f81,f1,f2,f6,f7,f9,o2,o42,pl,hfr⟩
 simp only at f11 f79 f80 f81 f1 f2 f6 f7 f9 o2 o42 pl hfr
 have hol:=hmid.inv.1
 have hjl:(next x a).length≤2:=by
  unfold next
  by_cases e1:x.op=8
  ·simp[e1]
  ·by_cases e2:x.op=9
   ·simp[e2]
   ·by_cases e3:x.op=11 <;> simp[e1,e2,e3]
 have hwj:=ah (k:=j) a6
 by_cases hlt:j<(next x a).length
 case neg=>
  have hji:¬(j:Int)<((next x a).length:Int):=a6
  simp only[go_sem,f79,f80,f81,hji,ksD]
  refine cU (n-1) a6 ⟨out,todo,a6,a6,hmid,?_,?_⟩
  ·rw[D8 a6] at hse
   rw[show left out+todo.length=n-1 by omega]
   exact hse
  simp only[go_sem,f1,f2,f6,f7,f9,o2,o42]
  exact⟨pl,hfr⟩
 have hji:(j:Int)<((next x a).length:Int):=a6
 have hj0:(0:Int)≤(j:Int):=a6
 obtain⟨y,hy⟩:=getq hlt
 obtain⟨k,rfl,hTk,hdp0,hdp1⟩:=hnx2 y (l6 hy)
 rw[A0 hlt,show (next x a)[j]=(k:Int) from(l4.1 hy).2] at hse
 have hkl:=hTl k _ hTk
 have hkl':¬List.length cd≤k:=a6
 have hkl2:¬(List.length cd:Int)≤(k:Int):=a6
 have hkl3:(k:Int)<(List.length cd:Int):=a6
 have hk00:(0:Int)≤(k:Int):=a6
 have hk0:¬(k:Int)<0:=a6
 obtain⟨u,hu⟩:=getq (show k<out.length by omega)
 rcases hmid.inv.seen hTk hu with hneg|heq
 ·have hneg':¬0≤u:=a6
  obtain⟨m1,m2,m3⟩:=hmid.find hTk hdp0 hu hneg hdp1 hvn
  rw[Emit.rF (u:=u) (d:=dp) Zj hneg (by rw[A6,←hT];exact hTk),A6] at hse
  simp only[go_sem,f1,f2,f6,f7,f9,f11,f79,f80,f81,o2,o42,hlt,hji,hj0,hy,hkl,hkl',hkl2,hkl3,hk00,hk0,hu,hneg,hneg',hol,j5,fK,bN,ksD,setAt]
  refine⟨a6,?_⟩
  have hfr2:∀j,300≤j→upd ob 42 (some (icells (out.set k dp))) j=none:=fun j hj=>by simp only[upd];rw[if_neg a6];exact hfr j hj
  have pl2:qh 9 200 (nI todo) gn (upd ob 42 (some (icells (out.set k dp)))):=⟨by simp[upd];exact pl.t,by simp[upd];exact pl.d⟩
  rw[fL]
  refine bp rfl (by simp only[go_sem,f9];exact(EL (B:=300) (T:=9) (D:=200) (l:=nI todo) (x:=(k:Int)) hfr2 a8 a8 a8 pl2 rfl (by simp[nI];omega)).toR) ?_
  rintro _ g2 ob2 ⟨pl3,q1,q2⟩
  have e2:=q1 2 a8
  have e42:=q1 42 a8
  have e9:=q1 9 a8
  have p2:=q2 2 a8 a8
  have p42:=q2 42 a8 a8
  simp[upd] at p2 p42
  rw[o2] at p2
  simp only[go_sem,f81,hwj]
  refine cU (m-1) a6 ⟨out.set k dp,todo++[k],j+1,a6,a6,m1,hse,m3,?_⟩
  simp only[go_sem,f1,f2,f6,f7,f9,f11,f79,f80,e2,e42,e9,p2,p42,ksD]
  exact⟨by rw[show nI (todo++[k])=nI todo++[(k:Int)] by simp[nI]];exact pl3,fun j hj=>by rw[q2 j a6 a6];exact hfr2 j hj⟩
 ·subst heq
  have hu1:¬u<0:=a6
  rw[Emit.rG (u:=u) Zj hu1] at hse
  simp only[go_sem,f1,f2,f6,f7,f9,f11,f79,f80,f81,o2,o42,hlt,hji,hj0,hy,hkl,hkl',hkl2,hkl3,hk00,hk0,hu,hdp0,hu1,hol,j5,fK,bN,ksD,hwj]
  refine cU (m-1) a6 ⟨out,todo,j+1,a6,hm,hmid,hse,hvn,?_⟩
  simp only[go_sem,f1,f2,f6,f7,f9,f11,f79,f80,o2,o42,ksD]
  exact⟨pl,hfr⟩
end
end
end Go.Proofs.YtgiigidgdhplfaaGreatDoor.Low
namespace Go.Emit
section
open Go.Lower (Ins Code Sig codeOf takes next Inv left Good OkI gL)
section
variable {ps:Sig}{word:Bool}
theorem tV{x:Ins}{r:Int×Int} (h:takes ps word x=some r):x.op=1∨x.op=2∨x.op=3∨x.op=4∨x.op=5∨x.op=6∨x.op=7∨x.op=8∨x.op=9∨x.op=10∨x.op=11∨x.op=12∨x.op=13:=by
 unfold takes at h
 by_cases h1:x.op=1∨x.op=2∨x.op=12
 ·omega
 exact VQ
theorem DE{x:Ins}{t p:Int} (h:takes ps word x=some (t,p)):0≤p∧p≤1:=by
 rcases tV h with h1|h1|h1|h1|h1|h1|h1|h1|h1|h1|h1|h1|h1
 all_goals try (obtain⟨rfl,rfl⟩:_=t∧_=p:=by simpa[takes,h1] using h)
 all_goals try (exact⟨by decide,by decide⟩)
 ·simp only[takes,h1] at h
  simp at h
  obtain⟨_,a,⟨_,_,hb⟩|⟨_,_,hb⟩⟩:=h <;> omega
 ·cases word <;> simp[takes,h1] at h <;> omega
structure rI (T:Nat→Option Int) (cd:Lower.Code) (out:List Int) (todo:List Nat):Prop where
 inv:Inv T cd.length out todo
 le:∀v∈out,v+left out≤cd.length
 clo:∀(k:Nat) (v:Int),out[k]? = some v→0≤v→k∈todo∨∀x d,cd[k]? = some (x,d)→∀y∈next x k,∃u,out[y.toNat]? = some u∧0≤u
theorem rI.find {T:Nat→Option Int}{cd:Lower.Code}{k:Nat}{out:List Int}{todo:List Nat}{deep v d:Int} (h:rI T cd out todo) (hT:T k=some deep) (h0:0≤deep) (hv:out[k]? = some v) (hn:v<0) (hd:deep≤d+1) (hdl:d+left out≤cd.length) :
  rI T cd (out.set k deep) (todo++[k])∧left (out.set k deep)+(todo++[k]).length=left out+todo.length∧d+left (out.set k deep)≤cd.length:=by
 obtain⟨h1,h2⟩:=h.inv.find hT h0 hv hn
 have hc:=Lower.jY hv hn h0
 have hkl:=(l4.1 hv).1
 refine⟨⟨h1,fun u hu=>?_,fun j u hj hu=>?_⟩,h2,a6⟩
 ·rcases O7 hu with hu|rfl
  ·have:=h.le u hu;omega
  ·omega
 ·have grow:∀(i:Nat) (u:Int),out[i]? = some u→0≤u→∃u',(out.set k deep)[i]? = some u'∧0≤u':=fun i u hi hu=>by
   by_cases e:k=i
   ·subst e;exact⟨deep,by rw[D2,if_pos rfl,if_pos hkl],h0⟩
   ·exact⟨u,by rw[D2,if_neg e];exact hi,hu⟩
  by_cases e:k=j
  ·subst e;exact .inl a7
  ·rw[D2,if_neg e] at hj
   rcases h.clo j u hj hu with q|q
   ·exact .inl (by simp[q])
   ·refine .inr fun x d hx y hy=>?_
    obtain⟨u',q1,q2⟩:=q x d hx y hy
    exact grow _ _ q1 q2
theorem pk {T:Nat→Option Int}{cd:Lower.Code} (hT:∀k,T k=(cd[k]?).map Prod.snd) {v:Int}:∀(l:List Int) (out:List Int) (todo:List Nat),rI T cd out todo→(∀y∈l,∃(k:Nat) (dp:Int),y=(k:Int)∧T k=some dp∧0≤dp∧dp≤v+1)→v+left out≤cd.length→
  rI T cd (visit cd l (out,todo)).1 (visit cd l (out,todo)).2∧left (visit cd l (out,todo)).1+(visit cd l (out,todo)).2.length=left out+todo.length∧(∀(i:Nat) (u:Int),out[i]? = some u→0≤u→(visit cd l (out,todo)).1[i]? = some u)∧(∀y∈l,∃u,(visit cd l (out,todo)).1[y.toNat]? = some u∧0≤u)∧(∀k∈todo,k∈(visit cd l (out,todo)).2)
 |[],out,todo,h,_,_=>⟨h,rfl,fun _ _ q _=>q,fun _ q=>(by cases q),fun _ q=>q⟩
 |y::l,out,todo,h,hl,hv=>by
   obtain⟨k,dp,rfl,hk,h0,h1⟩:=hl y a7
   have hkl:k<out.length:=by
    rw[h.inv.1]
    rw[hT] at hk
    rcases P9 k cd.length with q|q
    ·exact q
    ·rw[B9 q] at hk;cases hk
   obtain⟨u,hu⟩:∃u,out[k]? = some u:=⟨_,w9 hkl⟩
   have hl':∀y∈l,∃(k:Nat) (dp:Int),y=(k:Int)∧T k=some dp∧0≤dp∧dp≤v+1:=fun y hy=>hl y (by simp[hy])
   by_cases hn:u<0
   ·obtain⟨m1,m2,m3⟩:=h.find hk h0 hu hn h1 hv
    rw[rF (u:=u) (d:=dp) Zj hn (by rw[A6,←hT];exact hk),A6]
    obtain⟨q1,q2,q3,q4,q5⟩:=pk hT l (out.set k dp) (todo++[k]) m1 hl' m3
    have keep:∀(i:Nat) (u':Int),out[i]? = some u'→0≤u'→(out.set k dp)[i]? = some u':=fun i u' hi hu'=>by
     have:k≠i:=fun e=>by subst e;rw[hi] at hu;cases hu;omega
     rw[D2,if_neg this];exact hi
    refine⟨q1,q2.trans m2,fun i u' hi hu'=>q3 i u' (keep i u' hi hu') hu',fun y hy=>?_,fun j hj=>q5 j (by simp[hj])⟩
    rcases x9.1 hy with rfl|hy
    ·exact⟨dp,q3 _ dp (by rw[A6,D2,if_pos rfl,if_pos hkl]) h0,h0⟩
    ·exact q4 y hy
   ·rw[rG (u:=u) Zj hn]
    obtain⟨q1,q2,q3,q4,q5⟩:=pk hT l out todo h hl' hv
    refine⟨q1,q2,q3,fun y hy=>?_,q5⟩
    rcases x9.1 hy with rfl|hy
    ·exact⟨u,by rw[A6];exact q3 k u hu a6,a6⟩
    ·exact q4 y hy
theorem vo {α:Type} (l:List α):l=[]∨∃l' a,l=l'++[a]:=by
 exact XH
theorem rJ {ps:Sig}{word:Bool}{T:Nat→Option Int}{cd:Lower.Code} (hT:∀k,T k=(cd[k]?).map Prod.snd) (hg:Lower.Good ps word T 0 cd):∀(m:Nat) (out:List Int) (todo:List Nat),m=left out+todo.length→rI T cd out todo→
  rI T cd (search cd m (out,todo)) []∧∀(i:Nat) (u:Int),out[i]? = some u→0≤u→(search cd m (out,todo))[i]? = some u
 |0,out,todo,hm,h=>by
   obtain rfl:todo=[]:=y8 a6
   exact⟨h,fun _ _ q _=>q⟩
 |m+1,out,todo,hm,h=>by
   rcases vo todo with rfl|⟨todo,a,rfl⟩
   ·rw[yD];exact⟨h,fun _ _ q _=>q⟩
   ·obtain⟨v,hv,hTa,hv0⟩:=h.inv.2.2 a a7
    have hTa':=hTa
    rw[hT] at hTa'
    obtain⟨⟨x,v'⟩,hx,hxv⟩:=I5.1 hTa'
    obtain rfl:v'=v:=hxv
    obtain⟨t,p,htk,ht0,htv,hret,hnx⟩:=(by have:=gL hg hx;rwa [C5] at this:OkI ps word T a x v')
    have hp:=DE htk
    rw[wt cd m out todo a hx]
    have hnl:∀y∈next x a,∃(k:Nat) (dp:Int),y=(k:Int)∧T k=some dp∧0≤dp∧dp≤v'+1:=fun y hy=>by
     obtain⟨k,h1,h2⟩:=hnx y hy
     exact⟨k,_,h1,h2,a6,a6⟩
    have hvn:=h.le v' (l6 hv)
    -- a is taken off,so that its places behind are owed: visit with a put back in mind
    have h2:rI T cd out (todo++[a]):=h
    obtain⟨q1,q2,q3,q4,q5⟩:=pk hT (next x a) out (todo++[a]) h hnl hvn
    have hsplit:∀(l:List Int) (out:List Int) (t0 t1:List Nat),(visit cd l (out,t0++t1)).1=(visit cd l (out,t1)).1∧(visit cd l (out,t0++t1)).2=t0++(visit cd l (out,t1)).2:=by
     intro l
     induction l with
     |nil=>intro out t0 t1;exact⟨rfl,rfl⟩
     |cons y l ih=>
       intro out t0 t1
       simp only[visit]
       split
       ·rw[r0];exact ih _ _ _
       ·exact ih _ _ _
    have hst:=hsplit (next x a) out todo []
    have hst2:=hsplit (next x a) out (todo++[a]) []
    rw[l8] at hst hst2
    rw[hst2.1,hst2.2] at q1 q2
    rw[hst2.1] at q3 q4
    rw[show visit cd (next (x,v').fst a) (out,todo)=((visit cd (next x a) (out,[])).1,todo++(visit cd (next x a) (out,[])).2) from Prod.ext hst.1 hst.2]
    have hmid:rI T cd (visit cd (next x a) (out,[])).1 (todo++(visit cd (next x a) (out,[])).2):=by
     refine⟨⟨q1.inv.1,q1.inv.2.1,fun b hb=>q1.inv.2.2 b (by rcases D1.1 hb with hb|hb <;> simp[hb])⟩,q1.le,fun k u hk hu=>?_⟩
     rcases q1.clo k u hk hu with hc|hc
     ·simp only[r0,D1,x9,A1,E7,H6] at hc
      rcases hc with hc|rfl|hc
      ·exact .inl (by simp[hc])
      ·refine .inr fun x' d hx' y hy=>?_
       rw[hx] at hx'
       cases hx'
       exact q4 y hy
      ·exact .inl (by simp[hc])
     ·exact .inr hc
    obtain⟨r1,r2⟩:=rJ hT hg m _ _ (by simp only[j4,j6,j7] at hm q2 ⊢;omega) hmid
    exact⟨r1,fun i u hi hu=>r2 i u (q3 i u hi hu) hu⟩
theorem vp{T:Nat→Option Int}{cd:Lower.Code} (hT:∀k,T k=(cd[k]?).map Prod.snd) (h0:T 0=some 0) (hg:Lower.Good ps word T 0 cd):rI T cd (kv cd) []∧(kv cd)[0]? = some 0:=by
 have hn:0<cd.length:=by
  cases hq:cd with
  |nil=>rw[hT] at h0;simp[hq] at h0
  |cons=>simp
 obtain⟨m,hm⟩:∃m,cd.length=m+1:=⟨cd.length-1,a6⟩
 have hl:left ((List.replicate cd.length (-1)).set 0 0)+[0].length=cd.length:=by
  rw[hm,D4,G2]
  unfold left
  rw[UO,UX]
  simp
 have hmid:rI T cd ((List.replicate cd.length (-1)).set 0 0) [0]:=by
  have hle:left ((List.replicate cd.length (-1)).set 0 0)≤cd.length:=a6
  refine⟨⟨a7,fun k v h=>?_,fun a ha=>?_⟩,fun v hv=>?_,fun k v h hv=>?_⟩
  ·rw[hm,D4,G2] at h
   cases k with
   |zero=>simp at h;subst h;exact .inr ⟨h0,G6 _⟩
   |succ k=>rw[l9,P6] at h;split at h <;> simp at h;exact .inl h.symm
  ·obtain rfl:a=0:=by simpa using ha
   exact⟨0,by rw[hm,D4,G2];rfl,h0,G6 _⟩
  ·have:v≤0:=by
    rw[hm,D4,G2] at hv
    rcases x9.1 hv with rfl|h
    ·exact G6 _
    ·have:=H7 h;omega
   omega
  ·rw[hm,D4,G2] at h
   cases k with
   |zero=>exact .inl a7
   |succ k=>rw[l9,P6] at h;split at h <;> simp at h;omega
 obtain⟨r1,r2⟩:=rJ hT hg cd.length _ _ hl.symm hmid
 exact⟨r1,r2 0 0 (by rw[hm,D4,G2];rfl) (G6 _)⟩
end
end
end Go.Emit
namespace Go.Proofs.YtgiigidgdhplfaaGreatDoor.Low
section
attribute [local congr] Go.Am.ite_cc
open Go Go.Am Go.Lower
def EP (outs:List (List Int)) (back base:List Int) (data:Int):AV:=.agg [.d (.sl (outs.map fun o=>[ksD o])),.d (ksD back),.d (ksD base),.d (.int .i64 data)]
def ocells (l:List (List Int)):List C:=l.map fun o=>.d (ksD o)
theorem yU (l:List (List Int)):(ocells l).length=l.length:=by simp[ocells]
theorem rW (a b:List (List Int)):ocells (a++b)=ocells a++ocells b:=by simp[ocells]
theorem Mm {w:Int}{fs:List Src.CFn} (ds:List (List Int)) (hds:ds.length=fs.length) (hw0:0≤w∧w≤1000000) (hl:fs.length≤1000000) (hdv:∀o∈ds,(∀v∈o,v≤100000000)∧o.length≤1000000000)
  (hD:∀f o,ds[f]? = some o→aG Tryz.prog 98 [gy w fs,iv .i64 (f:Nat)] (· = .tup [.one (.d (ksD o)),bv true])) :
  aG Tryz.prog 69 [gy w fs] (· = EP ds (Emit.gu fs.length 0 ds w).1 (Emit.gu fs.length 0 ds w).2.1 (Emit.gu fs.length 0 ds w).2.2):=by
 refine hdR Tryz.func69 rfl [.cell 2 147] fun g=>?_
 have hsC:gy w fs=.agg [.d (.int .i64 w),.d (.sl (fs.map sfD))]:=rfl
 rw[hsC] at hD ⊢
 have hwl:IntKind.i64.wrap ((fs.length:Int)-1)=(fs.length:Int)-1:=by rw[wrap_i64] <;> omega
 simp only[go_sem,j5,hwl]
 refine vW _ (((cA (t:=3) (o:=3) (b:=34) (j:=0) (sz:=1) (off:=0) (cells:=[.d .nsl,.d .nsl,.d .nsl,.d (.int .i64 w)]) XP XP rfl a8).trans
   (cA (t:=3) (o:=3) (b:=41) (j:=1) (sz:=1) (off:=0) (cells:=[.osl 34 (g 34+1) 1 0 0,.d .nsl,.d .nsl,.d (.int .i64 w)]) Yh Yh rfl a8)).trans
   (cA (t:=3) (o:=3) (b:=55) (j:=2) (sz:=1) (off:=0) (cells:=[.osl 34 (g 34+1) 1 0 0,.osl 41 (g 41+1) 1 0 0,.d .nsl,.d (.int .i64 w)]) Yh Yh rfl a8))
  (fun n s=>∃(k:Nat) (outs:List (List Int)) (back base:List Int) (data:Int),n+k=fs.length∧outs.length=k∧back.length=k∧base.length=k∧(outs=ds.take k∧Emit.gu fs.length 0 outs w=(back,base,data))∧0≤data∧data≤1000000+100000001*k∧s.f 1=.one (.ptr 1 (s.gen 1) 0)∧s.f 2=.one (.ptr 2 (s.gen 2) 0)∧s.f 3=.one (.ptr 3 (s.gen 3) 0)∧s.f 20=iv .i64 fs.length∧s.f 21=iv .i64 k∧s.f 4=iv .i64 ((fs.length:Int)-1)∧
    s.obj 1=some [.d (.int .i64 w),.d (.sl (fs.map sfD))]∧(∃a b c d,s.obj 2=some [a,b,c,d])∧s.obj 3=some [.osl 34 (s.gen 34) 1 0 k,.osl 41 (s.gen 41) 1 0 k,.osl 55 (s.gen 55) 1 0 k,.d (.int .i64 data)]∧s.obj 34=some (ocells outs)∧s.obj 41=some (icells back)∧s.obj 55=some (icells base)) fs.length ?_ ?_
 ·simp only[St.claimAt]
  refine⟨0,[],[],[],w,rfl,rfl,rfl,rfl,⟨rfl,rfl⟩,hw0.1,a6,?_⟩
  simp only[go_sem,hwl]
  exact⟨⟨_,_,_,_,rfl,rfl,rfl,rfl⟩,rfl,rfl⟩
 clear g
 rintro n g gn ob ⟨k,outs,back,base,data,hk,lo,lb,lba,⟨hO,hP⟩,hd0,hd1,f1,f2,f3,f20,f21,f4,o1,⟨a0,b0,c0,d0,o2⟩,o3,o34,o41,o55⟩
 simp only at f1 f2 f3 f20 f21 f4 o1 o2 o3 o34 o41 o55
 have hwk:=ah (k:=k) a6
 by_cases hlt:k<fs.length
 case neg=>
  have hki:¬(k:Int)<(fs.length:Int):=a6
  obtain rfl:k=fs.length:=a6
  simp only[go_sem,f1,f2,f3,f20,f21,hki,o2,o3]
  have hfm:∀{α:Type} (l:List α) (e:α→D),(l.map fun a=>C.d (e a))=l.flatMap fun a=>([e a]:List D).map C.d:=by
   intro α l e
   induction l with
   |nil=>rfl
   |cons b l ih=>rw[l7,B4,ih];rfl
  have r1:∀{s:St},s.gen 34=gn 34→s.obj 34=ob 34→Frz s (.osl 34 (gn 34) 1 0 fs.length) (.sl (outs.map fun o=>[ksD o])):=fun {s} hg ho=>by
   refine cL (s:=s) hg outs (fun o=>[ksD o]) (ho.trans o34) (hfm outs ksD) (fun a _ y hy=>?_) (fun _ _=>rfl) lo
   rw[C7.1 hy];rfl
  have r2:∀{s:St},s.gen 41=gn 41→s.obj 41=ob 41→Frz s (.osl 41 (gn 41) 1 0 fs.length) (ksD back):=fun {s} hg ho=>by
   refine cL (s:=s) hg back (fun o=>[.int .i64 o]) (ho.trans o41) (hfm back _) (fun a _ y hy=>?_) (fun _ _=>rfl) lb
   rw[C7.1 hy];rfl
  have r3:∀{s:St},s.gen 55=gn 55→s.obj 55=ob 55→Frz s (.osl 55 (gn 55) 1 0 fs.length) (ksD base):=fun {s} hg ho=>by
   refine cL (s:=s) hg base (fun o=>[.int .i64 o]) (ho.trans o55) (hfm base _) (fun a _ y hy=>?_) (fun _ _=>rfl) lba
   rw[C7.1 hy];rfl
  refine⟨_,⟨[.sl (outs.map fun o=>[ksD o]),ksD back,ksD base,.int .i64 data],rfl,fun i c hc=>?_,rfl⟩,?_⟩
  rotate_left
  ·rw[l5 a6] at hO
   subst hO
   rw[hP]
   rfl
  match i,hc with
  |0,hc=>cases hc;exact⟨_,rfl,r1 rfl XR⟩
  |1,hc=>cases hc;exact⟨_,rfl,r2 rfl XR⟩
  |2,hc=>cases hc;exact⟨_,rfl,r3 rfl XR⟩
  |3,hc=>cases hc;exact⟨_,rfl,.d _⟩
 have hki:(k:Int)<(fs.length:Int):=a6
 have hk0:(0:Int)≤(k:Int):=a6
 have hol:=yU outs
 have hbl:=bN back
 have hsl:=bN base
 simp only[go_sem,f1,f2,f3,f20,f21,f4,hki,o1]
 obtain⟨out,hout⟩:=getq (show k<ds.length by omega)
 obtain⟨hov,hoz⟩:=hdv out (l6 hout)
 have hO2:outs++[out]=ds.take (k+1):=by rw[hO,A2,hout];rfl
 have hgo:=Emit.wu fs.length outs 0 w out
 rw[hP] at hgo
 simp only[lo,C5] at hgo
 refine dX rfl (hD k out hout) c9 ?_
 rintro _ rfl
 simp only[go_sem,f1,f3,o3,o34,hol,lo,aC,o41,hbl,lb,f4]
 refine⟨l0 _,⟨a8,a6⟩,l0 _,⟨a8,a6⟩,?_⟩
 have hwd:IntKind.i64.wrap (data+1)=data+1:=by rw[wrap_i64] <;> omega
 by_cases hkl:(k:Int)=(fs.length:Int)-1
 ·skip
  simp only[go_sem,s5 hkl,o55,hsl,lba,f3,ksD,j5]
  refine⟨l0 _,⟨a8,a6⟩,?_⟩
  refine dn (fun m s=>∃(j:Nat) (dp:Int),m+j=out.length∧Emit.deepest (out.drop j) dp=Emit.deepest out 0∧0≤dp∧dp≤100000000∧s.f 1=.one (.ptr 1 (s.gen 1) 0)∧s.f 2=.one (.ptr 2 (s.gen 2) 0)∧s.f 3=.one (.ptr 3 (s.gen 3) 0)∧s.f 20=iv .i64 fs.length∧s.f 21=iv .i64 k∧s.f 4=iv .i64 ((fs.length:Int)-1)∧s.f 57=.one (.d (.sl (out.map fun k=>[.int .i64 k])))∧s.f 58=iv .i64 out.length∧s.f 59=iv .i64 j∧s.f 8=iv .i64 dp∧
   s.obj 1=some [.d (.int .i64 w),.d (.sl (fs.map sfD))]∧s.obj 2=some [a0,b0,c0,d0]∧s.obj 3=some [.osl 34 (s.gen 34) 1 0 (k+1),.osl 41 (s.gen 41) 1 0 (k+1),.osl 55 (s.gen 55) 1 0 (k+1),.d (.int .i64 (data))]∧s.obj 34=some (ocells (outs++[out]))∧s.obj 41=some (icells (back++[data]))∧s.obj 55=some (icells (base++[data]))) out.length ?_ ?_
  ·exact Ww
  clear f1 f2 f3 f20 f21 f4 o1 o2 o3 o34 o41 o55
  rintro m g gn ob ⟨j,dp,hj,hdp,hp0,hp1,f1,f2,f3,f20,f21,f4,f57,f58,f59,f8,o1,o2,o3,o34,o41,o55⟩
  simp only at f1 f2 f3 f20 f21 f4 f57 f58 f59 f8 o1 o2 o3 o34 o41 o55
  have hwj:=ah (k:=j) a6
  by_cases hlj:j<out.length
  ·exact VJ
  have hji:¬(j:Int)<(out.length:Int):=a6
  have hwp:IntKind.i64.wrap (data+dp)=data+dp:=by rw[wrap_i64] <;> omega
  simp only[go_sem,f57,f58,f59,f8,hji,f3,o3,hwp,f21,hwk,j5]
  refine cU (n-1) a6 ⟨k+1,outs++[out],back++[data],base++[data],data+dp,a6,by simp;omega,by simp;omega,by simp;omega,⟨hO2,hgo.trans ?_⟩,a6,a6,?_⟩
  ·rw[if_pos (show k+1=fs.length by omega)]
   rw[D8 a6] at hdp
   rw[←hdp];rfl
  exact XC
 ·skip
  simp only[go_sem,hkl,hwd,o55,hsl,lba,f3,ksD,j5]
  refine⟨l0 _,⟨a8,a6⟩,?_⟩
  refine dn (fun m s=>∃(j:Nat) (dp:Int),m+j=out.length∧Emit.deepest (out.drop j) dp=Emit.deepest out 0∧0≤dp∧dp≤100000000∧s.f 1=.one (.ptr 1 (s.gen 1) 0)∧s.f 2=.one (.ptr 2 (s.gen 2) 0)∧s.f 3=.one (.ptr 3 (s.gen 3) 0)∧s.f 20=iv .i64 fs.length∧s.f 21=iv .i64 k∧s.f 4=iv .i64 ((fs.length:Int)-1)∧s.f 57=.one (.d (.sl (out.map fun k=>[.int .i64 k])))∧s.f 58=iv .i64 out.length∧s.f 59=iv .i64 j∧s.f 8=iv .i64 dp∧
   s.obj 1=some [.d (.int .i64 w),.d (.sl (fs.map sfD))]∧s.obj 2=some [a0,b0,c0,d0]∧s.obj 3=some [.osl 34 (s.gen 34) 1 0 (k+1),.osl 41 (s.gen 41) 1 0 (k+1),.osl 55 (s.gen 55) 1 0 (k+1),.d (.int .i64 ((data+1)))]∧s.obj 34=some (ocells (outs++[out]))∧s.obj 41=some (icells (back++[data]))∧s.obj 55=some (icells (base++[(data+1)]))) out.length ?_ ?_
  ·exact Ww
  clear f1 f2 f3 f20 f21 f4 o1 o2 o3 o34 o41 o55
  rintro m g gn ob ⟨j,dp,hj,hdp,hp0,hp1,f1,f2,f3,f20,f21,f4,f57,f58,f59,f8,o1,o2,o3,o34,o41,o55⟩
  simp only at f1 f2 f3 f20 f21 f4 f57 f58 f59 f8 o1 o2 o3 o34 o41 o55
  have hwj:=ah (k:=j) a6
  by_cases hlj:j<out.length
  ·exact VJ
  have hji:¬(j:Int)<(out.length:Int):=a6
  have hwp:IntKind.i64.wrap ((data+1)+dp)=(data+1)+dp:=by rw[wrap_i64] <;> omega
  simp only[go_sem,f57,f58,f59,f8,hji,f3,o3,hwp,f21,hwk,j5]
  refine cU (n-1) a6 ⟨k+1,outs++[out],back++[data],base++[(data+1)],(data+1)+dp,a6,by simp;omega,by simp;omega,by simp;omega,⟨hO2,hgo.trans ?_⟩,a6,a6,?_⟩
  ·rw[if_neg (show ¬k+1=fs.length by omega)]
   rw[D8 a6] at hdp
   rw[←hdp];rfl
  exact XC
abbrev fY:=Int×Int×Int×Int
def wZ (x:fY):List C:=[.d (.int .i64 x.1),.d (.int .i64 x.2.1),.d (.int .i64 x.2.2.1),.d (.int .i64 x.2.2.2)]
def dZ (l:List fY):List C:=l.flatMap wZ
theorem fS (l:List fY):(dZ l).length=l.length*4:=by
 induction l with
 |nil=>rfl
 |cons a l ih=>simp only[dZ,B4,j4,wZ,j6,j7] at ih ⊢;omega
theorem BV (l m:List fY):dZ (l++m)=dZ l++dZ m:=by simp[dZ]
theorem ug {B:Nat} (l:List fY):∀c∈dZ l,lI B c:=fun c hc=>by
 unfold dZ at hc
 obtain⟨x,_,hx⟩:=List.mem_flatMap.1 hc
 simp only[wZ,x9,A1,E7] at hx
 rcases hx with rfl|rfl|rfl|rfl <;> trivial
theorem Rs {B G D gG:Nat}{code:List fY}{c0 c1 c2 c3 c4 c5 d0 d1 d2 d3 d4:C}{op a b c:Int}{g:Nat→Nat}{ob:Obs} (hB:∀i,B≤i→ob i=none) (hG:G<B) (hD:D<B) (hGD:G≠D) (hgG:g G=gG) (ho:ob G=some [c0,c1,c2,c3,c4,c5,.osl D (g D) 4 0 code.length,d0,d1,d2,d3,d4]) (hc:ob D=some (dZ code)) (hlow:∀x∈[c0,c1,c2,c3,c4,c5,d0,d1,d2,d3,d4],lI B x) (hl:code.length≤100000000) :
  cB Tryz.prog 100 [.one (.ptr G gG 0),iv .i64 op,iv .i64 a,iv .i64 b,iv .i64 c] g ob (fun _ g' ob'=>(∀i,i≠D→g' i=g i)∧ob' G=some [c0,c1,c2,c3,c4,c5,.osl D (g' D) 4 0 (code.length+1),d0,d1,d2,d3,d4]∧ob' D=some (dZ (code++[(op,a,b,c)]))∧∀i,i≠G→i≠D→ob' i=ob i) (fun _ _ _=>False):=by
 refine hdM B [G,D] Tryz.func100 rfl [] XQ hB fun b₀ β0 s0 w0=>?_
 have n1:∀k,(G=B+k)=False:=fun k=>by simp;omega
 have n2:∀k,(D=B+k)=False:=fun k=>by simp;omega
 have n3:(G=D)=False:=by simp[hGD]
 have n4:(D=G)=False:=by simp[z7 hGD]
 simp only[go_sem,n1,n2,n3,n4,ho,hc,hgG,fS,aC]
 refine⟨l0 _,⟨a8,a6⟩,?_⟩
 refine⟨_,ab.refl _,?_⟩
 simp only[go_sem]
 have e1:List.take (code.length*4) (dZ code)++[C.d (.int .i64 op),C.d (.int .i64 a),C.d (.int .i64 b),C.d (.int .i64 c)]=dZ (code++[(op,a,b,c)]):=by
  rw[l5 (by rw[fS];exact l0 _),BV]
  simp[dZ,wZ]
 rw[e1]
 refine⟨⟨fun i hi hn=>?_,fun i hi cells hcl=>?_⟩,[],rfl,fun i hi=>?_,?_,?_,fun i hi hi2=>?_⟩
 ·have h1:i≠G:=fun e=>hn YK
  have h2:i≠D:=fun e=>hn YK
  exact⟨nu,nu⟩
 ·simp only[x9,A1,E7] at hi
  rcases hi with rfl|rfl
  ·simp[upd] at hcl
   subst hcl
   intro x hx
   simp only[x9,A1,E7] at hx hlow
   rcases hx with h|h|h|h|h|h|h|h|h|h|h|h
   all_goals first|(subst h;exact hD)|exact hlow x (by simp[h])
  ·simp[upd,n4] at hcl
   subst hcl
   exact ug _
 ·exact WQ
 ·simp[iO,eL,upd]
 ·simp[eL,upd,n4]
 ·unfold eL
  rw[if_neg (by simp[hi,hi2])]
end
section
open Go Go.Am Go.Lower
open Go.Emit (Wr)
section
theorem AG {B B':Nat} (hB:B≤B') {c:C} (h:lI B c):lI B' c:=by
 cases c with
 |d x=>trivial
 |osl id _ _ _ _=>exact E5 h hB
 |ptr id _ _=>exact E5 h hB
 |mp id _ _=>exact E5 h hB
 |lsl _=>trivial
 |raw _=>trivial
 |clo f caps=>
   intro p hp
   have:=h p hp
   cases p with
   |d x=>trivial
   |ptr id _ _=>exact E5 this hB
abbrev je:=Int×Int×Int
def lJ (l:List je):List C:=l.flatMap fun x=>[.d (.int .i64 x.1),.d (.int .i64 x.2.1),.d (.int .i64 x.2.2)]
theorem xa (l:List je):(lJ l).length=l.length*3:=by
 induction l with
 |nil=>rfl
 |cons a l ih=>simp only[lJ,B4,j4,j6,j7] at ih ⊢;omega
theorem EQ (l m:List je):lJ (l++m)=lJ l++lJ m:=by simp[lJ]
theorem ER {B:Nat} (l:List je):∀c∈lJ l,lI B c:=fun c hc=>by
 unfold lJ at hc
 obtain⟨x,_,hx⟩:=List.mem_flatMap.1 hc
 simp only[x9,A1,E7] at hx
 rcases hx with rfl|rfl|rfl <;> trivial
structure aU where
 (c0 c1 c2 c3 c4 c5 d0 d1 d3 d4:C)
def aU.cells (k:aU) (D gD n H gH m:Nat):List C:=[k.c0,k.c1,k.c2,k.c3,k.c4,k.c5,.osl D gD 4 0 n,k.d0,k.d1,.osl H gH 3 0 m,k.d3,k.d4]
def aU.all (k:aU):List C:=[k.c0,k.c1,k.c2,k.c3,k.c4,k.c5,k.d0,k.d1,k.d3,k.d4]
structure dD (B G D H:Nat) (k:aU) (code:List fY) (holes:List je) (g:Nat→Nat) (ob:Obs):Prop where
 top:∀i,B≤i→ob i=none
 gB:G<B
 dB:D<B
 hB:H<B
 gd:G≠D
 gh:G≠H
 dh:D≠H
 oG:ob G=some (k.cells D (g D) code.length H (g H) holes.length)
 oD:ob D=some (dZ code)
 oH:ob H=some (lJ holes)
 low:∀x∈k.all,lI B x
variable {k:aU}{g:Nat→Nat}{ob:Obs}{B B' G D H:Nat}{code:List fY}{holes:List je}
theorem dD.up (S:dD B G D H k code holes g ob) (h:B≤B'):dD B' G D H k code holes g ob:=
 ⟨fun i hi=>S.top i a6,by have:=S.gB;omega,by have:=S.dB;omega,by have:=S.hB;omega,S.gd,S.gh,S.dh,S.oG,S.oD,S.oH,fun x hx=>AG h (S.low x hx)⟩
theorem dD.upd {B G D H i:Nat}{k:aU}{code:List fY}{holes:List je}{g:Nat→Nat}{ob:Obs} (S:dD B G D H k code holes g ob) (h:i<B) (n1:i≠G) (n2:i≠D) (n3:i≠H) (x:Nat) (y:Option (List C)):dD B G D H k code holes (Am.upd g i x) (Am.upd ob i y):=
 ⟨fun j hj=>by simp only[Am.upd];rw[if_neg a6];exact S.top j hj,S.gB,S.dB,S.hB,S.gd,S.gh,S.dh,by simp only[Am.upd];rw[if_neg (z7 n1),if_neg (z7 n2),if_neg (z7 n3)];exact S.oG,by simp only[Am.upd];rw[if_neg (z7 n2)];exact S.oD,by simp only[Am.upd];rw[if_neg (z7 n3)];exact S.oH,S.low⟩
theorem dD.to {B G D H:Nat}{g g':Nat→Nat}{ob ob':Obs} (S:dD B G D H k code holes g ob) (ht:∀i,B≤i→ob' i=none) (h1:g' D=g D) (h2:g' H=g H) (h3:ob' G=ob G) (h4:ob' D=ob D) (h5:ob' H=ob H):dD B G D H k code holes g' ob':=
 ⟨ht,S.gB,S.dB,S.hB,S.gd,S.gh,S.dh,by rw[h1,h2,h3];exact S.oG,by rw[h4];exact S.oD,by rw[h5];exact S.oH,S.low⟩
structure bV (B G D H:Nat) (g:Nat→Nat) (ob:Obs) (g':Nat→Nat) (ob':Obs):Prop where
 gen:∀i,i<B→i≠D→i≠H→g' i=g i
 fr:∀i,i<B→i≠G→i≠D→i≠H→ob' i=ob i
theorem bV.refl {B G D H:Nat}:bV B G D H g ob g ob:=⟨fun _ _ _ _=>rfl,fun _ _ _ _ _=>rfl⟩
theorem bV.trans {B G D H:Nat}{g g1 g2:Nat→Nat}{ob ob1 ob2:Obs} (a:bV B G D H g ob g1 ob1) (b:bV B G D H g1 ob1 g2 ob2):bV B G D H g ob g2 ob2:=
 ⟨fun i h x y=>(b.gen i h x y).trans (a.gen i h x y),fun i h x y z=>(b.fr i h x y z).trans (a.fr i h x y z)⟩
theorem bV.down{g g1:Nat→Nat}{ob ob1:Obs} (a:bV B' G D H g ob g1 ob1) (h:B≤B'):bV B G D H g ob g1 ob1:=⟨fun i q=>a.gen i a6,fun i q=>a.fr i a6⟩
def bZ (f:FuncId) (xs:List AV) (w:Nat→Wr) (k:aU):Prop:=
 ∀(B G D H gG:Nat) (code:List fY) (holes:List je) (g:Nat→Nat) (ob:Obs),dD B G D H k code holes g ob→g G=gG→code.length+(w code.length).code.length≤100000000→holes.length+(w code.length).holes.length≤100000000→
  cB Tryz.prog f (.one (.ptr G gG 0)::xs) g ob (fun _ g' ob'=>dD B G D H k (code++(w code.length).code) (holes++(w code.length).holes) g' ob'∧bV B G D H g ob g' ob') (fun _ _ _=>False)
theorem dD.pack {B Bc G D H:Nat}{code code':List fY}{holes holes':List je}{s:St}{avs rs':List AV} (S:dD B G D H k code holes g ob) (S':dD Bc G D H k code' holes' s.gen s.obj) (hk:bV B G D H g ob s.gen s.obj) {ec:List fY}{eh:List je} (hec:ec=code') (heh:eh=holes') (hf:eE B s avs rs'):aT B [G,D,H] g ob (fun _ g' ob'=>dD B G D H k ec eh g' ob'∧bV B G D H g ob g' ob') s avs:=by
 subst hec heh
 have mS:∀{i},i∈[G,D,H]↔i=G∨i=D∨i=H:=fun {i}=>by simp
 refine⟨⟨fun i hi hn=>?_,fun i hi cells hcl=>?_⟩,rs',hf,⟨fun i hi=>?_,S.gB,S.dB,S.hB,S.gd,S.gh,S.dh,?_,?_,?_,S.low⟩,fun i hi hi2 hi3=>?_,fun i hi hi1 hi2 hi3=>?_⟩
 ·have e1:i≠G:=fun e=>hn YK
  have e2:i≠D:=fun e=>hn YK
  have e3:i≠H:=fun e=>hn YK
  exact⟨hk.gen i hi e2 e3,hk.fr i hi e1 e2 e3⟩
 ·rcases mS.1 hi with rfl|rfl|rfl
  ·have hcl:=S'.oG.symm.trans hcl
   cases hcl
   intro x hx
   have hall:=S.low
   simp only[aU.cells,aU.all,x9,A1,E7] at hx hall
   rcases hx with e|e|e|e|e|e|e|e|e|e|e|e
   all_goals first|(subst e;first|exact S.dB|exact S.hB)|exact hall x (by simp[e])
  ·have hcl:=S'.oD.symm.trans hcl
   cases hcl
   exact ug _
  ·have hcl:=S'.oH.symm.trans hcl
   cases hcl
   exact ER _
 ·unfold eL
  have:=S.gB;have:=S.dB;have:=S.hB
  rw[if_neg (fun e=>by rcases mS.1 e with e|e|e <;> omega)]
  exact S.top i hi
 ·simp only[eL,iO,x9,A1,E7,true_or,or_true,A5]
  exact S'.oG
 ·simp only[eL,x9,A1,E7,true_or,or_true,A5]
  exact S'.oD
 ·simp only[eL,x9,A1,E7,true_or,or_true,A5]
  exact S'.oH
 ·unfold iO
  split
  ·exact hk.gen i hi hi2 hi3
  ·rfl
 ·unfold eL
  rw[if_neg (fun e=>by rcases mS.1 e with e|e|e;exact hi1 e;exact hi2 e;exact hi3 e)]
theorem dE (op a b c:Int) (k:aU):bZ 100 [iv .i64 op,iv .i64 a,iv .i64 b,iv .i64 c] (Emit.aj op a b c) k:=by
 intro B G D H gG code holes g ob S hg hl hh
 have hGH:=S.gh
 have hDH:=S.dh
 refine(Rs (d2:=.osl H (g H) 3 0 holes.length) S.top S.gB S.dB S.gd hg S.oG S.oD ?_ (by simp only[Emit.aj,j6,j7] at hl;omega)).mono ?_ (fun _ _ _ h=>h)
 ·intro x hx
  have hall:=S.low
  simp only[aU.all,x9,A1,E7] at hx hall
  rcases hx with e|e|e|e|e|e|e|e|e|e|e
  all_goals first|(subst e;exact S.hB)|exact hall x (by simp[e])
 rintro _ g' ob' ⟨h1,h2,h3,h4⟩
 refine⟨⟨fun i hi=>?_,S.gB,S.dB,S.hB,S.gd,S.gh,S.dh,?_,h3,?_,S.low⟩,fun i _ hi _=>h1 i hi,fun i _ hi hi2 _=>h4 i hi hi2⟩
 ·have:=S.gB;have:=S.dB
  rw[h4 i a6 a6];exact S.top i hi
 ·rw[h2,h1 H (z7 hDH)]
  simp only[aU.cells,Emit.aj,j4,j6,j7,l8,C5]
 ·rw[h4 H (z7 hGH) (z7 hDH)]
  simp only[Emit.aj,l8]
  exact S.oH
section
variable {b₀:Bs}{rd:Option Nat}{Φ:St→Am.Loc→List Deferred→World→Prop}
theorem aM {Ψ:fj}{B0:Nat} (hΦ:aQ b₀ Φ) {o:Oper}{s:St}{K:St→Prop}{kb:Box K}{f:FuncId}{args:Array Operand}{tys:Array TypeId} (ho:o.op=.call ⟨.value (.func f),args,tys⟩) {xs:List AV}{w:Nat→Wr} (hw:bZ f xs w k) (Bc G D H gG:Nat) (code:List fY) (holes:List je)
  (hx:args.toList.map s.ev=.one (.ptr G gG 0)::xs) (hg:s.gen G=gG) (S:dD Bc G D H k code holes s.gen s.obj) (hl:code.length+(w code.length).code.length≤100000000) (hhl:holes.length+(w code.length).holes.length≤100000000)
  (hk:∀r g' ob',dD Bc G D H k (code++(w code.length).code) (holes++(w code.length).holes) g' ob'→bV Bc G D H s.gen s.obj g' ob'→K (St.put ⟨s.f,g',ob'⟩ o.dst r)):aR (spF Tryz.prog rd b₀ Φ B0 Ψ) o s kb:=by
 refine bq (R:=fun _ g' ob'=>dD Bc G D H k (code++(w code.length).code) (holes++(w code.length).holes) g' ob'∧bV Bc G D H s.gen s.obj g' ob') (Ψ0:=fun _ _ _=>False) hΦ ho Y6 (fun _ _ _ h=>h.elim) ?_
 rintro r g' ob' ⟨h1,h2⟩
 exact hk r g' ob' h1 h2
end
end
end
section
attribute [local congr] Go.Am.ite_cc
open Go Go.Am Go.Lower
open Go.Emit (Wr aj ao am pj eu)
section
structure lj (k:aU) (fs:List Src.CFn) (P:Emit.Plan) (f:Nat) (dp:Int):Prop where
 s:k.c1=.d (.sl (fs.map sfD))
 ds:k.c2=.d (.sl (P.depths.map fun o=>[ksD o]))
 bk:k.c3=.d (ksD P.back)
 b:k.c4=.d (ksD P.base)
 fn:k.d3=.d (.int .i64 (f:Nat))
 d:k.d4=.d (.int .i64 dp)
 fl:f<fs.length
 dl:P.depths.length=fs.length
 bl:P.back.length=fs.length
 l:P.base.length=fs.length
 fz:fs.length≤1000000
 bz:∀x∈P.base,0≤x∧x≤1000000000000000
 dz:-1≤dp∧dp≤1000000000
 pz:∀x∈fs,0≤x.params∧x.params≤1000000∧0≤x.first∧x.first≤1000000000000000
variable {k:aU}{fs:List Src.CFn}{P:Emit.Plan}{f:Nat}{dp:Int}
theorem jA (hP:lj k fs P f dp) (reg below:Int) (hb:0≤below∧below≤1000000):bZ 145 [iv .i64 reg,iv .i64 below] (Emit.jM P f dp reg below) k:=by
 intro B G D H gG code holes g ob S hg hl hh
 have hGB:=S.gB;have hDB:=S.dB;have hHB:=S.hB
 refine hdM B [G,D,H] Tryz.func145 rfl [] XQ S.top fun b₀ β0 s0 w0=>?_
 have ho':=S.oG
 unfold aU.cells at ho'
 rw[hP.b,hP.fn,hP.d] at ho'
 have hfl:=hP.fl
 have hbl:=hP.l
 obtain⟨bf,hbf⟩:=getq (show f<P.base.length by omega)
 have hbz:=hP.bz bf (l6 hbf)
 have hdz:=hP.dz
 have hf0:(0:Int)≤(f:Int):=a6
 have hf1:(f:Int)<(P.base.length:Int):=a6
 have hfl2:f<P.base.length:=a6
 have hw1:IntKind.i64.wrap (bf+dp)=bf+dp:=by rw[wrap_i64] <;> omega
 have hw2:IntKind.i64.wrap (bf+dp-below)=bf+dp-below:=by rw[wrap_i64] <;> omega
 simp only[go_sem]
 refine aJ b9 ?_
 simp only[go_sem,ho',hg,ksD,j5,hf0,hf1,hfl2,hbf,hw1,hw2]
 refine aM aa rfl (dE 16 reg 0 (bf+dp-below) k) (B+27) G D H gG code holes (by simp only[go_sem,hw1,hw2]) hg (S.up a6) hl hh ?_
 intro r g' ob' S1 K1
 simp only[go_sem]
 refine⟨_,ab.refl _,?_⟩
 simp only[go_sem]
 exact S.pack S1 (K1.down a6) (by simp only[Emit.jM,aj,hbf,y7]) rfl (rs':=[]) rfl
theorem ll (hP:lj k fs P f dp) (reg below:Int) (hb:0≤below∧below≤1000000):bZ 142 [iv .i64 reg,iv .i64 below] (Emit.kZ P f dp reg below) k:=by
 intro B G D H gG code holes g ob S hg hl hh
 have hGB:=S.gB;have hDB:=S.dB;have hHB:=S.hB
 refine hdM B [G,D,H] Tryz.func142 rfl [] XQ S.top fun b₀ β0 s0 w0=>?_
 have ho':=S.oG
 unfold aU.cells at ho'
 rw[hP.b,hP.fn,hP.d] at ho'
 have hfl:=hP.fl
 have hbl:=hP.l
 obtain⟨bf,hbf⟩:=getq (show f<P.base.length by omega)
 have hbz:=hP.bz bf (l6 hbf)
 have hdz:=hP.dz
 have hf0:(0:Int)≤(f:Int):=a6
 have hf1:(f:Int)<(P.base.length:Int):=a6
 have hfl2:f<P.base.length:=a6
 have hw1:IntKind.i64.wrap (bf+dp)=bf+dp:=by rw[wrap_i64] <;> omega
 have hw2:IntKind.i64.wrap (bf+dp-below)=bf+dp-below:=by rw[wrap_i64] <;> omega
 simp only[go_sem]
 refine aJ b9 ?_
 simp only[go_sem,ho',hg,ksD,j5,hf0,hf1,hfl2,hbf,hw1,hw2]
 refine aM aa rfl (dE 17 reg 0 (bf+dp-below) k) (B+27) G D H gG code holes (by simp only[go_sem,hw1,hw2]) hg (S.up a6) hl hh ?_
 intro r g' ob' S1 K1
 simp only[go_sem]
 refine⟨_,ab.refl _,?_⟩
 simp only[go_sem]
 exact S.pack S1 (K1.down a6) (by simp only[Emit.kZ,aj,hbf,y7]) rfl (rs':=[]) rfl
theorem KA {n:Int}:IntKind.u32.wrap ((BitVec.ofInt 32 n &&&BitVec.ofInt 32 65535).toNat:Int)=n%65536:=by
 rw[show (65535:Int)=((65535:Nat):Int) from rfl,UP,J1,J1,show (((65535:Nat):Int)%(2^32:Nat)).toNat=65535 by omega,show (n%(2^32:Nat)).toNat &&&65535=(n%(2^32:Nat)).toNat%65536 from J2 _ 16,IntKind.wrap_u32]
 omega
theorem Mn {n:Int}:n.fdiv ((2:Int)^min 16 32)=n/65536:=by
 rw[show (2:Int)^min 16 32=65536 from rfl,L3 _ a6]
theorem ES (reg n:Int):bZ 141 [iv .i64 reg,iv .u32 n] (Emit.vk reg n) k:=by
 intro B G D H gG code holes g ob S hg hl hh
 have hGB:=S.gB;have hDB:=S.dB;have hHB:=S.hB
 refine hdM B [G,D,H] Tryz.func141 rfl [] XQ S.top fun b₀ β0 s0 w0=>?_
 have hw1:IntKind.i64.wrap (n%65536)=n%65536:=by rw[wrap_i64] <;> omega
 have hw2:IntKind.i64.wrap (n/65536)=Emit.hi16 n:=by rw[IntKind.wrap_i64];unfold Emit.hi16;omega
 by_cases hn:65535<n
 ·have e0:Emit.vk reg n=am (aj 1 reg 0 (n%65536)) (aj 2 reg 0 (Emit.hi16 n)):=if_pos hn
  rw[e0] at hl hh ⊢
  simp only[am,aj,j4,j6,j7] at hl hh
  simp only[go_sem,hn]
  erw[KA]
  rw[hw1]
  refine aM aa rfl (dE 1 reg 0 (n%65536) k) (B+20) G D H gG code holes XP hg (S.up a6) Zf hh ?_
  intro r g1 ob1 S1 K1
  simp only[go_sem,hn]
  have hw3:(n.fdiv ((2:Int)^min 16 32))=n/65536:=Mn
  refine aM aa rfl (dE 2 reg 0 (Emit.hi16 n) k) (B+20) G D H gG _ _ (by simp only[go_sem,hw3,hw2]) ((K1.gen G a6 S.gd S.gh).trans hg) S1 Ym Yq ?_
  intro r g2 ob2 S2 K2
  simp only[go_sem]
  refine⟨_,ab.refl _,?_⟩
  simp only[go_sem]
  exact S.pack S2 ((K1.trans K2).down a6) Y4 Y4 (rs':=[]) rfl
 ·have e0:Emit.vk reg n=aj 1 reg 0 (n%65536):=if_neg hn
  rw[e0] at hl hh ⊢
  simp only[go_sem,hn]
  erw[KA]
  rw[hw1]
  refine aM aa rfl (dE 1 reg 0 (n%65536) k) (B+20) G D H gG code holes XP hg (S.up a6) hl hh ?_
  intro r g1 ob1 S1 K1
  simp only[go_sem,hn]
  exact Wp
theorem Iy (hP:lj k fs P f dp):bZ 156 [] (Emit.vl fs P f dp) k:=by
 intro B G D H gG code holes g ob S hg hl hh
 have hGB:=S.gB;have hDB:=S.dB;have hHB:=S.hB
 refine hdM B [G,D,H] Tryz.func156 rfl [] XQ S.top fun b₀ β0 s0 w0=>?_
 have ho':=S.oG
 unfold aU.cells at ho'
 rw[hP.b,hP.fn,hP.d,hP.s,hP.bk] at ho'
 have hfl:=hP.fl
 have hfz:=hP.fz
 have hbl:=hP.bl
 have hw:IntKind.i64.wrap ((fs.length:Int)-1)=(fs.length:Int)-1:=by rw[wrap_i64] <;> omega
 obtain⟨bf,hbf⟩:=getq (show f<P.back.length by omega)
 obtain⟨fx,hfx⟩:=getq hfl
 have hf0:(0:Int)≤(f:Int):=a6
 have hf1:(f:Int)<(fs.length:Int):=a6
 have hf2:(f:Int)<(P.back.length:Int):=a6
 have hf3:f<P.back.length:=a6
 simp only[go_sem]
 refine aJ b9 ?_
 by_cases hl2:(f:Int)=(fs.length:Int)-1
 ·have e0:Emit.vl fs P f dp=aj 26 0 0 0:=if_pos a6
  rw[e0] at hl hh ⊢
  simp only[go_sem,ho',hg,j5,hw,s5 hl2]
  refine aM aa rfl (dE 26 0 0 0 k) (B+45) G D H gG code holes XP hg (S.up a6) hl hh ?_
  intro r g1 ob1 S1 K1
  simp only[go_sem]
  exact Wp
 ·simp only[go_sem,ho',hg,j5,hw,hl2]
  refine aJ b9 ?_
  simp only[go_sem,ho',hg,j5,hf0,hf1,hfl,hfx,sfD]
  cases hwd:fx.word
  ·have e0:Emit.vl fs P f dp=am (aj 16 14 0 bf) (aj 22 14 0 0):=by
    unfold Emit.vl
    rw[if_neg a6,hfx]
    simp only[x8,y7,hwd,hbf,B8,A4]
   rw[e0] at hl hh ⊢
   simp only[am,aj,j4,j6,j7] at hl hh
   simp only[go_sem]
   refine aJ b9 ?_
   simp only[go_sem,ho',hg,ksD,j5,hf0,hf2,hf3,hbf]
   refine aM aa rfl (dE 16 14 0 bf k) (B+45) G D H gG code holes XP hg (S.up a6) Zf hh ?_
   intro r2 g2 ob2 S2 K2
   simp only[go_sem]
   refine aM aa rfl (dE 22 14 0 0 k) (B+45) G D H gG _ _ Yi ((K2.gen G Y1 S.gd S.gh).trans hg) S2 Ym Yq ?_
   intro r3 g3 ob3 S3 K3
   simp only[go_sem]
   refine⟨_,ab.refl _,?_⟩
   simp only[go_sem]
   exact S.pack S3 ((K2.trans K3).down a6) Y4 Y4 (rs':=[]) rfl
  ·have e0:Emit.vl fs P f dp=am (Emit.jM P f dp 1 1) (am (aj 16 14 0 bf) (aj 22 14 0 0)):=by
    unfold Emit.vl
    rw[if_neg a6,hfx]
    simp only[x8,y7,hwd,hbf,A5]
   rw[e0] at hl hh ⊢
   simp only[am,aj,Emit.jM,j4,j6,j7] at hl hh
   simp only[go_sem]
   refine aM aa rfl (jA hP 1 1 a8) (B+45) G D H gG code holes XP hg (S.up a6) (by simp only[aj,Emit.jM,j6,j7];omega) (by simp only[aj,Emit.jM,j7];omega) ?_
   intro r1 g1 ob1 S1 K1
   have hg1:g1 G=gG:=(K1.gen G a6 S.gd S.gh).trans hg
   have ho1:=S1.oG
   unfold aU.cells at ho1
   rw[hP.b,hP.fn,hP.d,hP.s,hP.bk] at ho1
   simp only[go_sem]
   refine aJ b9 ?_
   simp only[go_sem,ho1,hg1,ksD,j5,hf0,hf2,hf3,hbf]
   refine aM aa rfl (dE 16 14 0 bf k) (B+45) G D H gG _ _ XP hg1 S1 (by simp only[aj,Emit.jM,j4,j6,j7];omega) (by simp only[aj,Emit.jM,l8,j7];omega) ?_
   intro r2 g2 ob2 S2 K2
   simp only[go_sem]
   refine aM aa rfl (dE 22 14 0 0 k) (B+45) G D H gG _ _ Yi ((K2.gen G Y1 S.gd S.gh).trans hg1) S2 (by simp only[aj,Emit.jM,j4,j6,j7];omega) (by simp only[aj,Emit.jM,l8,j7];omega) ?_
   intro r3 g3 ob3 S3 K3
   simp only[go_sem]
   refine⟨_,ab.refl _,?_⟩
   simp only[go_sem]
   exact S.pack S3 ((K1.trans (K2.trans K3)).down a6) (by simp only[am,aj,Emit.jM,r0]) (by simp only[am,aj,Emit.jM,r0]) (rs':=[]) rfl
end
theorem Iz {k:aU} (a b:Int) (h0:0≤a) (hab:a≤b) (hb:b≤1000000000000000):bZ 159 [iv .i64 a,iv .i64 b] (Emit.vn a b) k:=by
 intro B G D H gG code holes g ob S hg hl hh
 have hGB:=S.gB;have hDB:=S.dB;have hHB:=S.hB
 refine hdM B [G,D,H] Tryz.func159 rfl [] XQ S.top fun b₀ β0 s0 w0=>?_
 have hw:IntKind.i64.wrap (b-a)=b-a:=by rw[wrap_i64] <;> omega
 by_cases h6:b-a≤6
 ·have e0:Emit.vn a b=Emit.vm a (b-a).toNat:=if_pos h6
  rw[e0] at hl hh ⊢
  have hz:∀(j n:Nat),(Emit.vm a j n).code.length=j∧(Emit.vm a j n).holes=[]:=by
   intro j
   induction j with
   |zero=>intro n;exact⟨rfl,rfl⟩
   |succ j ih=>intro n;exact⟨by simp[Emit.vm,am,aj,(ih _).1],by simp[Emit.vm,am,aj,(ih _).2]⟩
  rw[(hz _ _).1] at hl
  simp only[go_sem,hw,h6]
  refine ai (fun m st=>∃j:Nat,m+j=(b-a).toNat∧st.f 0=.one (.ptr G gG 0)∧st.f 2=iv .i64 b∧st.f 6=iv .i64 (a+j)∧dD (B+41) G D H k (code++(Emit.vm a j code.length).code) (holes++(Emit.vm a j code.length).holes) st.gen st.obj∧bV (B+41) G D H g ob st.gen st.obj) (b-a).toNat ?_ ?_
  ·refine⟨0,rfl,?_⟩
   simp only[go_sem,Emit.vm,eu,l8]
   exact⟨a7,S.up a6,.refl⟩
  rintro m f g1 ob1 ⟨j,hm,q0,q2,q6,S1,K1⟩
  simp only at q0 q2 q6 S1 K1
  by_cases hlt:a+j<b
  ·have hwx:IntKind.i64.wrap (a+j+1)=a+j+1:=by rw[wrap_i64] <;> omega
   simp only[go_sem,q0,q2,q6,hlt]
   refine aM aa rfl (dE 17 0 0 (a+j) k) (B+41) G D H gG _ _ YI ((K1.gen G a6 S.gd S.gh).trans hg) S1 (by simp only[j4,(hz _ _).1,aj,j6,j7];omega) (by simp only[j4,(hz _ _).2,aj,j7];rw[(hz _ _).2] at hh;simpa using hh) ?_
   intro r g2 ob2 S2 K2
   simp only[go_sem,q6,hwx]
   refine ae (m-1) a6 ⟨j+1,a6,?_⟩
   simp only[go_sem,q0,q2]
   refine⟨by first|omega|(rw[show a+(j:Int)+1=a+((j+1:Nat):Int) by omega]),?_,K1.trans K2⟩
   simp only[Emit.vm,am,←r0]
   exact S2
  ·obtain rfl:j=(b-a).toNat:=a6
   simp only[go_sem,q2,q6,hlt]
   exact Wp
 ·have e0:Emit.vn a b=fun n=>⟨[(1,1,0,a),(1,2,0,b),(17,0,1,0),(4,1,1,15),(14,3,1,2),(20,3,0,(n:Int)+2)],[]⟩:=if_neg h6
  rw[e0] at hl hh ⊢
  simp only[j6,j7] at hl hh
  have hc2:∀x:Nat,x≤100000000→IntKind.i64.wrap (x:Int)=(x:Int):=fun x hx=>by rw[wrap_i64] <;> omega
  simp only[go_sem,hw,h6]
  refine aM aa rfl (dE 1 1 0 a k) (B+41) G D H gG code holes Yi hg (S.up Y1) Ym Yq ?_
  intro r1 g1 ob1 S1 K1
  have hg1:g1 G=gG:=(K1.gen G a6 S.gd S.gh).trans hg
  simp only[go_sem]
  refine aM aa rfl (dE 1 2 0 b k) (B+41) G D H gG _ _ Yi hg1 S1 Ym Yq ?_
  intro r2 g2 ob2 S2 K2
  have hg2:g2 G=gG:=(K2.gen G a6 S.gd S.gh).trans hg1
  have hx:=S2.oG
  unfold aU.cells at hx
  simp only[go_sem,hx,hg2]
  refine⟨by rw[S2.oD];rfl,?_⟩
  refine aM aa rfl (dE 17 0 1 0 k) (B+41) G D H gG _ _ Yi hg2 S2 Ym Yq ?_
  intro r3 g3 ob3 S3 K3
  have hg3:g3 G=gG:=(K3.gen G a6 S.gd S.gh).trans hg2
  simp only[go_sem]
  refine aM aa rfl (dE 4 1 1 15 k) (B+41) G D H gG _ _ Yi hg3 S3 Ym Yq ?_
  intro r4 g4 ob4 S4 K4
  have hg4:g4 G=gG:=(K4.gen G a6 S.gd S.gh).trans hg3
  simp only[go_sem]
  refine aM aa rfl (dE 14 3 1 2 k) (B+41) G D H gG _ _ Yi hg4 S4 Ym Yq ?_
  intro r5 g5 ob5 S5 K5
  have hg5:g5 G=gG:=(K5.gen G a6 S.gd S.gh).trans hg4
  simp only[go_sem]
  refine aM aa rfl (dE 20 3 0 ((code.length:Int)+2) k) (B+41) G D H gG _ _ (by (first|rfl|simp only[go_sem,aj,j4,j6,j7]);rfl) hg5 S5 (by simp only[aj,j4,j6,j7];omega) (by simp only[aj,l8,j7];omega) ?_
  intro r6 g6 ob6 S6 K6
  simp only[go_sem]
  refine⟨_,ab.refl _,?_⟩
  simp only[go_sem]
  exact S.pack S6 ((K1.trans (K2.trans (K3.trans (K4.trans (K5.trans K6))))).down a6) (by simp only[aj,r0,z8,y1]) (by simp only[aj,l8]) (rs':=[]) rfl
theorem yV {k:aU} (op a f pl:Int):bZ 151 [iv .i64 op,iv .i64 a,iv .i64 f,iv .i64 pl] (ao op a f pl) k:=by
 intro B G D H gG code holes g ob S hg hl hh
 have hG:=S.gB;have hD:=S.dB;have hH:=S.hB
 have hGD:=S.gd;have hGH:=S.gh;have hDH:=S.dh
 have hc:=S.oD
 have hHo:=S.oH
 simp only[ao,j6,j7] at hl hh
 refine hdM B [G,D,H] Tryz.func151 rfl [] XQ S.top fun b₀ β0 s0 w0=>?_
 have ho':=S.oG
 unfold aU.cells at ho'
 have n1:∀k,(G=B+k)=False:=fun k=>by simp;omega
 have n2:∀k,(D=B+k)=False:=fun k=>by simp;omega
 have n3:∀k,(H=B+k)=False:=fun k=>by simp;omega
 have n4:(G=H)=False:=by simp[hGH]
 have n5:(H=G)=False:=by simp[z7 hGH]
 simp only[go_sem]
 refine fP aB mixed aa [B+23,H,G] [([0],[0,1,2],[],false),([0],[0],[],false),([11],[0],[],false),([12],[0],[],false),([13],[0],[],false),([0],[],[],false),([15],[],[],false),([16],[],[],false),([17],[],[],false),([18],[],[],false),([3],[],[],false),([4],[],[],false),([19,20,21],[],[],false),([22],[],[0],false),([14,23],[],[1],false),([10],[],[],false),([25],[],[],false),([26,24],[],[],true)] 3 rfl b9 rfl XQ ?_
 have hhn:=xa holes
 have hcn:=fS code
 simp only[go_sem]
 iterate 10 (apply aI;(case hg=>first|exact x6|exact⟨_,rfl,by decide,rfl⟩);(case h1=>intro fa ga oa K' hK;simp only[go_sem,n1,n2,n3,n4,n5,ho',hg,hc,hcn] at hK ⊢;exact hK))
 iterate 3 (apply aI;(case hg=>first|exact x6|exact⟨_,rfl,by decide,rfl⟩);(case h1=>intro fa ga oa K' hK;simp only[go_sem,n1,n2,n3,n4,n5] at hK ⊢;exact hK))
 (apply dy;(case hg=>first|exact x6|exact⟨_,rfl,by decide,rfl⟩);(case h1=>intro fa ga oa K' hK;simp only[go_sem,aC] at hK ⊢;exact hK))
 refine dy (a:=1) (v:=.one (.osl H (nxC (apC 197 (g H) 0) (g H)) 3 0 (holes.length+1))) (x:=nxC (apC 197 (g H) 0) (g H)) (y:=some (lJ (holes++[((code.length:Int),f,pl)]))) x6 (fun fa ga oa K' hK=>?_) ?_
 ·have e1:List.take (holes.length*3) (lJ holes)++[C.d (.int .i64 (code.length:Int)),C.d (.int .i64 f),C.d (.int .i64 pl)]=lJ (holes++[((code.length:Int),f,pl)]):=by
   rw[l5 (by rw[hhn];exact l0 _),EQ]
   simp[lJ]
  simp only[go_sem,aC,hHo,hhn,n1,n2,n3,n4,n5] at hK ⊢
  exact W7
 iterate 2 (apply aI;(case hg=>first|exact x6|exact⟨_,rfl,by decide,rfl⟩);(case h1=>intro fa ga oa K' hK;simp only[go_sem,n1,n2,n3,n4,n5,ho',hg] at hK ⊢;exact hK))
 refine fQ x6 ?_
 intro K' hK'
 simp only[go_sem,n1,n2,n3,n4,n5,ho',hg]
 refine hK' _ ?_
 clear hK' K'
 have hDH2:(D=H)=False:=by simp[hDH]
 have hDG2:(D=G)=False:=by simp[z7 hGD]
 simp only[go_sem]
 obtain⟨gH,hgH⟩:∃x,nxC (apC 197 (g H) 0) (g H)=x:=⟨_,rfl⟩
 rw[hgH]
 refine aM aa rfl (dE op a 0 0 k) (B+31) G D H gG code (holes++[((code.length:Int),f,pl)]) Yi (by simp only[upd];rw[if_neg hGH];(repeat rw[if_neg (by omega)]);exact hg) ⟨fun i hi=>nt (S.top i (by omega)),by omega,by omega,by omega,hGD,hGH,hDH,?_,?_,?_,fun x hx=>AG (by omega) (S.low x hx)⟩ (by simp only[aj,j6,j7];omega) (by simp only[aj,j4,j6,j7];omega) ?_
 ·simp only[upd,aU.cells,j4,j6,j7]
  rw[if_pos trivial,if_neg hDH]
  (repeat rw[if_neg (by omega)])
  try rfl
 ·simp only[upd]
  rw[if_neg (z7 hGD),if_neg hDH]
  (repeat rw[if_neg (by omega)])
  exact hc
 ·simp only[upd]
  rw[if_neg (z7 hGH)]
  try rw[if_pos trivial]
 intro r g' ob' S1 K1
 simp only[go_sem]
 refine⟨_,ab.refl _,?_⟩
 simp only[go_sem]
 refine S.pack S1 ⟨fun i hi e2 e3=>(K1.gen i a6 e2 e3).trans ?_,fun i hi e1 e2 e3=>(K1.fr i a6 e1 e2 e3).trans ?_⟩ (by simp only[ao,aj]) (by simp only[ao,aj,l8]) (rs':=[]) rfl
 ·simp only[upd];rw[if_neg e3,if_neg a6]
 ·simp only[upd];rw[if_neg e1,if_neg e3];(repeat rw[if_neg (by omega)])
theorem xb (P:Emit.Plan) (f:Nat) (dp params first:Int):∀j n:Nat,(Emit.DC P f dp params first j n).code.length=2*j∧(Emit.DC P f dp params first j n).holes=[]
 |0,n=>⟨by simp[Emit.DC,eu],by simp[Emit.DC,eu]⟩
 |j+1,n=>by
   have ih:=xb P f dp params first j
   exact⟨by simp[Emit.DC,am,aj,Emit.jM,(ih _).1];omega,by simp[Emit.DC,am,aj,Emit.jM,(ih _).2]⟩
theorem Mp {k:aU}{fs:List Src.CFn}{P:Emit.Plan}{f:Nat}{dp:Int} (hP:lj k fs P f dp) (x:Ins) {c:Nat}{y:Src.CFn} (hc:x.a=(c:Int)) (hy:fs[c]? = some y):bZ 154 [.agg ((bb x).map .d)] (Emit.Aa fs P f dp x.a) k:=by
 intro B G D H gG code holes g ob S hg hl hh
 have hGB:=S.gB;have hDB:=S.dB;have hHB:=S.hB
 have hGD:=S.gd;have hGH:=S.gh;have hDH:=S.dh
 refine hdM B [G,D,H] Tryz.func154 rfl [] XQ S.top fun b₀ β0 s0 w0=>?_
 obtain⟨op,a,b,n⟩:=x
 simp only at hc
 subst hc
 have e0:Emit.Aa fs P f dp (c:Int)=am (Emit.DC P f dp y.params y.first y.params.toNat) (am (ao 21 14 (c:Int) (-1)) (if y.word then Emit.kZ P f dp 1 y.params else eu)):=by
  unfold Emit.Aa
  rw[A6,hy]
 rw[e0] at hl hh ⊢
 have ho':=S.oG
 unfold aU.cells at ho'
 rw[hP.s] at ho'
 have hcl:c<fs.length:=(l4.1 hy).1
 have hc0:(0:Int)≤(c:Int):=a6
 have hc1:(c:Int)<(fs.length:Int):=a6
 obtain⟨hp0,hp1,hf0,hf1⟩:=hP.pz y (l6 hy)
 have n1:∀k,(G=B+k)=False:=fun k=>by simp;omega
 have n2:∀k,(D=B+k)=False:=fun k=>by simp;omega
 have n3:∀k,(H=B+k)=False:=fun k=>by simp;omega
 simp only[go_sem,bb]
 refine fP aB mixed aa [B+4] [([0],[0],[],false),([6],[0],[],false),([7],[0],[],false),([8],[0],[],false),([9],[0],[],false),([3],[0],[],false),([11],[0],[],false),([10,12],[0],[],false),([13],[0],[],false),([],[],[0],false),([4,14],[],[],true)] 1 rfl b9 rfl a7 ?_
 simp only[go_sem]
 iterate 7 (apply aI;(case hg=>first|exact x6|exact⟨_,rfl,by decide,rfl⟩);(case h1=>intro fa ga oa K' hK;simp only[go_sem,n1,n2,n3,ho',hg] at hK ⊢;exact hK))
 iterate 2 (apply aI;(case hg=>first|exact x6|exact⟨_,rfl,by decide,rfl⟩);(case h1=>intro fa ga oa K' hK;simp only[go_sem,n1,n2,n3,ho',hg,hc0,hc1,hcl,hy,j5,sfD] at hK ⊢;exact hK))
 (apply dy;(case hg=>first|exact x6|exact⟨_,rfl,by decide,rfl⟩);(case h1=>intro fa ga oa K' hK;simp only[go_sem,n1,n2,n3] at hK ⊢;exact hK))
 refine fQ x6 ?_
 intro K' hK'
 simp only[go_sem,n1,n2,n3]
 refine hK' _ ?_
 clear hK' K'
 simp only[go_sem]
 have hal:=xb P f dp y.params y.first
 have hlen1:code.length+(2*y.params.toNat+2)≤100000000+1:=by
  have h1:(am (Emit.DC P f dp y.params y.first y.params.toNat) (am (ao 21 14 (c:Int) (-1)) (if y.word then Emit.kZ P f dp 1 y.params else eu)) code.length).code.length≥2*y.params.toNat+1:=by
   simp only[am,ao,j4,(hal _ _).1,j6,j7];omega
  omega
 have hlen2:holes.length+1≤100000000:=by
  have h1:(am (Emit.DC P f dp y.params y.first y.params.toNat) (am (ao 21 14 (c:Int) (-1)) (if y.word then Emit.kZ P f dp 1 y.params else eu)) code.length).holes.length≥1:=by
   simp only[am,ao,j4,(hal _ _).2,j6,j7];omega
  omega
 refine ai (fun m st=>∃j:Nat,m+j=y.params.toNat∧st.f 0=.one (.ptr G gG 0)∧st.f 3=.one (.ptr (B+3) (st.gen (B+3)) 0)∧st.f 4=.one (.ptr (B+4) (st.gen (B+4)) 0)∧st.f 16=iv .i64 y.params∧st.f 17=iv .i64 j∧st.obj (B+3)=some [.d (.int .i64 op),.d (.int .i64 c),.d (.int .i64 b),.d (.int .u32 n)]∧
  st.obj (B+4)=some [.d (.int .i64 y.params),.d (.int .i64 y.slots),.d (.int .i64 y.first),.d (.bool y.word),.d (qB (codeOf y.word y.body))]∧dD (B+43) G D H k (code++(Emit.DC P f dp y.params y.first j code.length).code) (holes++(Emit.DC P f dp y.params y.first j code.length).holes) st.gen st.obj∧bV B G D H g ob st.gen st.obj) y.params.toNat ?_ ?_
 ·refine⟨0,rfl,?_⟩
  simp only[go_sem,Emit.DC,eu,l8,n1,n2,n3]
  exact⟨(S.up (B':=B+43) a6).to (fun i hi=>nt (S.top i a6)) (nu) (nu) (nu) (nu) (nu),⟨fun i h1 h2 h3=>nu,fun i h1 h2 h3 h4=>nu⟩⟩
 rintro m fa g1 ob1 ⟨j,hm,q0,q3,q4,q16,q17,p3,p4,S1,K1⟩
 simp only at q0 q3 q4 q16 q17 p3 p4 S1 K1
 have hg1:g1 G=gG:=(K1.gen G a6 S.gd S.gh).trans hg
 have lg:=(Emit.DC P f dp y.params y.first j code.length)
 by_cases hlt:(j:Int)<y.params
 ·have hw1:IntKind.i64.wrap (y.params-j)=y.params-j:=by rw[wrap_i64] <;> omega
  have hw2:IntKind.i64.wrap (y.first+j)=y.first+j:=by rw[wrap_i64] <;> omega
  have hwj:=ah (k:=j) a6
  simp only[go_sem,q0,q3,q4,q16,q17,hlt,p4,hw1]
  refine aM aa rfl (jA hP 1 (y.params-j) a6) (B+43) G D H gG _ _ YI hg1 S1 (by simp only[j4,(hal _ _).1,aj,Emit.jM,j6,j7];omega) (by simp only[j4,(hal _ _).2,aj,Emit.jM,j7];omega) ?_
  intro r g2 ob2 S2 K2
  have hg2:g2 G=gG:=(K2.gen G a6 S.gd S.gh).trans hg1
  have p42:=(K2.fr (B+4) a6 a6 a6 a6).trans p4
  have p32:=(K2.fr (B+3) a6 a6 a6 a6).trans p3
  have g42:=K2.gen (B+4) a6 a6 a6
  have g32:=K2.gen (B+3) a6 a6 a6
  simp only[go_sem,q0,q3,q4,q16,q17,p42,g42,hw2]
  refine aM aa rfl (dE 17 1 0 (y.first+j) k) (B+43) G D H gG _ _ YI hg2 S2 (by simp only[j4,(hal _ _).1,aj,Emit.jM,j6,j7];omega) (by simp only[j4,(hal _ _).2,aj,Emit.jM,j7];omega) ?_
  intro r g3 ob3 S3 K3
  have p43:=(K3.fr (B+4) a6 a6 a6 a6).trans p42
  have p33:=(K3.fr (B+3) a6 a6 a6 a6).trans p32
  have g43:=(K3.gen (B+4) a6 a6 a6).trans g42
  have g33:=(K3.gen (B+3) a6 a6 a6).trans g32
  simp only[go_sem,q17,hwj]
  refine ae (m-1) a6 ⟨j+1,a6,?_⟩
  simp only[go_sem,q0,q3,q4,q16,p33,p43,g33,g43]
  refine⟨?_,K1.trans ((K2.trans K3).down a6)⟩
  simp only[Emit.DC,am,←r0]
  simp only[j4,C0] at S3
  exact S3
 ·have hj:j=y.params.toNat:=a6
  subst hj
  simp only[go_sem,q0,q3,q4,q16,q17,hlt,p3]
  refine aM aa rfl (yV 21 14 (c:Int) (-1)) (B+43) G D H gG _ _ YI hg1 S1 (by simp only[j4,(hal _ _).1,ao,j6,j7];omega) (by simp only[j4,(hal _ _).2,ao,j6,j7];omega) ?_
  intro r g2 ob2 S2 K2
  have hg2:g2 G=gG:=(K2.gen G a6 S.gd S.gh).trans hg1
  have p42:=(K2.fr (B+4) a6 a6 a6 a6).trans p4
  have g42:=K2.gen (B+4) a6 a6 a6
  cases hwd:y.word with
  |false=>
    rw[hwd] at p42 hl hh
    simp only[go_sem,q0,q4,p42,g42]
    refine⟨_,ab.refl _,?_⟩
    simp only[go_sem]
    exact S.pack S2 (K1.trans (K2.down a6)) (by simp[am,eu,r0,ao]) (by simp[am,eu,r0,ao]) (rs':=[]) rfl
  |true=>
    rw[hwd] at p42 hl hh
    simp only[go_sem,q0,q4,p42,g42]
    refine aM aa rfl (ll hP 1 y.params a6) (B+43) G D H gG _ _ YI hg2 S2 ?_ ?_ ?_
    ·simp only[am,ao,Emit.kZ,aj,j4,(hal _ _).1,j6,j7,A5] at hl ⊢;omega
    ·simp only[am,ao,Emit.kZ,aj,j4,(hal _ _).2,j6,j7,A5] at hh ⊢;omega
    intro r g3 ob3 S3 K3
    simp only[go_sem]
    refine⟨_,ab.refl _,?_⟩
    simp only[go_sem]
    exact S.pack S3 (K1.trans ((K2.trans K3).down a6)) (by simp[am,eu,r0,ao,Emit.kZ,aj]) (by simp[am,eu,r0,ao,Emit.kZ,aj]) (rs':=[]) rfl
section
variable {k:aU}{fs:List Src.CFn}{P:Emit.Plan}{f:Nat}{dp:Int}
theorem Mq (hP:lj k fs P f dp) (a b n:Int):bZ 140 [.agg ((bb ⟨1,a,b,n⟩).map .d)] (Emit.tg fs P f dp ⟨1,a,b,n⟩) k:=by
 intro B G D H gG code holes g ob S hg hl hh
 have hGB:=S.gB;have hDB:=S.dB;have hHB:=S.hB
 have hGD:=S.gd;have hGH:=S.gh;have hDH:=S.dh
 refine hdM B [G,D,H] Tryz.func140 rfl [] XQ S.top fun b₀ β0 s0 w0=>?_
 have n1:∀k,(G=B+k)=False:=fun k=>by simp;omega
 have n2:∀k,(D=B+k)=False:=fun k=>by simp;omega
 have n3:∀k,(H=B+k)=False:=fun k=>by simp;omega
 have ho':=S.oG
 unfold aU.cells at ho'
 rw[hP.fn] at ho'
 have e0:Emit.tg fs P f dp ⟨1,a,b,n⟩=(am (Emit.vk 1 n) (Emit.kZ P f dp 1 0)):=by simp[Emit.tg]
 rw[e0] at hl hh ⊢
 simp only[am,aj,ao,Emit.jM,Emit.kZ,j4,j6,j7] at hl hh
 simp only[go_sem,bb]
 obtain⟨gI,hgI⟩:∃x,nxC 253 (g (B+3))=x:=⟨_,rfl⟩
 have S0:dD (B+10) G D H k code holes (upd g (B+3) gI) (upd ob (B+3) (some [.d (.int .i64 1),.d (.int .i64 a),.d (.int .i64 b),.d (.int .u32 n)])):=(S.up a6).upd a6 a6 a6 a6 _ _
 have K0:bV B G D H g ob (upd g (B+3) gI) (upd ob (B+3) (some [.d (.int .i64 1),.d (.int .i64 a),.d (.int .i64 b),.d (.int .u32 n)])):=⟨fun i hi _ _=>nu,fun i hi _ _ _=>nu⟩
 have hg0:upd g (B+3) gI G=gG:=by simp only[upd];rw[if_neg a6];exact hg
 rw[hgI]
 refine aM aa rfl (ES 1 n) (B+10) G D H gG _ _ X1 hg0 S0 X2 X6 ?_
 intro r g1 ob1 S1 K1
 have hg1:g1 G=gG:=(K1.gen G a6 S.gd S.gh).trans hg0
 have p3_1:ob1 (B+3)=some [.d (.int .i64 1),.d (.int .i64 a),.d (.int .i64 b),.d (.int .u32 n)]:=(K1.fr (B+3) a6 a6 a6 a6).trans XS
 exact VG
theorem Mr (hP:lj k fs P f dp) (a b n:Int):bZ 143 [.agg ((bb ⟨2,a,b,n⟩).map .d)] (Emit.tg fs P f dp ⟨2,a,b,n⟩) k:=by
 intro B G D H gG code holes g ob S hg hl hh
 have hGB:=S.gB;have hDB:=S.dB;have hHB:=S.hB
 have hGD:=S.gd;have hGH:=S.gh;have hDH:=S.dh
 refine hdM B [G,D,H] Tryz.func143 rfl [] XQ S.top fun b₀ β0 s0 w0=>?_
 have n1:∀k,(G=B+k)=False:=fun k=>by simp;omega
 have n2:∀k,(D=B+k)=False:=fun k=>by simp;omega
 have n3:∀k,(H=B+k)=False:=fun k=>by simp;omega
 have ho':=S.oG
 unfold aU.cells at ho'
 rw[hP.fn] at ho'
 have e0:Emit.tg fs P f dp ⟨2,a,b,n⟩=(am (aj 16 1 0 a) (Emit.kZ P f dp 1 0)):=by simp[Emit.tg]
 rw[e0] at hl hh ⊢
 simp only[am,aj,ao,Emit.jM,Emit.kZ,j4,j6,j7] at hl hh
 simp only[go_sem,bb]
 obtain⟨gI,hgI⟩:∃x,nxC 253 (g (B+3))=x:=⟨_,rfl⟩
 have S0:dD (B+10) G D H k code holes (upd g (B+3) gI) (upd ob (B+3) (some [.d (.int .i64 2),.d (.int .i64 a),.d (.int .i64 b),.d (.int .u32 n)])):=(S.up a6).upd a6 a6 a6 a6 _ _
 have K0:bV B G D H g ob (upd g (B+3) gI) (upd ob (B+3) (some [.d (.int .i64 2),.d (.int .i64 a),.d (.int .i64 b),.d (.int .u32 n)])):=⟨fun i hi _ _=>nu,fun i hi _ _ _=>nu⟩
 have hg0:upd g (B+3) gI G=gG:=by simp only[upd];rw[if_neg a6];exact hg
 rw[hgI]
 refine aM aa rfl (dE 16 1 0 a k) (B+10) G D H gG _ _ X1 hg0 S0 X2 X6 ?_
 intro r g1 ob1 S1 K1
 have hg1:g1 G=gG:=(K1.gen G a6 S.gd S.gh).trans hg0
 have p3_1:ob1 (B+3)=some [.d (.int .i64 2),.d (.int .i64 a),.d (.int .i64 b),.d (.int .u32 n)]:=(K1.fr (B+3) a6 a6 a6 a6).trans XS
 exact VG
theorem Ms (hP:lj k fs P f dp) (a b n:Int):bZ 144 [.agg ((bb ⟨3,a,b,n⟩).map .d)] (Emit.tg fs P f dp ⟨3,a,b,n⟩) k:=by
 intro B G D H gG code holes g ob S hg hl hh
 have hGB:=S.gB;have hDB:=S.dB;have hHB:=S.hB
 have hGD:=S.gd;have hGH:=S.gh;have hDH:=S.dh
 refine hdM B [G,D,H] Tryz.func144 rfl [] XQ S.top fun b₀ β0 s0 w0=>?_
 have n1:∀k,(G=B+k)=False:=fun k=>by simp;omega
 have n2:∀k,(D=B+k)=False:=fun k=>by simp;omega
 have n3:∀k,(H=B+k)=False:=fun k=>by simp;omega
 have ho':=S.oG
 unfold aU.cells at ho'
 rw[hP.fn] at ho'
 have e0:Emit.tg fs P f dp ⟨3,a,b,n⟩=(am (Emit.jM P f dp 1 1) (aj 17 1 0 a)):=by simp[Emit.tg]
 rw[e0] at hl hh ⊢
 simp only[am,aj,ao,Emit.jM,Emit.kZ,j4,j6,j7] at hl hh
 simp only[go_sem,bb]
 obtain⟨gI,hgI⟩:∃x,nxC 253 (g (B+3))=x:=⟨_,rfl⟩
 have S0:dD (B+10) G D H k code holes (upd g (B+3) gI) (upd ob (B+3) (some [.d (.int .i64 3),.d (.int .i64 a),.d (.int .i64 b),.d (.int .u32 n)])):=(S.up a6).upd a6 a6 a6 a6 _ _
 have K0:bV B G D H g ob (upd g (B+3) gI) (upd ob (B+3) (some [.d (.int .i64 3),.d (.int .i64 a),.d (.int .i64 b),.d (.int .u32 n)])):=⟨fun i hi _ _=>nu,fun i hi _ _ _=>nu⟩
 have hg0:upd g (B+3) gI G=gG:=by simp only[upd];rw[if_neg a6];exact hg
 rw[hgI]
 refine aM aa rfl (jA hP 1 1 a8) (B+10) G D H gG _ _ X1 hg0 S0 X2 X6 ?_
 intro r g1 ob1 S1 K1
 have hg1:g1 G=gG:=(K1.gen G a6 S.gd S.gh).trans hg0
 have p3_1:ob1 (B+3)=some [.d (.int .i64 3),.d (.int .i64 a),.d (.int .i64 b),.d (.int .u32 n)]:=(K1.fr (B+3) a6 a6 a6 a6).trans XS
 have g3_1:g1 (B+3)=gI:=(K1.gen (B+3) a6 a6 a6).trans XS
 simp only[go_sem,p3_1,g3_1]
 refine aM aa rfl (dE 17 1 0 a k) (B+10) G D H gG _ _ X9 hg1 S1 Ya Yb ?_
 exact Vd
theorem Mt (hP:lj k fs P f dp) (a b n:Int):bZ 146 [.agg ((bb ⟨4,a,b,n⟩).map .d)] (Emit.tg fs P f dp ⟨4,a,b,n⟩) k:=by
 intro B G D H gG code holes g ob S hg hl hh
 have hGB:=S.gB;have hDB:=S.dB;have hHB:=S.hB
 have hGD:=S.gd;have hGH:=S.gh;have hDH:=S.dh
 refine hdM B [G,D,H] Tryz.func146 rfl [] XQ S.top fun b₀ β0 s0 w0=>?_
 have n1:∀k,(G=B+k)=False:=fun k=>by simp;omega
 have n2:∀k,(D=B+k)=False:=fun k=>by simp;omega
 have n3:∀k,(H=B+k)=False:=fun k=>by simp;omega
 have ho':=S.oG
 unfold aU.cells at ho'
 rw[hP.fn] at ho'
 have e0:Emit.tg fs P f dp ⟨4,a,b,n⟩=(am (Emit.jM P f dp 1 1) (am (aj 25 1 0 b) (am (aj 16 1 1 a) (Emit.kZ P f dp 1 1)))):=by simp[Emit.tg]
 rw[e0] at hl hh ⊢
 simp only[am,aj,ao,Emit.jM,Emit.kZ,j4,j6,j7] at hl hh
 simp only[go_sem,bb]
 obtain⟨gI,hgI⟩:∃x,nxC 253 (g (B+3))=x:=⟨_,rfl⟩
 have S0:dD (B+16) G D H k code holes (upd g (B+3) gI) (upd ob (B+3) (some [.d (.int .i64 4),.d (.int .i64 a),.d (.int .i64 b),.d (.int .u32 n)])):=(S.up a6).upd a6 a6 a6 a6 _ _
 have K0:bV B G D H g ob (upd g (B+3) gI) (upd ob (B+3) (some [.d (.int .i64 4),.d (.int .i64 a),.d (.int .i64 b),.d (.int .u32 n)])):=⟨fun i hi _ _=>nu,fun i hi _ _ _=>nu⟩
 have hg0:upd g (B+3) gI G=gG:=by simp only[upd];rw[if_neg a6];exact hg
 rw[hgI]
 refine aM aa rfl (jA hP 1 1 a8) (B+16) G D H gG _ _ X1 hg0 S0 X2 X6 ?_
 intro r g1 ob1 S1 K1
 have hg1:g1 G=gG:=(K1.gen G a6 S.gd S.gh).trans hg0
 have p3_1:ob1 (B+3)=some [.d (.int .i64 4),.d (.int .i64 a),.d (.int .i64 b),.d (.int .u32 n)]:=(K1.fr (B+3) a6 a6 a6 a6).trans XS
 have g3_1:g1 (B+3)=gI:=(K1.gen (B+3) a6 a6 a6).trans XS
 simp only[go_sem,p3_1,g3_1]
 refine aM aa rfl (dE 25 1 0 b k) (B+16) G D H gG _ _ X9 hg1 S1 Ya Yb ?_
 intro r g2 ob2 S2 K2
 have hg2:g2 G=gG:=(K2.gen G a6 S.gd S.gh).trans hg1
 have p3_2:ob2 (B+3)=some [.d (.int .i64 4),.d (.int .i64 a),.d (.int .i64 b),.d (.int .u32 n)]:=(K2.fr (B+3) a6 a6 a6 a6).trans p3_1
 have g3_2:g2 (B+3)=gI:=(K2.gen (B+3) a6 a6 a6).trans g3_1
 simp only[go_sem,p3_2,g3_2]
 refine aM aa rfl (dE 16 1 1 a k) (B+16) G D H gG _ _ Yv hg2 S2 Yw Yx ?_
 intro r g3 ob3 S3 K3
 have hg3:g3 G=gG:=(K3.gen G a6 S.gd S.gh).trans hg2
 have p3_3:ob3 (B+3)=some [.d (.int .i64 4),.d (.int .i64 a),.d (.int .i64 b),.d (.int .u32 n)]:=(K3.fr (B+3) a6 a6 a6 a6).trans p3_2
 have g3_3:g3 (B+3)=gI:=(K3.gen (B+3) a6 a6 a6).trans g3_2
 simp only[go_sem,p3_3,g3_3]
 refine aM aa rfl (ll hP 1 1 a8) (B+16) G D H gG _ _ YP hg3 S3 YQ YR ?_
 exact Vr
theorem Mu (hP:lj k fs P f dp) (a b n:Int):bZ 147 [.agg ((bb ⟨5,a,b,n⟩).map .d)] (Emit.tg fs P f dp ⟨5,a,b,n⟩) k:=by
 intro B G D H gG code holes g ob S hg hl hh
 have hGB:=S.gB;have hDB:=S.dB;have hHB:=S.hB
 have hGD:=S.gd;have hGH:=S.gh;have hDH:=S.dh
 refine hdM B [G,D,H] Tryz.func147 rfl [] XQ S.top fun b₀ β0 s0 w0=>?_
 have n1:∀k,(G=B+k)=False:=fun k=>by simp;omega
 have n2:∀k,(D=B+k)=False:=fun k=>by simp;omega
 have n3:∀k,(H=B+k)=False:=fun k=>by simp;omega
 have ho':=S.oG
 unfold aU.cells at ho'
 rw[hP.fn] at ho'
 have e0:Emit.tg fs P f dp ⟨5,a,b,n⟩=(am (Emit.jM P f dp 1 2) (am (aj 25 1 0 b) (am (Emit.jM P f dp 2 1) (aj 17 2 1 a)))):=by simp[Emit.tg]
 rw[e0] at hl hh ⊢
 simp only[am,aj,ao,Emit.jM,Emit.kZ,j4,j6,j7] at hl hh
 simp only[go_sem,bb]
 obtain⟨gI,hgI⟩:∃x,nxC 253 (g (B+3))=x:=⟨_,rfl⟩
 have S0:dD (B+16) G D H k code holes (upd g (B+3) gI) (upd ob (B+3) (some [.d (.int .i64 5),.d (.int .i64 a),.d (.int .i64 b),.d (.int .u32 n)])):=(S.up a6).upd a6 a6 a6 a6 _ _
 have K0:bV B G D H g ob (upd g (B+3) gI) (upd ob (B+3) (some [.d (.int .i64 5),.d (.int .i64 a),.d (.int .i64 b),.d (.int .u32 n)])):=⟨fun i hi _ _=>nu,fun i hi _ _ _=>nu⟩
 have hg0:upd g (B+3) gI G=gG:=by simp only[upd];rw[if_neg a6];exact hg
 rw[hgI]
 refine aM aa rfl (jA hP 1 2 a8) (B+16) G D H gG _ _ X1 hg0 S0 X2 X6 ?_
 intro r g1 ob1 S1 K1
 have hg1:g1 G=gG:=(K1.gen G a6 S.gd S.gh).trans hg0
 have p3_1:ob1 (B+3)=some [.d (.int .i64 5),.d (.int .i64 a),.d (.int .i64 b),.d (.int .u32 n)]:=(K1.fr (B+3) a6 a6 a6 a6).trans XS
 have g3_1:g1 (B+3)=gI:=(K1.gen (B+3) a6 a6 a6).trans XS
 simp only[go_sem,p3_1,g3_1]
 refine aM aa rfl (dE 25 1 0 b k) (B+16) G D H gG _ _ X9 hg1 S1 Ya Yb ?_
 intro r g2 ob2 S2 K2
 have hg2:g2 G=gG:=(K2.gen G a6 S.gd S.gh).trans hg1
 have p3_2:ob2 (B+3)=some [.d (.int .i64 5),.d (.int .i64 a),.d (.int .i64 b),.d (.int .u32 n)]:=(K2.fr (B+3) a6 a6 a6 a6).trans p3_1
 have g3_2:g2 (B+3)=gI:=(K2.gen (B+3) a6 a6 a6).trans g3_1
 simp only[go_sem,p3_2,g3_2]
 refine aM aa rfl (jA hP 2 1 a8) (B+16) G D H gG _ _ Yv hg2 S2 Yw Yx ?_
 intro r g3 ob3 S3 K3
 have hg3:g3 G=gG:=(K3.gen G a6 S.gd S.gh).trans hg2
 have p3_3:ob3 (B+3)=some [.d (.int .i64 5),.d (.int .i64 a),.d (.int .i64 b),.d (.int .u32 n)]:=(K3.fr (B+3) a6 a6 a6 a6).trans p3_2
 have g3_3:g3 (B+3)=gI:=(K3.gen (B+3) a6 a6 a6).trans g3_2
 simp only[go_sem,p3_3,g3_3]
 refine aM aa rfl (dE 17 2 1 a k) (B+16) G D H gG _ _ YP hg3 S3 YQ YR ?_
 exact Vr
theorem Mv (hP:lj k fs P f dp) (a b n:Int):bZ 148 [.agg ((bb ⟨6,a,b,n⟩).map .d)] (Emit.tg fs P f dp ⟨6,a,b,n⟩) k:=by
 intro B G D H gG code holes g ob S hg hl hh
 have hGB:=S.gB;have hDB:=S.dB;have hHB:=S.hB
 have hGD:=S.gd;have hGH:=S.gh;have hDH:=S.dh
 refine hdM B [G,D,H] Tryz.func148 rfl [] XQ S.top fun b₀ β0 s0 w0=>?_
 have n1:∀k,(G=B+k)=False:=fun k=>by simp;omega
 have n2:∀k,(D=B+k)=False:=fun k=>by simp;omega
 have n3:∀k,(H=B+k)=False:=fun k=>by simp;omega
 have ho':=S.oG
 unfold aU.cells at ho'
 rw[hP.fn] at ho'
 have e0:Emit.tg fs P f dp ⟨6,a,b,n⟩=(am (Emit.jM P f dp 1 2) (am (Emit.jM P f dp 2 1) (am (aj a 1 1 2) (Emit.kZ P f dp 1 2)))):=by simp[Emit.tg]
 rw[e0] at hl hh ⊢
 simp only[am,aj,ao,Emit.jM,Emit.kZ,j4,j6,j7] at hl hh
 simp only[go_sem,bb]
 obtain⟨gI,hgI⟩:∃x,nxC 253 (g (B+3))=x:=⟨_,rfl⟩
 have S0:dD (B+14) G D H k code holes (upd g (B+3) gI) (upd ob (B+3) (some [.d (.int .i64 6),.d (.int .i64 a),.d (.int .i64 b),.d (.int .u32 n)])):=(S.up a6).upd a6 a6 a6 a6 _ _
 have K0:bV B G D H g ob (upd g (B+3) gI) (upd ob (B+3) (some [.d (.int .i64 6),.d (.int .i64 a),.d (.int .i64 b),.d (.int .u32 n)])):=⟨fun i hi _ _=>nu,fun i hi _ _ _=>nu⟩
 have hg0:upd g (B+3) gI G=gG:=by simp only[upd];rw[if_neg a6];exact hg
 rw[hgI]
 refine aM aa rfl (jA hP 1 2 a8) (B+14) G D H gG _ _ X1 hg0 S0 X2 X6 ?_
 intro r g1 ob1 S1 K1
 have hg1:g1 G=gG:=(K1.gen G a6 S.gd S.gh).trans hg0
 have p3_1:ob1 (B+3)=some [.d (.int .i64 6),.d (.int .i64 a),.d (.int .i64 b),.d (.int .u32 n)]:=(K1.fr (B+3) a6 a6 a6 a6).trans XS
 have g3_1:g1 (B+3)=gI:=(K1.gen (B+3) a6 a6 a6).trans XS
 simp only[go_sem,p3_1,g3_1]
 refine aM aa rfl (jA hP 2 1 a8) (B+14) G D H gG _ _ X9 hg1 S1 Ya Yb ?_
 intro r g2 ob2 S2 K2
 have hg2:g2 G=gG:=(K2.gen G a6 S.gd S.gh).trans hg1
 have p3_2:ob2 (B+3)=some [.d (.int .i64 6),.d (.int .i64 a),.d (.int .i64 b),.d (.int .u32 n)]:=(K2.fr (B+3) a6 a6 a6 a6).trans p3_1
 have g3_2:g2 (B+3)=gI:=(K2.gen (B+3) a6 a6 a6).trans g3_1
 simp only[go_sem,p3_2,g3_2]
 refine aM aa rfl (dE a 1 1 2 k) (B+14) G D H gG _ _ Yv hg2 S2 Yw Yx ?_
 intro r g3 ob3 S3 K3
 have hg3:g3 G=gG:=(K3.gen G a6 S.gd S.gh).trans hg2
 have p3_3:ob3 (B+3)=some [.d (.int .i64 6),.d (.int .i64 a),.d (.int .i64 b),.d (.int .u32 n)]:=(K3.fr (B+3) a6 a6 a6 a6).trans p3_2
 have g3_3:g3 (B+3)=gI:=(K3.gen (B+3) a6 a6 a6).trans g3_2
 simp only[go_sem,p3_3,g3_3]
 refine aM aa rfl (ll hP 1 2 a8) (B+14) G D H gG _ _ YP hg3 S3 YQ YR ?_
 exact Vr
theorem Mw (hP:lj k fs P f dp) (a b n:Int):bZ 149 [.agg ((bb ⟨7,a,b,n⟩).map .d)] (Emit.tg fs P f dp ⟨7,a,b,n⟩) k:=by
 intro B G D H gG code holes g ob S hg hl hh
 have hGB:=S.gB;have hDB:=S.dB;have hHB:=S.hB
 have hGD:=S.gd;have hGH:=S.gh;have hDH:=S.dh
 refine hdM B [G,D,H] Tryz.func149 rfl [] XQ S.top fun b₀ β0 s0 w0=>?_
 have n1:∀k,(G=B+k)=False:=fun k=>by simp;omega
 have n2:∀k,(D=B+k)=False:=fun k=>by simp;omega
 have n3:∀k,(H=B+k)=False:=fun k=>by simp;omega
 have ho':=S.oG
 unfold aU.cells at ho'
 rw[hP.fn] at ho'
 have e0:Emit.tg fs P f dp ⟨7,a,b,n⟩=(am (Emit.jM P f dp 1 1) (am (aj 15 1 1 0) (Emit.kZ P f dp 1 1))):=by simp[Emit.tg]
 rw[e0] at hl hh ⊢
 simp only[am,aj,ao,Emit.jM,Emit.kZ,j4,j6,j7] at hl hh
 simp only[go_sem,bb]
 obtain⟨gI,hgI⟩:∃x,nxC 253 (g (B+3))=x:=⟨_,rfl⟩
 have S0:dD (B+10) G D H k code holes (upd g (B+3) gI) (upd ob (B+3) (some [.d (.int .i64 7),.d (.int .i64 a),.d (.int .i64 b),.d (.int .u32 n)])):=(S.up a6).upd a6 a6 a6 a6 _ _
 have K0:bV B G D H g ob (upd g (B+3) gI) (upd ob (B+3) (some [.d (.int .i64 7),.d (.int .i64 a),.d (.int .i64 b),.d (.int .u32 n)])):=⟨fun i hi _ _=>nu,fun i hi _ _ _=>nu⟩
 have hg0:upd g (B+3) gI G=gG:=by simp only[upd];rw[if_neg a6];exact hg
 rw[hgI]
 refine aM aa rfl (jA hP 1 1 a8) (B+10) G D H gG _ _ X1 hg0 S0 X2 X6 ?_
 intro r g1 ob1 S1 K1
 have hg1:g1 G=gG:=(K1.gen G a6 S.gd S.gh).trans hg0
 have p3_1:ob1 (B+3)=some [.d (.int .i64 7),.d (.int .i64 a),.d (.int .i64 b),.d (.int .u32 n)]:=(K1.fr (B+3) a6 a6 a6 a6).trans XS
 have g3_1:g1 (B+3)=gI:=(K1.gen (B+3) a6 a6 a6).trans XS
 simp only[go_sem,p3_1,g3_1]
 refine aM aa rfl (dE 15 1 1 0 k) (B+10) G D H gG _ _ X9 hg1 S1 Ya Yb ?_
 intro r g2 ob2 S2 K2
 have hg2:g2 G=gG:=(K2.gen G a6 S.gd S.gh).trans hg1
 have p3_2:ob2 (B+3)=some [.d (.int .i64 7),.d (.int .i64 a),.d (.int .i64 b),.d (.int .u32 n)]:=(K2.fr (B+3) a6 a6 a6 a6).trans p3_1
 have g3_2:g2 (B+3)=gI:=(K2.gen (B+3) a6 a6 a6).trans g3_1
 simp only[go_sem,p3_2,g3_2]
 refine aM aa rfl (ll hP 1 1 a8) (B+10) G D H gG _ _ Yv hg2 S2 Yw Yx ?_
 intro r g3 ob3 S3 K3
 simp only[go_sem]
 refine⟨_,ab.refl _,?_⟩
 simp only[go_sem]
 exact S.pack S3 (K0.trans (bV.down (K1.trans (K2.trans K3)) a6)) Zg Zg (rs':=[]) rfl
theorem Mx (hP:lj k fs P f dp) (a b n:Int):bZ 150 [.agg ((bb ⟨8,a,b,n⟩).map .d)] (Emit.tg fs P f dp ⟨8,a,b,n⟩) k:=by
 intro B G D H gG code holes g ob S hg hl hh
 have hGB:=S.gB;have hDB:=S.dB;have hHB:=S.hB
 have hGD:=S.gd;have hGH:=S.gh;have hDH:=S.dh
 refine hdM B [G,D,H] Tryz.func150 rfl [] XQ S.top fun b₀ β0 s0 w0=>?_
 have n1:∀k,(G=B+k)=False:=fun k=>by simp;omega
 have n2:∀k,(D=B+k)=False:=fun k=>by simp;omega
 have n3:∀k,(H=B+k)=False:=fun k=>by simp;omega
 have ho':=S.oG
 unfold aU.cells at ho'
 rw[hP.fn] at ho'
 have e0:Emit.tg fs P f dp ⟨8,a,b,n⟩=(ao 18 0 f a):=by simp[Emit.tg]
 rw[e0] at hl hh ⊢
 simp only[go_sem,bb]
 obtain⟨gI,hgI⟩:∃x,nxC 253 (g (B+3))=x:=⟨_,rfl⟩
 have S0:dD (B+12) G D H k code holes (upd g (B+3) gI) (upd ob (B+3) (some [.d (.int .i64 8),.d (.int .i64 a),.d (.int .i64 b),.d (.int .u32 n)])):=(S.up a6).upd a6 a6 a6 a6 _ _
 have K0:bV B G D H g ob (upd g (B+3) gI) (upd ob (B+3) (some [.d (.int .i64 8),.d (.int .i64 a),.d (.int .i64 b),.d (.int .u32 n)])):=⟨fun i hi _ _=>nu,fun i hi _ _ _=>nu⟩
 have hg0:upd g (B+3) gI G=gG:=by simp only[upd];rw[if_neg a6];exact hg
 rw[hgI]
 refine aJ b9 ?_
 simp only[go_sem,n1,n2,n3,ho',hg]
 refine aM aa rfl (yV 18 0 f a) (B+12) G D H gG _ _ X1 hg0 S0 X2 X6 ?_
 exact VZ
theorem My (hP:lj k fs P f dp) (a b n:Int):bZ 152 [.agg ((bb ⟨9,a,b,n⟩).map .d)] (Emit.tg fs P f dp ⟨9,a,b,n⟩) k:=by
 intro B G D H gG code holes g ob S hg hl hh
 have hGB:=S.gB;have hDB:=S.dB;have hHB:=S.hB
 have hGD:=S.gd;have hGH:=S.gh;have hDH:=S.dh
 refine hdM B [G,D,H] Tryz.func152 rfl [] XQ S.top fun b₀ β0 s0 w0=>?_
 have n1:∀k,(G=B+k)=False:=fun k=>by simp;omega
 have n2:∀k,(D=B+k)=False:=fun k=>by simp;omega
 have n3:∀k,(H=B+k)=False:=fun k=>by simp;omega
 have ho':=S.oG
 unfold aU.cells at ho'
 rw[hP.fn] at ho'
 have e0:Emit.tg fs P f dp ⟨9,a,b,n⟩=(am (Emit.jM P f dp 1 1) (ao 19 1 f a)):=by simp[Emit.tg]
 rw[e0] at hl hh ⊢
 simp only[am,aj,ao,Emit.jM,Emit.kZ,j4,j6,j7] at hl hh
 simp only[go_sem,bb]
 obtain⟨gI,hgI⟩:∃x,nxC 253 (g (B+3))=x:=⟨_,rfl⟩
 have S0:dD (B+14) G D H k code holes (upd g (B+3) gI) (upd ob (B+3) (some [.d (.int .i64 9),.d (.int .i64 a),.d (.int .i64 b),.d (.int .u32 n)])):=(S.up a6).upd a6 a6 a6 a6 _ _
 have K0:bV B G D H g ob (upd g (B+3) gI) (upd ob (B+3) (some [.d (.int .i64 9),.d (.int .i64 a),.d (.int .i64 b),.d (.int .u32 n)])):=⟨fun i hi _ _=>nu,fun i hi _ _ _=>nu⟩
 have hg0:upd g (B+3) gI G=gG:=by simp only[upd];rw[if_neg a6];exact hg
 rw[hgI]
 refine aM aa rfl (jA hP 1 1 a8) (B+14) G D H gG _ _ X1 hg0 S0 X2 X6 ?_
 intro r g1 ob1 S1 K1
 have hg1:g1 G=gG:=(K1.gen G a6 S.gd S.gh).trans hg0
 have p3_1:ob1 (B+3)=some [.d (.int .i64 9),.d (.int .i64 a),.d (.int .i64 b),.d (.int .u32 n)]:=(K1.fr (B+3) a6 a6 a6 a6).trans XS
 have g3_1:g1 (B+3)=gI:=(K1.gen (B+3) a6 a6 a6).trans XS
 simp only[go_sem,p3_1,g3_1]
 refine aJ b9 ?_
 have ho1:=S1.oG
 unfold aU.cells at ho1
 rw[hP.fn] at ho1
 simp only[go_sem,ho1,hg1,p3_1,g3_1]
 refine aM aa rfl (yV 19 1 f a) (B+14) G D H gG _ _ X9 hg1 S1 Ya Yb ?_
 exact Vd
theorem IA (hP:lj k fs P f dp) (a b n:Int) {c:Nat}{y:Src.CFn} (hc:a=(c:Int)) (hy:fs[c]? = some y):bZ 153 [.agg ((bb ⟨10,a,b,n⟩).map .d)] (Emit.tg fs P f dp ⟨10,a,b,n⟩) k:=by
 intro B G D H gG code holes g ob S hg hl hh
 have hGB:=S.gB;have hDB:=S.dB;have hHB:=S.hB
 have hGD:=S.gd;have hGH:=S.gh;have hDH:=S.dh
 refine hdM B [G,D,H] Tryz.func153 rfl [] XQ S.top fun b₀ β0 s0 w0=>?_
 have n1:∀k,(G=B+k)=False:=fun k=>by simp;omega
 have n2:∀k,(D=B+k)=False:=fun k=>by simp;omega
 have n3:∀k,(H=B+k)=False:=fun k=>by simp;omega
 have ho':=S.oG
 unfold aU.cells at ho'
 rw[hP.fn] at ho'
 have e0:Emit.tg fs P f dp ⟨10,a,b,n⟩=(Emit.Aa fs P f dp a):=by simp[Emit.tg]
 rw[e0] at hl hh ⊢
 simp only[go_sem,bb]
 obtain⟨gI,hgI⟩:∃x,nxC 253 (g (B+3))=x:=⟨_,rfl⟩
 have S0:dD (B+7) G D H k code holes (upd g (B+3) gI) (upd ob (B+3) (some [.d (.int .i64 10),.d (.int .i64 a),.d (.int .i64 b),.d (.int .u32 n)])):=(S.up a6).upd a6 a6 a6 a6 _ _
 have K0:bV B G D H g ob (upd g (B+3) gI) (upd ob (B+3) (some [.d (.int .i64 10),.d (.int .i64 a),.d (.int .i64 b),.d (.int .u32 n)])):=⟨fun i hi _ _=>nu,fun i hi _ _ _=>nu⟩
 have hg0:upd g (B+3) gI G=gG:=by simp only[upd];rw[if_neg a6];exact hg
 rw[hgI]
 refine aM aa rfl (Mp hP ⟨10,a,b,n⟩ hc hy) (B+7) G D H gG _ _ X1 hg0 S0 X2 X6 ?_
 exact VZ
theorem IB (hP:lj k fs P f dp) (a b n:Int):bZ 155 [.agg ((bb ⟨11,a,b,n⟩).map .d)] (Emit.tg fs P f dp ⟨11,a,b,n⟩) k:=by
 intro B G D H gG code holes g ob S hg hl hh
 have hGB:=S.gB;have hDB:=S.dB;have hHB:=S.hB
 have hGD:=S.gd;have hGH:=S.gh;have hDH:=S.dh
 refine hdM B [G,D,H] Tryz.func155 rfl [] XQ S.top fun b₀ β0 s0 w0=>?_
 have n1:∀k,(G=B+k)=False:=fun k=>by simp;omega
 have n2:∀k,(D=B+k)=False:=fun k=>by simp;omega
 have n3:∀k,(H=B+k)=False:=fun k=>by simp;omega
 have ho':=S.oG
 unfold aU.cells at ho'
 rw[hP.fn] at ho'
 have e0:Emit.tg fs P f dp ⟨11,a,b,n⟩=(Emit.vl fs P f dp):=by simp[Emit.tg]
 rw[e0] at hl hh ⊢
 simp only[go_sem,bb]
 obtain⟨gI,hgI⟩:∃x,nxC 253 (g (B+3))=x:=⟨_,rfl⟩
 have S0:dD (B+6) G D H k code holes (upd g (B+3) gI) (upd ob (B+3) (some [.d (.int .i64 11),.d (.int .i64 a),.d (.int .i64 b),.d (.int .u32 n)])):=(S.up a6).upd a6 a6 a6 a6 _ _
 have K0:bV B G D H g ob (upd g (B+3) gI) (upd ob (B+3) (some [.d (.int .i64 11),.d (.int .i64 a),.d (.int .i64 b),.d (.int .u32 n)])):=⟨fun i hi _ _=>nu,fun i hi _ _ _=>nu⟩
 have hg0:upd g (B+3) gI G=gG:=by simp only[upd];rw[if_neg a6];exact hg
 rw[hgI]
 refine aM aa rfl (Iy hP) (B+6) G D H gG _ _ X1 hg0 S0 X2 X6 ?_
 exact VZ
theorem IC (hP:lj k fs P f dp) (a b n:Int):bZ 157 [.agg ((bb ⟨12,a,b,n⟩).map .d)] (Emit.tg fs P f dp ⟨12,a,b,n⟩) k:=by
 intro B G D H gG code holes g ob S hg hl hh
 have hGB:=S.gB;have hDB:=S.dB;have hHB:=S.hB
 have hGD:=S.gd;have hGH:=S.gh;have hDH:=S.dh
 refine hdM B [G,D,H] Tryz.func157 rfl [] XQ S.top fun b₀ β0 s0 w0=>?_
 have n1:∀k,(G=B+k)=False:=fun k=>by simp;omega
 have n2:∀k,(D=B+k)=False:=fun k=>by simp;omega
 have n3:∀k,(H=B+k)=False:=fun k=>by simp;omega
 have ho':=S.oG
 unfold aU.cells at ho'
 rw[hP.fn] at ho'
 have e0:Emit.tg fs P f dp ⟨12,a,b,n⟩=(am (aj 23 1 0 0) (Emit.kZ P f dp 1 0)):=by simp[Emit.tg]
 rw[e0] at hl hh ⊢
 simp only[am,aj,ao,Emit.jM,Emit.kZ,j4,j6,j7] at hl hh
 simp only[go_sem,bb]
 obtain⟨gI,hgI⟩:∃x,nxC 253 (g (B+3))=x:=⟨_,rfl⟩
 have S0:dD (B+8) G D H k code holes (upd g (B+3) gI) (upd ob (B+3) (some [.d (.int .i64 12),.d (.int .i64 a),.d (.int .i64 b),.d (.int .u32 n)])):=(S.up a6).upd a6 a6 a6 a6 _ _
 have K0:bV B G D H g ob (upd g (B+3) gI) (upd ob (B+3) (some [.d (.int .i64 12),.d (.int .i64 a),.d (.int .i64 b),.d (.int .u32 n)])):=⟨fun i hi _ _=>nu,fun i hi _ _ _=>nu⟩
 have hg0:upd g (B+3) gI G=gG:=by simp only[upd];rw[if_neg a6];exact hg
 rw[hgI]
 refine aM aa rfl (dE 23 1 0 0 k) (B+8) G D H gG _ _ X1 hg0 S0 X2 X6 ?_
 intro r g1 ob1 S1 K1
 have hg1:g1 G=gG:=(K1.gen G a6 S.gd S.gh).trans hg0
 have p3_1:ob1 (B+3)=some [.d (.int .i64 12),.d (.int .i64 a),.d (.int .i64 b),.d (.int .u32 n)]:=(K1.fr (B+3) a6 a6 a6 a6).trans XS
 have g3_1:g1 (B+3)=gI:=(K1.gen (B+3) a6 a6 a6).trans XS
 simp only[go_sem,p3_1,g3_1]
 refine aM aa rfl (ll hP 1 0 a8) (B+8) G D H gG _ _ X9 hg1 S1 Ya Yb ?_
 exact Vd
theorem ID (hP:lj k fs P f dp) (a b n:Int):bZ 158 [.agg ((bb ⟨13,a,b,n⟩).map .d)] (Emit.tg fs P f dp ⟨13,a,b,n⟩) k:=by
 intro B G D H gG code holes g ob S hg hl hh
 have hGB:=S.gB;have hDB:=S.dB;have hHB:=S.hB
 have hGD:=S.gd;have hGH:=S.gh;have hDH:=S.dh
 refine hdM B [G,D,H] Tryz.func158 rfl [] XQ S.top fun b₀ β0 s0 w0=>?_
 have n1:∀k,(G=B+k)=False:=fun k=>by simp;omega
 have n2:∀k,(D=B+k)=False:=fun k=>by simp;omega
 have n3:∀k,(H=B+k)=False:=fun k=>by simp;omega
 have ho':=S.oG
 unfold aU.cells at ho'
 rw[hP.fn] at ho'
 have e0:Emit.tg fs P f dp ⟨13,a,b,n⟩=(am (Emit.jM P f dp 1 1) (aj 24 1 0 0)):=by simp[Emit.tg]
 rw[e0] at hl hh ⊢
 simp only[am,aj,ao,Emit.jM,Emit.kZ,j4,j6,j7] at hl hh
 simp only[go_sem,bb]
 obtain⟨gI,hgI⟩:∃x,nxC 253 (g (B+3))=x:=⟨_,rfl⟩
 have S0:dD (B+8) G D H k code holes (upd g (B+3) gI) (upd ob (B+3) (some [.d (.int .i64 13),.d (.int .i64 a),.d (.int .i64 b),.d (.int .u32 n)])):=(S.up a6).upd a6 a6 a6 a6 _ _
 have K0:bV B G D H g ob (upd g (B+3) gI) (upd ob (B+3) (some [.d (.int .i64 13),.d (.int .i64 a),.d (.int .i64 b),.d (.int .u32 n)])):=⟨fun i hi _ _=>nu,fun i hi _ _ _=>nu⟩
 have hg0:upd g (B+3) gI G=gG:=by simp only[upd];rw[if_neg a6];exact hg
 rw[hgI]
 refine aM aa rfl (jA hP 1 1 a8) (B+8) G D H gG _ _ X1 hg0 S0 X2 X6 ?_
 intro r g1 ob1 S1 K1
 have hg1:g1 G=gG:=(K1.gen G a6 S.gd S.gh).trans hg0
 have p3_1:ob1 (B+3)=some [.d (.int .i64 13),.d (.int .i64 a),.d (.int .i64 b),.d (.int .u32 n)]:=(K1.fr (B+3) a6 a6 a6 a6).trans XS
 have g3_1:g1 (B+3)=gI:=(K1.gen (B+3) a6 a6 a6).trans XS
 simp only[go_sem,p3_1,g3_1]
 refine aM aa rfl (dE 24 1 0 0 k) (B+8) G D H gG _ _ X9 hg1 S1 Ya Yb ?_
 exact Vd
end
section
def ET:List C:=[.d (.int .i64 1),.d (.fn 140),.d (.int .i64 2),.d (.fn 143),.d (.int .i64 3),.d (.fn 144),.d (.int .i64 4),.d (.fn 146),.d (.int .i64 5),.d (.fn 147),.d (.int .i64 6),.d (.fn 148),.d (.int .i64 7),.d (.fn 149),.d (.int .i64 8),.d (.fn 150),.d (.int .i64 9),.d (.fn 152),.d (.int .i64 10),.d (.fn 153),.d (.int .i64 11),.d (.fn 155),.d (.int .i64 12),.d (.fn 157),.d (.int .i64 13),.d (.fn 158)]
theorem yW {g:Nat→Nat}{ob:Obs} (B:Nat) :
  cB Tryz.prog 99 [] g ob (fun r g' ob'=>r=.one (.mp (B+1) (g' (B+1)) 3)∧ob' (B+1)=some ET∧∀i,i<B∨B+3≤i→g' i=g i∧ob' i=ob i) (fun _ _ _=>False):=by
 refine hdX B Tryz.func99 rfl [.tmp 0] fun b₀ β0 s0 w0=>?_
 have km:∀a b:Int,iV (.int .i64 a) (.int .i64 b)=decide (a=b):=fun a b=>by simp[iV]
 simp only[go_sem]
 iterate 13 (refine vb aa aB rfl ?_;simp only[go_sem,mset,km,C4,L8,UY,B8])
 refine⟨_,ab.refl _,?_⟩
 simp only[go_sem]
 exact⟨rfl,rfl,fun i hi=>⟨nu,nu⟩⟩
structure AH (fs:List Src.CFn) (x:Ins):Prop where
 op:1≤x.op∧x.op≤13
 c:x.op=10→∃(c:Nat) (y:Src.CFn),x.a=(c:Int)∧fs[c]? = some y
variable {k:aU}{fs:List Src.CFn}{P:Emit.Plan}
theorem Rt{f:Nat}{dp:Int} (hP:lj k fs P f dp) {x:Ins} (h:AH fs x):∃fn,mget ET (.int .i64 x.op)=some (.d (.fn fn))∧bZ fn [.agg ((bb x).map .d)] (Emit.tg fs P f dp x) k:=by
 obtain⟨⟨h1,h2⟩,hc⟩:=h
 obtain⟨op,a,b,n⟩:=x
 simp only at h1 h2 hc
 have:op=1∨op=2∨op=3∨op=4∨op=5∨op=6∨op=7∨op=8∨op=9∨op=10∨op=11∨op=12∨op=13:=a6
 rcases this with rfl|rfl|rfl|rfl|rfl|rfl|rfl|rfl|rfl|rfl|rfl|rfl|rfl
 ·exact⟨140,rfl,Mq hP a b n⟩
 ·exact⟨143,rfl,Mr hP a b n⟩
 ·exact⟨144,rfl,Ms hP a b n⟩
 ·exact⟨146,rfl,Mt hP a b n⟩
 ·exact⟨147,rfl,Mu hP a b n⟩
 ·exact⟨148,rfl,Mv hP a b n⟩
 ·exact⟨149,rfl,Mw hP a b n⟩
 ·exact⟨150,rfl,Mx hP a b n⟩
 ·exact⟨152,rfl,My hP a b n⟩
 ·obtain⟨c,y,e1,e2⟩:=hc rfl
  exact⟨153,rfl,IA hP a b n e1 e2⟩
 ·exact⟨155,rfl,IB hP a b n⟩
 ·exact⟨157,rfl,IC hP a b n⟩
 ·exact⟨158,rfl,ID hP a b n⟩
section
variable {b₀:Bs}{rd:Option Nat}{Φ:St→Am.Loc→List Deferred→World→Prop}
theorem IE {Ψ:fj}{B0:Nat} (hΦ:aQ b₀ Φ) {o:Oper}{s:St}{K:St→Prop}{kb:Box K}{t:Nat}{f:FuncId}{args:Array Operand}{tys:Array TypeId} (ho:o.op=.call ⟨.value (.tmp t),args,tys⟩) (hf:s.f t=.one (.d (.fn f))) {xs:List AV}{w:Nat→Wr} (hw:bZ f xs w k) (Bc G D H gG:Nat) (code:List fY) (holes:List je)
  (hx:args.toList.map s.ev=.one (.ptr G gG 0)::xs) (hg:s.gen G=gG) (S:dD Bc G D H k code holes s.gen s.obj) (hl:code.length+(w code.length).code.length≤100000000) (hhl:holes.length+(w code.length).holes.length≤100000000)
  (hk:∀r g' ob',dD Bc G D H k (code++(w code.length).code) (holes++(w code.length).holes) g' ob'→bV Bc G D H s.gen s.obj g' ob'→K (St.put ⟨s.f,g',ob'⟩ o.dst r)):aR (spF Tryz.prog rd b₀ Φ B0 Ψ) o s kb:=by
 refine yx (R:=fun _ g' ob'=>dD Bc G D H k (code++(w code.length).code) (holes++(w code.length).holes) g' ob'∧bV Bc G D H s.gen s.obj g' ob') (Ψ0:=fun _ _ _=>False) hΦ ho hf Y6 (fun _ _ _ h=>h.elim) ?_
 rintro r g' ob' ⟨h1,h2⟩
 exact hk r g' ob' h1 h2
end
def aU.at (k:aU) (f:Nat) (c:C):aU:={ k with d3:=.d (.int .i64 (f:Nat)),d4:=c }
structure xd (k:aU) (fs:List Src.CFn) (P:Emit.Plan) (E Pl gE gP:Nat):Prop where
 s:k.c1=.d (.sl (fs.map sfD))
 ds:k.c2=.d (.sl (P.depths.map fun o=>[ksD o]))
 bk:k.c3=.d (ksD P.back)
 b:k.c4=.d (ksD P.base)
 e:k.d0=.osl E gE 1 0 fs.length
 p:k.d1=.osl Pl gP 1 0 fs.length
 dl:P.depths.length=fs.length
 bl:P.back.length=fs.length
 l:P.base.length=fs.length
 fz:fs.length≤1000000
 bz:∀x∈P.base,0≤x∧x≤1000000000000000
 dz:∀ds∈P.depths,∀d∈ds,-1≤d∧d≤1000000000
 pz:∀x∈fs,0≤x.params∧x.params≤1000000∧0≤x.first∧x.first≤1000000000000
 sz:∀x∈fs,x.params≤x.slots∧x.slots≤1000000
theorem xd.at {k:aU}{fs:List Src.CFn}{P:Emit.Plan}{E Pl gE gP:Nat} (h:xd k fs P E Pl gE gP) (f:Nat) (c:C):xd (k.at f c) fs P E Pl gE gP:=⟨h.s,h.ds,h.bk,h.b,h.e,h.p,h.dl,h.bl,h.l,h.fz,h.bz,h.dz,h.pz,h.sz⟩
theorem xd.toP{E Pl gE gP:Nat} (h:xd k fs P E Pl gE gP) {f:Nat}{dp:Int} (hf:f<fs.length) (hd:-1≤dp∧dp≤1000000000):lj (k.at f (.d (.int .i64 dp))) fs P f dp:=
 ⟨h.s,h.ds,h.bk,h.b,rfl,rfl,hf,h.dl,h.bl,h.l,h.fz,h.bz,hd,fun x hx=>by have:=h.pz x hx;omega⟩
end
section
structure BW (B G D H E Pl gE gP M gM:Nat) (k:aU) (fs:List Src.CFn) (P:Emit.Plan) (code:List fY) (holes:List je) (ent:List Int) (plc:List C) (g:Nat→Nat) (ob:Obs):Prop where
 S:dD B G D H k code holes g ob
 q:xd k fs P E Pl gE gP
 gE:g E=gE
 gP:g Pl=gP
 gM:g M=gM
 oE:ob E=some (icells ent)
 oP:ob Pl=some plc
 oM:ob M=some ET
 eB:E<B
 pB:Pl<B
 mB:M<B
 el:ent.length=fs.length
 pl:plc.length=fs.length
 d:[G,D,H,E,Pl,M].Nodup
def Oth (B G D H E Pl:Nat) (g:Nat→Nat) (ob:Obs) (g':Nat→Nat) (ob':Obs):Prop:=∀i,i<B→i≠G→i≠D→i≠H→i≠E→i≠Pl→g' i=g i∧ob' i=ob i
variable {code:List fY}{holes:List je}
theorem dD.re {B G D H:Nat}{k k':aU}{g g':Nat→Nat}{ob ob':Obs} (S:dD B G D H k code holes g ob) (ht:∀i,B≤i→ob' i=none) (h1:g' D=g D) (h2:g' H=g H) (h3:ob' G=some (k'.cells D (g D) code.length H (g H) holes.length)) (h4:ob' D=ob D) (h5:ob' H=ob H) (hlow:∀x∈k'.all,lI B x):dD B G D H k' code holes g' ob':=
 ⟨ht,S.gB,S.dB,S.hB,S.gd,S.gh,S.dh,by rw[h1,h2];exact h3,by rw[h4];exact S.oD,by rw[h5];exact S.oH,hlow⟩
theorem aU.at_low {B:Nat}{k:aU}{f:Nat}{c c':C} (h:∀x∈(k.at f c).all,lI B x) (hc:lI B c'):∀x∈(k.at f c').all,lI B x:=fun x hx=>by
 simp only[aU.all,aU.at,x9,A1,E7] at hx h
 rcases hx with e|e|e|e|e|e|e|e|e|e
 all_goals first|(subst e;trivial)|(subst e;exact hc)|exact h x (by simp[e])
theorem Ru {S:Sp}{T:Nat→TI}{id:Nat}{ops:Array Oper}{s:St}{Q:Exit→St→Prop}{q:Box Q} (I:St→Prop) (h0:I s) (h:∀f g ob,I ⟨f,g,ob⟩→iB S T id ops ⟨f,g,ob⟩ q):iB S T id ops s q:=h s.f s.gen s.obj h0
def Rv (B G D H E Pl gE gP M gM gG:Nat) (k:aU) (fs:List Src.CFn) (P:Emit.Plan) (code:List fY) (holes:List je) (ent:List Int) (plc:List C) (g:Nat→Nat) (ob:Obs) (f:Nat) (fx:Src.CFn) (st:St):Prop:=
 st.f 0=.one (.ptr G gG 0)∧st.f 1=iv .i64 f∧st.f 2=.one (.mp M gM 3)∧st.f 6=.one (.ptr (B+6) (st.gen (B+6)) 0)∧st.obj (B+6)=some [.d (.int .i64 fx.params),.d (.int .i64 fx.slots),.d (.int .i64 fx.first),.d (.bool fx.word),.d (qB (codeOf fx.word fx.body))]∧
 dD (B+122) G D H (k.at f k.d4) (code++(Emit.DD fs P f code.length).code) (holes++(Emit.DD fs P f code.length).holes) st.gen st.obj∧st.obj E=some (icells (ent.set f code.length))∧st.gen E=gE∧st.obj Pl=some plc∧st.gen Pl=gP∧st.gen G=gG∧Oth B G D H E Pl g ob st.gen st.obj
theorem yX {B G D H E Pl gE gP M gM gG:Nat}{k:aU}{fs:List Src.CFn}{P:Emit.Plan}{ent:List Int}{plc:List C}{g:Nat→Nat}{ob:Obs} (F:BW B G D H E Pl gE gP M gM k fs P code holes ent plc g ob) (hg:g G=gG)
  {f:Nat}{fx:Src.CFn}{ds:List Int} (hf:fs[f]? = some fx) (hds:P.depths[f]? = some ds) {cd:Lower.Code} (hcd:codeOf fx.word fx.body=cd) (hdl:ds.length=cd.length) (hz:cd.length≤100000000) (hok:∀x∈cd,AH fs x.1)
  (hl:∀j,j≤cd.length→code.length+(Emit.qf fs P f cd ds j code.length).code.length≤100000000) (hh:∀j,j≤cd.length→holes.length+(Emit.qf fs P f cd ds j code.length).holes.length≤100000000) :
  cB Tryz.prog 101 [.one (.ptr G gG 0),iv .i64 f,.one (.mp M gM 3)] g ob (fun _ g' ob'=>(∃c4,BW (B+122) G D H E Pl gE gP M gM (k.at f c4) fs P (code++(Emit.qf fs P f cd ds cd.length code.length).code) (holes++(Emit.qf fs P f cd ds cd.length code.length).holes) (ent.set f code.length) (plc.set f (.osl (B+71) (g' (B+71)) 1 0 cd.length)) g' ob')∧
   ob' (B+71)=some (icells (Emit.placesOf fs P f cd ds code.length))∧g' G=gG∧Oth B G D H E Pl g ob g' ob') (fun _ _ _=>False):=by
 have hfl:f<fs.length:=(l4.1 hf).1
 have hQ:=F.q
 have hGB:=F.S.gB;have hDB:=F.S.dB;have hHB:=F.S.hB;have hEB:=F.eB;have hPB:=F.pB;have hMB:=F.mB
 have hnd:=F.d
 simp only[UU,x9,A1,E7,not_or,N1,UZ,L1] at hnd
 obtain⟨⟨hGD,hGH,hGE,hGP,hGM⟩,⟨hDH,hDE,hDP,hDM⟩,⟨hHE,hHP,hHM⟩,⟨hEP,hEM⟩,hPM⟩:=hnd
 refine hdX B Tryz.func101 rfl [] fun b₀ β0 s0 w0=>?_
 have ho:=F.S.oG
 unfold aU.cells at ho
 rw[hQ.s,hQ.ds,hQ.bk,hQ.b,hQ.e,hQ.p] at ho
 have hfz:=hQ.fz
 have hf0:(0:Int)≤(f:Int):=a6
 have hf1:(f:Int)<(fs.length:Int):=a6
 have hel:=F.el
 have hpl:=F.pl
 have n1:∀k,(G=B+k)=False:=fun k=>by simp;omega
 have n2:∀k,(E=B+k)=False:=fun k=>by simp;omega
 have n3:∀k,(Pl=B+k)=False:=fun k=>by simp;omega
 have n4:∀k,(D=B+k)=False:=fun k=>by simp;omega
 have n5:∀k,(H=B+k)=False:=fun k=>by simp;omega
 have n6:(E=G)=False:=by simp[z7 hGE]
 have n7:(Pl=G)=False:=by simp[z7 hGP]
 have n8:(G=E)=False:=by simp[hGE]
 have hwl:IntKind.i64.wrap ((fs.length:Int)-1)=(fs.length:Int)-1:=by rw[wrap_i64] <;> omega
 have gE0:=F.gE
 have gP0:=F.gP
 have oE0:=F.oE
 simp only[go_sem,ho,hg,j5,hf0,hf1,hfl,hf,sfD,n1]
 refine aJ b9 ?_
 have m1:∀k,(B+k=G)=False:=fun k=>by simp;omega
 have m2:∀k,(B+k=E)=False:=fun k=>by simp;omega
 have m3:∀k,(B+k=Pl)=False:=fun k=>by simp;omega
 have n9:(D=G)=False:=by simp[z7 hGD]
 have n10:(D=E)=False:=by simp[hDE]
 have n11:(H=G)=False:=by simp[z7 hGH]
 have n12:(H=E)=False:=by simp[hHE]
 have n13:(Pl=E)=False:=by simp[z7 hEP]
 have n14:(E=Pl)=False:=by simp[hEP]
 have n15:(G=Pl)=False:=by simp[hGP]
 have hsd:(some (dZ code)).isSome=true:=rfl
 have hbl:=hQ.bl
 obtain⟨bf,hbf⟩:=getq (show f<P.back.length by omega)
 have hb1:(f:Int)<(P.back.length:Int):=a6
 have hb2:f<P.back.length:=a6
 have hmem:=l6 hf
 obtain⟨hp0,hp1,hr0,hr1⟩:=hQ.pz fx hmem
 obtain⟨hs0,hs1⟩:=hQ.sz fx hmem
 have hw1:IntKind.i64.wrap (fx.first+fx.params)=fx.first+fx.params:=by rw[wrap_i64] <;> omega
 have hw2:IntKind.i64.wrap (fx.first+fx.slots)=fx.first+fx.slots:=by rw[wrap_i64] <;> omega
 have hl0:=hl 0 (K9 _)
 have hh0:=hh 0 (K9 _)
 simp only[Emit.qf] at hl0 hh0
 have S0:∀(g':Nat→Nat) (ob':Obs),(∀i,B+122≤i→ob' i=none)→g' D=g D→g' H=g H→ob' D=ob D→ob' H=ob H→ob' G=some [k.c0,k.c1,k.c2,k.c3,k.c4,k.c5,.osl D (g D) 4 0 code.length,k.d0,k.d1,.osl H (g H) 3 0 holes.length,.d (.int .i64 (f:Nat)),k.d4]→dD (B+122) G D H (k.at f k.d4) code holes g' ob':=fun g' ob' h1 h2 h3 h4 h5 h6=>by
  have SU:=F.S.up (B':=B+122) a6
  refine⟨h1,SU.gB,SU.dB,SU.hB,SU.gd,SU.gh,SU.dh,?_,by rw[h4];exact SU.oD,by rw[h5];exact SU.oH,fun x hx=>?_⟩
  ·rw[h6,h2,h3];rfl
  ·have hall:=SU.low
   simp only[aU.all,aU.at,x9,A1,E7] at hx hall
   rcases hx with e|e|e|e|e|e|e|e|e|e
   all_goals first|(subst e;trivial)|exact hall x (by simp[e])
 by_cases hlast:(f:Int)=(fs.length:Int)-1
 case' pos=>
  have e0:Emit.DD fs P f=eu:=if_pos a6
  simp only[go_sem,ho,hg,j5,hf0,hf1,hfl,hf,sfD,n1,n2,n4,n6,n8,n9,n10,n11,n12,gE0,oE0,hel,bN,F.S.oD,hwl,s5 hlast]
  refine⟨a6,?_⟩
  refine Ru (Rv B G D H E Pl gE gP M gM gG k fs P code holes ent plc g ob f fx) ⟨by simp only[go_sem],by simp only[go_sem],by simp only[go_sem],by simp only[go_sem],?_,?_,?_,?_,?_,?_,?_,fun i hi h1 h2 h3 h4 h5=>⟨?_,?_⟩⟩ ?_
  ·simp only;(try simp only[upd]);(repeat rw[if_neg (by omega)])
   rw[if_pos trivial]
  ·rw[e0]
   simp only[eu,l8]
   refine S0 _ _ (fun i hi=>?_) ?_ ?_ ?_ ?_ ?_
   ·exact nt (F.S.top i a6)
   ·exact Vc
   ·exact Vc
   ·exact Vc
   ·exact Vc
   ·simp only[upd];rw[if_neg hGE,if_pos trivial,hQ.s,hQ.ds,hQ.bk,hQ.b,hQ.e,hQ.p]
  ·simp only[upd];rw[if_pos trivial,fL]
  ·exact nt (gE0)
  ·exact nt (F.oP)
  ·exact nt (gP0)
  ·exact nt (hg)
  ·exact Vc
  ·exact Vc
 case' neg=>
  have e0:Emit.DD fs P f=am (aj 17 14 0 bf) (Emit.vn (fx.first+fx.params) (fx.first+fx.slots)):=by
   unfold Emit.DD
   rw[if_neg a6,hf,hbf]
   rfl
  simp only[go_sem,ho,hg,j5,hf0,hf1,hfl,hf,sfD,n1,n2,n4,n6,n8,n9,n10,n11,n12,gE0,oE0,hel,bN,F.S.oD,hwl,hlast,hbf,hb1,hb2,ksD]
  refine⟨a6,?_⟩
  rw[e0] at hl0 hh0
  simp only[am,aj,j4,j6,j7,C5] at hl0 hh0
  refine aM aa rfl (dE 17 14 0 bf (k.at f k.d4)) (B+122) G D H gG code holes XP ?_ (S0 _ _ (fun i hi=>?_) ?_ ?_ ?_ ?_ ?_) Zf (by simp only[aj,j7];omega) ?_
  ·exact nt (hg)
  ·exact nt (F.S.top i a6)
  ·exact Vc
  ·exact Vc
  ·exact Vc
  ·exact Vc
  ·simp only[upd];rw[if_neg hGE,if_pos trivial,hQ.s,hQ.ds,hQ.bk,hQ.b,hQ.e,hQ.p];rfl
  intro r1 g1 ob1 S1 K1
  have hg1:g1 G=gG:=(K1.gen G a6 hGD hGH).trans (nt (hg))
  have p6:ob1 (B+6)=some [.d (.int .i64 fx.params),.d (.int .i64 fx.slots),.d (.int .i64 fx.first),.d (.bool fx.word),.d (qB (codeOf fx.word fx.body))]:=(K1.fr (B+6) Y1 Y1 Y1 Y1).trans (by (try simp only[upd]);(repeat rw[if_neg (by omega)]);rw[if_pos trivial])
  have g6:g1 (B+6)=nxC 159 (g (B+6)):=(K1.gen (B+6) a6 a6 a6).trans XS
  simp only[go_sem,p6,g6,hw1,hw2]
  refine aM aa rfl (Iz (fx.first+fx.params) (fx.first+fx.slots) Y1 Y1 Y1) (B+122) G D H gG _ _ XP hg1 S1 (by simp only[aj,j4,j6,j7,C5];omega) (by simp only[aj,j4,j6,j7,C5,l8];omega) ?_
  intro r2 g2 ob2 S2 K2
  have p62:=(K2.fr (B+6) a6 a6 a6 a6).trans p6
  have g62:=(K2.gen (B+6) a6 a6 a6).trans g6
  simp only[go_sem]
  refine Ru (Rv B G D H E Pl gE gP M gM gG k fs P code holes ent plc g ob f fx) ⟨by simp only[go_sem],by simp only[go_sem],by simp only[go_sem],by simp only[go_sem,g62],p62,?_,?_,?_,?_,?_,(K2.gen G a6 hGD hGH).trans hg1,fun i hi h1 h2 h3 h4 h5=>⟨?_,?_⟩⟩ ?_
  ·rw[e0]
   simp only[am,←r0]
   simp only[j4] at S2
   exact S2
  ·refine(K2.fr E a6 (z7 hGE) (z7 hDE) (z7 hHE)).trans ((K1.fr E a6 (z7 hGE) (z7 hDE) (z7 hHE)).trans ?_)
   simp only[upd];rw[if_pos trivial,fL]
  ·refine(K2.gen E a6 (z7 hDE) (z7 hHE)).trans ((K1.gen E a6 (z7 hDE) (z7 hHE)).trans ?_)
   exact nt (gE0)
  ·refine(K2.fr Pl a6 (z7 hGP) (z7 hDP) (z7 hHP)).trans ((K1.fr Pl a6 (z7 hGP) (z7 hDP) (z7 hHP)).trans ?_)
   exact nt (F.oP)
  ·refine(K2.gen Pl a6 (z7 hDP) (z7 hHP)).trans ((K1.gen Pl a6 (z7 hDP) (z7 hHP)).trans ?_)
   exact nt (gP0)
  ·refine(K2.gen i a6 h2 h3).trans ((K1.gen i a6 h2 h3).trans ?_)
   exact Vc
  ·refine(K2.fr i a6 h1 h2 h3).trans ((K1.fr i a6 h1 h2 h3).trans ?_)
   exact Vc
 all_goals
  clear ho S0
  rintro fa g1 ob1 ⟨q0,q1,q2,q6,o6,S1,oE1,gE1,oP1,gP1,hg1,O1⟩
  simp only at q0 q1 q2 q6 o6 S1 oE1 gE1 oP1 gP1 hg1 O1
  have ho:=S1.oG
  unfold aU.cells at ho
  rw[(hQ.at f k.d4).s,(hQ.at f k.d4).ds,(hQ.at f k.d4).bk,(hQ.at f k.d4).b,(hQ.at f k.d4).e,(hQ.at f k.d4).p] at ho
  skip
  refine fP aB mixed aa [B+71,Pl] [([0],[0],[],false),([63],[0],[],false),([64],[0],[],false),([65],[0],[],false),([1],[0],[],false),([6],[],[],false),([68],[],[],false),([69],[],[],false),([70],[],[0],false),([66,67],[],[],false),([72,71],[],[],true)] 2 rfl b9 rfl XQ ?_
  simp only[go_sem]
  iterate 5 (apply aI;(case hg=>first|exact x6|exact⟨_,rfl,by decide,rfl⟩);(case h1=>intro fa ga oa K' hK;simp only[go_sem,q0,q1,q2,q6,hg1,n1,n3,n7,ho,j5] at hK ⊢;exact hK))
  iterate 3 (apply aI;(case hg=>first|exact x6|exact⟨_,rfl,by decide,rfl⟩);(case h1=>intro fa ga oa K' hK;simp only[go_sem,q0,q1,q2,q6,o6,n1,n3,n7,ho,hcd,j5] at hK ⊢;exact hK))
  refine dy (a:=0) (v:=.one (.osl (B+71) (nxC 4 (g1 (B+71))) 1 0 cd.length)) (x:=nxC 4 (g1 (B+71))) (y:=some (icells (List.replicate cd.length 0))) x6 (fun fa ga oa K' hK=>?_) ?_
  ·simp only[go_sem,aC,n1,n3,n7] at hK ⊢
   refine⟨l0 _,a6,a6,?_⟩
   rw[show (List.replicate cd.length [C.d (.int .i64 0)]).flatten=icells (List.replicate cd.length 0) by rw[mv,icells,P5]]
   exact hK
  (apply aI;(case hg=>first|exact x6|exact⟨_,rfl,by decide,rfl⟩);(case h1=>intro fa ga oa K' hK;simp only[go_sem,q0,q1,q2,q6,oP1,gP1,n1,n3,n7,hf0,hf1,hfl,hpl] at hK ⊢;exact hK))
  refine fQ x6 ?_
  intro K' hK'
  simp only[go_sem,n1,n3,n7,oP1,gP1,hpl]
  refine⟨a6,hK' _ ?_⟩
  clear hK' K'
  simp only[go_sem,q0,q1,q2,q6,o6,n3,m3,hcd,j5]
  have hrep0:List.replicate cd.length (0:Int)=(List.range 0).map (fun j=>((code.length+(Emit.qf fs P f cd ds j code.length).code.length:Nat):Int))++List.replicate (cd.length-0) 0:=a7
  refine ai (fun m st=>∃(j:Nat) (c4:C),m+j=cd.length∧st.f 0=.one (.ptr G gG 0)∧st.f 1=iv .i64 f∧st.f 2=.one (.mp M gM 3)∧st.f 74=.one (.d (qB cd))∧st.f 75=iv .i64 cd.length∧st.f 76=iv .i64 j∧
   dD (B+122) G D H (k.at f c4) (code++(Emit.qf fs P f cd ds j code.length).code) (holes++(Emit.qf fs P f cd ds j code.length).holes) st.gen st.obj∧st.gen G=gG∧st.obj E=some (icells (ent.set f code.length))∧st.gen E=gE∧st.obj Pl=some (plc.set f (.osl (B+71) (st.gen (B+71)) 1 0 cd.length))∧st.gen Pl=gP∧
   st.obj (B+71)=some (icells ((List.range j).map (fun j=>((code.length+(Emit.qf fs P f cd ds j code.length).code.length:Nat):Int))++List.replicate (cd.length-j) 0))∧Oth B G D H E Pl g ob st.gen st.obj) cd.length ?_ ?_
  ·refine⟨0,k.d4,rfl,?_⟩
   simp only[go_sem,q0,q1,q2,n1,n2,n3,m1,m2,m3,n14,hg1,oE1,gE1,gP1]
   refine⟨S1.to (fun i hi=>nt (S1.top i hi)) ?_ ?_ ?_ ?_ ?_,?_,fun i hi h1 h2 h3 h4 h5=>⟨?_,?_⟩⟩
   ·exact Vc
   ·exact Vc
   ·exact Vc
   ·exact Vc
   ·exact Vc
   ·rfl
   ·exact nt ((O1 i hi h1 h2 h3 h4 h5).1)
   ·exact nt ((O1 i hi h1 h2 h3 h4 h5).2)
  clear ho hrep0 S1 oE1 gE1 oP1 gP1 hg1 O1 q0 q1 q2 q6 o6 gE0 gP0 oE0
  clear fa g1 ob1
  rintro m fa g1 ob1 ⟨j,c4,hm,q0,q1,q2,q74,q75,q76,S1,hg1,oE1,gE1,oP1,gP1,oL1,O1⟩
  simp only at q0 q1 q2 q74 q75 q76 S1 hg1 oE1 gE1 oP1 gP1 oL1 O1
  by_cases hlt:j<cd.length
  case neg=>
   have hji:¬(j:Int)<(cd.length:Int):=a6
   obtain rfl:j=cd.length:=a6
   simp only[go_sem,q75,q76,hji]
   refine⟨_,ab.refl _,?_⟩
   simp only[go_sem]
   rw[L9,M5,l8] at oL1
   exact⟨⟨c4,⟨S1,hQ.at f c4,gE1,gP1,((O1 M hMB (z7 hGM) (z7 hDM) (z7 hHM) (z7 hEM) (z7 hPM)).1).trans F.gM,oE1,oP1,((O1 M hMB (z7 hGM) (z7 hDM) (z7 hHM) (z7 hEM) (z7 hPM)).2).trans F.oM,a6,a6,a6,by rw[C6];exact hel,by rw[C6];exact hpl,F.d⟩⟩,oL1,hg1,O1⟩
  have hji:(j:Int)<(cd.length:Int):=a6
  have hj0:(0:Int)≤(j:Int):=a6
  obtain⟨⟨x,dx⟩,hx⟩:∃y,cd[j]? = some y:=⟨_,w9 hlt⟩
  obtain⟨d,hd⟩:=getq (show j<ds.length by omega)
  have hdz:=hQ.dz ds (l6 hds) d (l6 hd)
  have hdl2:f<P.depths.length:=by have:=hQ.dl;omega
  have hdl3:(f:Int)<(P.depths.length:Int):=by have:=hQ.dl;omega
  have hdl4:j<ds.length:=a6
  have hdl5:(j:Int)<(ds.length:Int):=a6
  have hwj:=ah (k:=j) a6
  have hinD:bb x=[.int .i64 x.op,.int .i64 x.a,.int .i64 x.b,.int .u32 x.n]:=rfl
  have ho:=S1.oG
  unfold aU.cells at ho
  rw[(hQ.at f c4).s,(hQ.at f c4).ds,(hQ.at f c4).bk,(hQ.at f c4).b,(hQ.at f c4).e,(hQ.at f c4).p] at ho
  have hpf:(plc.set f (.osl (B+71) (g1 (B+71)) 1 0 cd.length))[f]? = some (.osl (B+71) (g1 (B+71)) 1 0 cd.length):=by rw[D2,if_pos rfl,if_pos a6]
  simp only[go_sem,q0,q1,q2,q74,q75,q76,hji,hj0,hx,qB,j5,hinD]
  have hLl:((List.range j).map (fun j=>((code.length+(Emit.qf fs P f cd ds j code.length).code.length:Nat):Int))++List.replicate (cd.length-j) 0).length=cd.length:=by simp;omega
  obtain⟨L,hL⟩:∃L,(List.range j).map (fun j=>((code.length+(Emit.qf fs P f cd ds j code.length).code.length:Nat):Int))++List.replicate (cd.length-j) 0=L:=⟨_,rfl⟩
  rw[hL] at oL1 hLl
  have hsd:∀l,(some (dZ l)).isSome=true:=fun _=>rfl
  refine aJ b9 ?_
  obtain⟨gM1,oM1⟩:=O1 M hMB (z7 hGM) (z7 hDM) (z7 hHM) (z7 hEM) (z7 hPM)
  rw[F.gM] at gM1
  rw[F.oM] at oM1
  have nM1:∀k,(M=B+k)=False:=fun k=>by simp;omega
  have nM2:(M=G)=False:=by simp[z7 hGM]
  have hLs:L.set j ((code++(Emit.qf fs P f cd ds j code.length).code).length:Nat)=(List.range (j+1)).map (fun j=>((code.length+(Emit.qf fs P f cd ds j code.length).code.length:Nat):Int))++List.replicate (cd.length-(j+1)) 0:=by
   rw[←hL,I9 _ _ a7,j5,List.length_range,L9,R4,A3,r0]
   congr 1
   obtain⟨z,hz⟩:∃z,cd.length-j=z+1:=⟨cd.length-j-1,a6⟩
   rw[hz,show cd.length-(j+1)=z by omega,D4,G2,j4]
   rfl
  have hlow1:=aU.at_low (c':=.d (.int .i64 d)) S1.low trivial
  by_cases hd0:0≤d
  ·obtain⟨fn,hm1,hw⟩:=Rt (hQ.toP hfl hdz) (hok _ (l6 hx))
   simp only at hm1 hw
   have hU:Emit.qf fs P f cd ds (j+1)=am (Emit.qf fs P f cd ds j) (Emit.tg fs P f d x):=by
    rw[Emit.qf,hx,hd]
    simp only[hd0,A5]
   simp only[go_sem,q0,q1,q2,q74,q75,q76,ho,hg1,oP1,gP1,n1,n2,n3,n4,n5,m1,m2,m3,n7,n9,n11,n13,n14,n15,hpf,C6,hpl,hf0,hf1,hfl,oL1,bN,hLl,hj0,hji,hlt,S1.oD,hds,hd,hdl2,hdl3,hdl4,hdl5,ksD,j5,setAt,fL,s5 hd0,nM1,nM2,gM1,oM1,hm1,pW,y7]
   refine⟨a6,?_⟩
   refine IE aa rfl XP hw (B+122) G D H gG _ _ (by simp only[go_sem,hinD]) ?_ (dD.re S1 (fun i hi=>?_) ?_ ?_ ?_ ?_ ?_ hlow1) ?_ ?_ ?_
   ·exact nt (hg1)
   ·exact nt (S1.top i hi)
   ·exact Vc
   ·exact Vc
   ·exact Xy
   ·exact Vc
   ·exact Vc
   ·have:=hl (j+1) a6
    rw[hU] at this
    simp only[am,j4] at this ⊢
    omega
   ·have:=hh (j+1) a6
    rw[hU] at this
    simp only[am,j4] at this ⊢
    omega
   intro r2 g2 ob2 S2 K2
   have e71:g2 (B+71)=g1 (B+71):=(K2.gen (B+71) a6 a6 a6).trans (nu)
   simp only[go_sem,q76,hwj]
   refine ae (m-1) a6 ⟨j+1,.d (.int .i64 d),a6,?_⟩
   simp only[go_sem,q0,q1,q2,q74,q75,qB]
   refine⟨?_,(K2.gen G a6 hGD hGH).trans ?_,(K2.fr E a6 (z7 hGE) (z7 hDE) (z7 hHE)).trans ?_,(K2.gen E a6 (z7 hDE) (z7 hHE)).trans ?_,(K2.fr Pl a6 (z7 hGP) (z7 hDP) (z7 hHP)).trans ?_,(K2.gen Pl a6 (z7 hDP) (z7 hHP)).trans ?_,(K2.fr (B+71) a6 a6 a6 a6).trans ?_,fun i hi h1 h2 h3 h4 h5=>⟨(K2.gen i a6 h2 h3).trans ?_,(K2.fr i a6 h1 h2 h3).trans ?_⟩⟩
   ·rw[hU]
    simp only[am,←r0]
    simp only[j4] at S2
    exact S2
   ·exact nt (hg1)
   ·exact nt (oE1)
   ·exact nt (gE1)
   ·rw[e71];exact nt (oP1)
   ·exact nt (gP1)
   ·simp only[upd];rw[if_neg a6,if_pos trivial,hLs,R4]
   ·exact nt ((O1 i hi h1 h2 h3 h4 h5).1)
   ·exact nt ((O1 i hi h1 h2 h3 h4 h5).2)
  ·have hU:Emit.qf fs P f cd ds (j+1)=am (Emit.qf fs P f cd ds j) eu:=by
    rw[Emit.qf,hx,hd]
    simp only[hd0,A4]
   simp only[go_sem,q0,q1,q2,q74,q75,q76,ho,hg1,oP1,gP1,n1,n2,n3,n4,n5,m1,m2,m3,n7,n9,n11,n13,n14,n15,hpf,C6,hpl,hf0,hf1,hfl,oL1,bN,hLl,hj0,hji,hlt,S1.oD,hds,hd,hdl2,hdl3,hdl4,hdl5,ksD,j5,setAt,fL,hd0]
   refine⟨a6,?_⟩
   refine ae (m-1) a6 ⟨j+1,.d (.int .i64 d),a6,?_⟩
   simp only[go_sem,q0,q1,q2,q74,q75,qB,n1,n2,n3,m1,m2,m3,hg1,oE1,gE1,gP1,n6,n7,oP1,hwj]
   refine⟨?_,?_,fun i hi h1 h2 h3 h4 h5=>⟨?_,?_⟩⟩
   ·rw[hU]
    simp only[am,eu,l8]
    refine dD.re S1 (fun i hi=>?_) ?_ ?_ ?_ ?_ ?_ hlow1
    ·exact nt (S1.top i hi)
    ·exact Vc
    ·exact Vc
    ·exact Xy
    ·exact Vc
    ·exact Vc
   ·rw[hLs,R4]
   ·exact nt ((O1 i hi h1 h2 h3 h4 h5).1)
   ·exact nt ((O1 i hi h1 h2 h3 h4 h5).2)
end
end
section
open Go Go.Am Go.Lower
open Go.Emit (Wr aj ao am pj eu ip eM)
section
structure uh (fs:List Src.CFn) (P:Emit.Plan) (d:ip) (f:Nat):Prop where
 ok:∀x,fs[f]? = some x→∀i∈codeOf x.word x.body,AH fs i.1
 dl:∀x ds,fs[f]? = some x→P.depths[f]? = some ds→ds.length=(codeOf x.word x.body).length
 z:∀x,fs[f]? = some x→(codeOf x.word x.body).length≤100000000
 l:∀x ds,fs[f]? = some x→P.depths[f]? = some ds→∀j,j≤(codeOf x.word x.body).length→d.code.length+(Emit.qf fs P f (codeOf x.word x.body) ds j d.code.length).code.length≤100000000
 h:∀x ds,fs[f]? = some x→P.depths[f]? = some ds→∀j,j≤(codeOf x.word x.body).length→d.holes.length+(Emit.qf fs P f (codeOf x.word x.body) ds j d.code.length).holes.length≤100000000
structure pA (B0 B G D H E Pl gE gP M gM:Nat) (k:aU) (fs:List Src.CFn) (P:Emit.Plan) (d:ip) (was:List (Nat×Nat)) (g:Nat→Nat) (ob:Obs):Prop where
 F:∃plc,BW B G D H E Pl gE gP M gM k fs P d.code d.holes d.ent plc g ob∧∀f id,(f,id)∈was→∃l,d.pls[f]? = some l∧plc[f]? = some (.osl id (g id) 1 0 l.length)∧ob id=some (icells l)∧B0≤id∧id<B
 pl:d.pls.length=fs.length
variable {fs:List Src.CFn}{P:Emit.Plan}
theorem yY{d:ip}{f:Nat} (h:d.pls.length=fs.length):(eM fs P d f).pls.length=fs.length:=by
 unfold eM
 split
 ·simp only[C6];exact h
 ·exact h
theorem vF (fs:List Src.CFn) (P:Emit.Plan) (f:Nat) (cd:Lower.Code) (ds:List Int) (n:Nat):(Emit.placesOf fs P f cd ds n).length=cd.length:=by simp[Emit.placesOf]
theorem rX {B0 B G D H E Pl gE gP M gM gG:Nat}{k:aU}{d:ip}{was:List (Nat×Nat)}{g:Nat→Nat}{ob:Obs} (X:pA B0 B G D H E Pl gE gP M gM k fs P d was g ob) (hB0:B0≤B) (hMB:G<B0∧D<B0∧H<B0∧E<B0∧Pl<B0) (hg:g G=gG) {f:Nat} (hf:f<fs.length) (ok:uh fs P d f) (hw:∀x∈was,x.1≠f) :
  cB Tryz.prog 101 [.one (.ptr G gG 0),iv .i64 f,.one (.mp M gM 3)] g ob (fun _ g' ob'=>(∃c4,pA B0 (B+122) G D H E Pl gE gP M gM (k.at f c4) fs P (eM fs P d f) (was++[(f,B+71)]) g' ob')∧g' G=gG∧Oth B G D H E Pl g ob g' ob') (fun _ _ _=>False):=by
 obtain⟨⟨plc,F,hwas⟩,hpl⟩:=X
 obtain⟨fx,hfx⟩:=getq hf
 obtain⟨ds,hds⟩:=getq (show f<P.depths.length by rw[F.q.dl];exact hf)
 have hz:=ok.z fx hfx
 refine(yX F hg hfx hds rfl (ok.dl fx ds hfx hds) hz (ok.ok fx hfx) (ok.l fx ds hfx hds) (ok.h fx ds hfx hds)).mono ?_ (fun _ _ _ h=>h)
 rintro _ g' ob' ⟨⟨c4,F'⟩,oL,hG',O⟩
 have hadd:eM fs P d f=⟨d.code++(Emit.qf fs P f (codeOf fx.word fx.body) ds (codeOf fx.word fx.body).length d.code.length).code,d.holes++(Emit.qf fs P f (codeOf fx.word fx.body) ds (codeOf fx.word fx.body).length d.code.length).holes,d.ent.set f d.code.length,d.pls.set f (Emit.placesOf fs P f (codeOf fx.word fx.body) ds d.code.length)⟩:=by
  unfold eM
  rw[hfx,hds]
 refine⟨⟨c4,⟨_,by rw[hadd];exact F',fun f1 id hm=>?_⟩,yY hpl⟩,hG',O⟩
 rw[hadd]
 rcases D1.1 hm with hm|hm
 ·obtain⟨l,h1,h2,h3,h4,h5⟩:=hwas f1 id hm
  have hne:f1≠f:=hw _ hm
  obtain⟨o1,o2⟩:=O id h5 a6 a6 a6 a6 a6
  exact⟨l,by simp only;rw[D2,if_neg (z7 hne)];exact h1,by rw[D2,if_neg (z7 hne),o1];exact h2,by rw[o2];exact h3,h4,a6⟩
 ·obtain⟨rfl,rfl⟩:f1=f∧id=B+71:=by simpa using hm
  refine⟨Emit.placesOf fs P f1 (codeOf fx.word fx.body) ds d.code.length,by simp only;rw[D2,if_pos rfl,if_pos a6],?_,oL,a6,a6⟩
  rw[D2,if_pos rfl,if_pos (by rw[F.pl];exact hf),vF]
end
theorem AI:∀{l:List je}{j:Nat}{h:je},l[j]? = some h→((lJ l).drop (j*3)).take 3=[.d (.int .i64 h.1),.d (.int .i64 h.2.1),.d (.int .i64 h.2.2)]
 |a::l,0,h,e=>by
   cases e
   simp[lJ]
 |a::l,j+1,h,e=>by
   have ih:=AI (l:=l) (j:=j) (h:=h) (by simpa using e)
   rw[show lJ (a::l)=[C.d (.int .i64 a.1),.d (.int .i64 a.2.1),.d (.int .i64 a.2.2)]++lJ l by simp[lJ],show (j+1)*3=3+j*3 by omega,List.drop_append,D8 a7,y1]
   simpa using ih
theorem jB (a:fY) (l:List fY):dZ (a::l)=[C.d (.int .i64 a.1),.d (.int .i64 a.2.1),.d (.int .i64 a.2.2.1),.d (.int .i64 a.2.2.2)]++dZ l:=by simp[dZ,wZ]
theorem nF:∀{l:List fY}{j:Nat}{x:fY}{v:Int},l[j]? = some x→(dZ l).set (j*4+3) (.d (.int .i64 v))=dZ (l.set j (x.1,x.2.1,x.2.2.1,v))
 |a::l,0,x,v,e=>by
   cases e
   simp[jB]
 |a::l,j+1,x,v,e=>by
   have ih:=nF (l:=l) (j:=j) (x:=x) (v:=v) (by simpa using e)
   rw[jB,P2,jB,←ih,I9 _ _ XQ]
   simp only[j6,j7]
   rw[show (j+1)*4+3-(0+1+1+1+1)=j*4+3 by omega]
end
section
attribute [local congr] Go.Am.ite_cc
open Go Go.Am Go.Lower
open Go.Emit (Wr aj ao am pj eu ip eM)
section
section
variable {S:Sp}{T:Nat→TI}
@[go_sem] theorem Rw {dst:Option Tmp}{ty:TypeId}{ps:String}{af:Array Edge}{gd:Option (Nat×Bool)}{s:St}{K:St→Prop}{k:Box K}{a:Array Operand}{ts:Array TypeId}:opA S T ⟨dst,.call ⟨.builtin .copy,a,ts⟩,ty,ps,af,gd⟩ s k=aR S ⟨dst,.call ⟨.builtin .copy,a,ts⟩,ty,ps,af,gd⟩ s k:=j8 rfl rfl
end
theorem BW.up {B B' G D H E Pl gE gP M gM:Nat}{k:aU}{fs:List Src.CFn}{P:Emit.Plan}{code:List fY}{holes:List je}{ent:List Int}{plc:List C}{g:Nat→Nat}{ob:Obs} (F:BW B G D H E Pl gE gP M gM k fs P code holes ent plc g ob) (h:B≤B'):BW B' G D H E Pl gE gP M gM k fs P code holes ent plc g ob:=
 ⟨F.S.up h,F.q,F.gE,F.gP,F.gM,F.oE,F.oP,F.oM,by have:=F.eB;omega,by have:=F.pB;omega,by have:=F.mB;omega,F.el,F.pl,F.d⟩
theorem pA.up {B0 B B' G D H E Pl gE gP M gM:Nat}{k:aU}{fs:List Src.CFn}{P:Emit.Plan}{d:ip}{was:List (Nat×Nat)}{g:Nat→Nat}{ob:Obs} (X:pA B0 B G D H E Pl gE gP M gM k fs P d was g ob) (h:B≤B'):pA B0 B' G D H E Pl gE gP M gM k fs P d was g ob:=by
 obtain⟨⟨plc,F,hw⟩,hp⟩:=X
 exact⟨⟨plc,F.up h,fun f id hm=>by obtain⟨l,h1,h2,h3,h4,h5⟩:=hw f id hm;exact⟨l,h1,h2,h3,h4,a6⟩⟩,hp⟩
theorem pA.to {B0 B G D H E Pl gE gP M gM:Nat}{k:aU}{fs:List Src.CFn}{P:Emit.Plan}{d:ip}{was:List (Nat×Nat)}{g g':Nat→Nat}{ob ob':Obs} (X:pA B0 B G D H E Pl gE gP M gM k fs P d was g ob) (ht:∀i,B≤i→ob' i=none) (h:∀i,i=G∨i=D∨i=H∨i=E∨i=Pl∨i=M∨(B0≤i∧i<B)→g' i=g i∧ob' i=ob i):pA B0 B G D H E Pl gE gP M gM k fs P d was g' ob':=by
 obtain⟨⟨plc,F,hw⟩,hp⟩:=X
 have hG:=h G a7;have hD:=h D a7;have hH:=h H a7;have hE:=h E a7;have hP:=h Pl a7;have hM:=h M a7
 refine⟨⟨plc,⟨F.S.to ht hD.1 hH.1 hG.2 hD.2 hH.2,F.q,by rw[hE.1];exact F.gE,by rw[hP.1];exact F.gP,by rw[hM.1];exact F.gM,by rw[hE.2];exact F.oE,by rw[hP.2];exact F.oP,by rw[hM.2];exact F.oM,F.eB,F.pB,F.mB,F.el,F.pl,F.d⟩,fun f id hm=>?_⟩,hp⟩
 obtain⟨l,h1,h2,h3,h4,h5⟩:=hw f id hm
 have hi:=h id (by simp[h4,h5])
 exact⟨l,h1,by rw[hi.1];exact h2,by rw[hi.2];exact h3,h4,h5⟩
variable {fs:List Src.CFn}{P:Emit.Plan}
theorem ui{d:ip}{f:Nat}:d.code.length≤(eM fs P d f).code.length:=by
 unfold eM
 split
 ·simp only[j4];omega
 ·exact l0 _
theorem xe {fs:List Src.CFn}{P:Emit.Plan}:∀k,0<(Emit.Ly fs P k).code.length
 |0=>E5 a7 (ui (d:=⟨[(1,15,0,1)],[],List.replicate fs.length 0,List.replicate fs.length []⟩))
 |k+1=>E5 (xe k) ui
def lD (B n:Nat) (k:Nat):List (Nat×Nat):=(n-1,B+271)::(List.range k).map fun f=>(f,B+471+200*f)
theorem yZ (B n k:Nat):lD B n (k+1)=lD B n k++[(k,B+400+200*k+71)]:=by
 simp only[lD,R4,A3,l7,v8,z8]
 rw[show B+471+200*k=B+400+200*k+71 by omega]
def EU (d:ip) (n:Nat) (h:je):Prop:=
 (0≤h.1∧h.1<(d.code.length:Int))∧(0≤h.2.1∧h.2.1<(n:Int))∧(0≤h.2.2→∃l:List Int,d.pls[h.2.1.toNat]? = some l∧h.2.2<(l.length:Int))
theorem IF {B G D H E Pl gE gP gG:Nat}{k:aU}{g:Nat→Nat}{ob:Obs} (S:dD B G D H k [] [] g ob) (q:xd k fs P E Pl gE gP) (hg:g G=gG) (hgE:g E=gE) (hgP:g Pl=gP) (oE:ob E=some (icells (List.replicate fs.length 0))) (oP:ob Pl=some (List.replicate fs.length (.d .nsl))) (eB:E<B) (pB:Pl<B)
  (hd5:[G,D,H,E,Pl].Nodup) (hn:0<fs.length) (ok0:uh fs P ⟨[(1,15,0,1)],[],List.replicate fs.length 0,List.replicate fs.length []⟩ (fs.length-1)) (okj:∀j,j<fs.length-1→uh fs P (Emit.Ly fs P j) j)
  (hz:(Emit.whole fs P).code.length≤100000000) (hzh:(Emit.whole fs P).holes.length≤100000000) (hho:∀h∈(Emit.whole fs P).holes,EU (Emit.whole fs P) fs.length h) :
  cB Tryz.prog 70 [.one (.ptr G gG 0)] g ob (fun r g' ob'=>r=.one (.osl (B+37) (g' (B+37)) 4 0 (Emit.whole fs P).code.length)∧ob' (B+37)=some (dZ (Emit.filled (Emit.whole fs P)))∧Oth B G D H E Pl g ob g' ob') (fun _ _ _=>False):=by
 have hGB:=S.gB;have hDB:=S.dB;have hHB:=S.hB
 have hnd:=hd5
 simp only[UU,x9,A1,E7,not_or,N1,UZ,L1] at hnd
 obtain⟨⟨hGD,hGH,hGE,hGP⟩,⟨hDH,hDE,hDP⟩,⟨hHE,hHP⟩,hEP⟩:=hnd
 have hfz:=q.fz
 refine hdX B Tryz.func70 rfl [.tmp 2] fun b₀ β0 s0 w0=>?_
 have hwl:IntKind.i64.wrap ((fs.length:Int)-1)=((fs.length-1:Nat):Int):=by rw[wrap_i64] <;> omega
 simp only[go_sem]
 refine bq (Ψ0:=fun _ _ _=>False) aa rfl (by simp only[go_sem];exact yW (B+100)) (fun _ _ _ h=>h.elim) ?_
 rintro r g1 ob1 ⟨rfl,oM1,fr1⟩
 have S1:dD (B+200) G D H k [] [] g1 ob1:=(S.up (B':=B+200) a6).to (fun i hi=>by rw[(fr1 i a6).2];exact S.top i a6) (fr1 D a6).1 (fr1 H a6).1 (fr1 G a6).2 (fr1 D a6).2 (fr1 H a6).2
 have hg1:g1 G=gG:=(fr1 G a6).1.trans hg
 have ho:=S1.oG
 unfold aU.cells at ho
 rw[q.s,q.ds,q.bk,q.b,q.e,q.p] at ho
 simp only[go_sem,ho,hg1,j5,hwl]
 refine aM aa rfl (dE 1 15 0 1 k) (B+200) G D H gG [] [] XP hg1 S1 (by simp[aj]) (by simp[aj]) ?_
 intro r g2 ob2 S2 K2
 simp only[y1,l8,aj] at S2
 have hg2:g2 G=gG:=(K2.gen G a6 hGD hGH).trans hg1
 have gM2:g2 (B+101)=g1 (B+101):=K2.gen (B+101) a6 a6 a6
 have X0:pA (B+102) (B+200) G D H E Pl gE gP (B+101) (g1 (B+101)) k fs P ⟨[(1,15,0,1)],[],List.replicate fs.length 0,List.replicate fs.length []⟩ [] g2 ob2:=by
  refine⟨⟨List.replicate fs.length (.d .nsl),⟨S2,q,?_,?_,gM2,?_,?_,?_,a6,a6,a6,a7,a7,?_⟩,fun f id hm=>by cases hm⟩,a7⟩
  ·exact(K2.gen E a6 (z7 hDE) (z7 hHE)).trans ((fr1 E a6).1.trans hgE)
  ·exact(K2.gen Pl a6 (z7 hDP) (z7 hHP)).trans ((fr1 Pl a6).1.trans hgP)
  ·exact(K2.fr E a6 (z7 hGE) (z7 hDE) (z7 hHE)).trans ((fr1 E a6).2.trans oE)
  ·exact(K2.fr Pl a6 (z7 hGP) (z7 hDP) (z7 hHP)).trans ((fr1 Pl a6).2.trans oP)
  ·exact(K2.fr (B+101) a6 a6 a6 a6).trans oM1
  ·simp only[UU,x9,A1,E7,not_or,N1,UZ,L1]
   exact⟨⟨hGD,hGH,hGE,hGP,a6⟩,⟨hDH,hDE,hDP,a6⟩,⟨hHE,hHP,a6⟩,⟨hEP,a6⟩,a6⟩
 simp only[go_sem]
 refine bq (Ψ0:=fun _ _ _=>False) aa rfl (by simp only[go_sem];exact rX (k:=k) X0 a6 ⟨a6,a6,a6,a6,a6⟩ hg2 (f:=fs.length-1) a6 ok0 (fun x hx=>by cases hx)) (fun _ _ _ h=>h.elim) ?_
 rintro r g3 ob3 ⟨⟨c4,X3⟩,hg3,O3⟩
 have gM3:=(O3 (B+101) a6 a6 a6 a6 a6 a6).1
 rw[gM2] at gM3
 have X3':pA (B+102) (B+400+200*0) G D H E Pl gE gP (B+101) (g1 (B+101)) (k.at (fs.length-1) c4) fs P (Emit.Ly fs P 0) (lD B fs.length 0) g3 ob3:=X3.up a6
 simp only[go_sem]
 refine ai (fun m st=>∃(j:Nat) (kk:aU),m+j=fs.length-1∧st.f 0=.one (.ptr G gG 0)∧st.f 3=.one (.mp (B+101) (g1 (B+101)) 3)∧st.f 23=iv .i64 (fs.length-1:Nat)∧st.f 24=iv .i64 j∧st.gen G=gG∧
  pA (B+102) (B+400+200*j) G D H E Pl gE gP (B+101) (g1 (B+101)) kk fs P (Emit.Ly fs P j) (lD B fs.length j) st.gen st.obj∧Oth B G D H E Pl g ob st.gen st.obj) (fs.length-1) ?_ ?_
 ·refine⟨0,k.at (fs.length-1) c4,rfl,?_⟩
  simp only[go_sem]
  refine⟨hg3,X3',fun i hi h1 h2 h3 h4 h5=>?_⟩
  obtain⟨a1,a2⟩:=O3 i a6 h1 h2 h3 h4 h5
  obtain⟨b1,b2⟩:=fr1 i a6
  exact⟨a1.trans ((K2.gen i a6 h2 h3).trans b1),a2.trans ((K2.fr i a6 h1 h2 h3).trans b2)⟩
 clear ho
 rintro m fa g4 ob4 ⟨j,kk,hm,q0,q3,q23,q24,hg4,X4,O4⟩
 simp only at q0 q3 q23 q24 hg4 X4 O4
 by_cases hlt:j<fs.length-1
 case pos=>
  have hji:(j:Int)<((fs.length-1:Nat):Int):=a6
  have hwj:=ah (k:=j) a6
  have hne:∀x∈lD B fs.length j,x.1≠j:=fun x hx=>by
   simp only[lD,x9,H8,D6] at hx
   rcases hx with rfl|⟨a,ha,rfl⟩
   ·simp only;omega
   ·simp only;omega
  simp only[go_sem,q0,q3,q23,q24,hji]
  refine bq (Ψ0:=fun _ _ _=>False) aa rfl (by simp only[go_sem,q0,q3];exact rX (k:=kk) X4 a6 ⟨a6,a6,a6,a6,a6⟩ hg4 (f:=j) a6 (okj j hlt) hne) (fun _ _ _ h=>h.elim) ?_
  rintro r g5 ob5 ⟨⟨c5,X5⟩,hg5,O5⟩
  simp only[go_sem,q24,hwj]
  refine ae (m-1) a6 ⟨j+1,kk.at j c5,a6,?_⟩
  simp only[go_sem,q0,q3,q23]
  refine⟨hg5,?_,fun i hi h1 h2 h3 h4 h5=>?_⟩
  ·rw[yZ]
   exact X5.up a6
  ·obtain⟨a1,a2⟩:=O5 i a6 h1 h2 h3 h4 h5
   obtain⟨b1,b2⟩:=O4 i hi h1 h2 h3 h4 h5
   exact⟨a1.trans b1,a2.trans b2⟩
 obtain rfl:j=fs.length-1:=a6
 have hji:¬((fs.length-1:Nat):Int)<((fs.length-1:Nat):Int):=a6
 have hWh:Emit.Ly fs P (fs.length-1)=Emit.whole fs P:=rfl
 rw[hWh] at X4
 obtain⟨W,hW⟩:∃W,Emit.whole fs P=W:=⟨_,rfl⟩
 rw[hW] at X4 hz hzh hho ⊢
 have X4c:=X4
 obtain⟨⟨plc,F4,hwas⟩,hpl⟩:=X4
 have ho:=F4.S.oG
 unfold aU.cells at ho
 rw[F4.q.s,F4.q.ds,F4.q.bk,F4.q.b,F4.q.e,F4.q.p] at ho
 have n1:∀k,(G=B+k)=False:=fun k=>by simp;omega
 have n2:∀k,(D=B+k)=False:=fun k=>by simp;omega
 simp only[go_sem,q0,q3,q23,q24,hji,ho,hg4,n1]
 have hWn:0<W.code.length:=by rw[←hW];exact xe _
 refine⟨by rw[F4.S.oD];rfl,l0 _,a6,a6,?_⟩
 obtain⟨gC,hgC⟩:∃x,nxC (aC Tt 150+1) (g4 (B+37))=x:=⟨_,rfl⟩
 rw[hgC]
 refine yw (cells:=(List.replicate W.code.length [C.d (.int .i64 0),C.d (.int .i64 0),C.d (.int .i64 0),C.d (.int .i64 0)]).flatten) (cells2:=dZ W.code) (n:=W.code.length) (sz:=4) (id:=B+37) (g:=gC) (id2:=D) (g2:=g4 D) aa aB rfl rfl XP XS XP (nu) rfl XS ?_ (nt (F4.S.oD)) (fS _) hWn ?_
 ·simp[List.length_flatten]
 have n3:∀k,(H=B+k)=False:=fun k=>by simp;omega
 have n4:∀k,(E=B+k)=False:=fun k=>by simp;omega
 have n5:∀k,(Pl=B+k)=False:=fun k=>by simp;omega
 simp only[go_sem,q0,ho,hg4,n1,n2,n3]
 refine⟨by rw[F4.S.oH];rfl,?_⟩
 have hlC:=fS W.code
 obtain⟨k4,hk4⟩:∃k4:aU,xd k4 fs P E Pl gE gP∧pA (B+102) (B+400+200*(fs.length-1)) G D H E Pl gE gP (B+101) (g1 (B+101)) k4 fs P W (lD B fs.length (fs.length-1)) g4 ob4:=⟨kk,F4.q,X4c⟩
 refine ai (fun m st=>∃j:Nat,m+j=W.holes.length∧st.f 0=.one (.ptr G gG 0)∧st.f 6=.one (.osl (B+37) gC 4 0 W.code.length)∧st.f 47=.one (.osl H (st.gen H) 3 0 W.holes.length)∧st.f 48=iv .i64 W.holes.length∧st.f 49=iv .i64 j∧st.gen G=gG∧st.gen (B+37)=gC∧st.obj (B+37)=some (dZ ((W.holes.take j).foldl (Emit.fill W) W.code))∧
  pA (B+102) (B+400+200*(fs.length-1)) G D H E Pl gE gP (B+101) (g1 (B+101)) kk fs P W (lD B fs.length (fs.length-1)) st.gen st.obj∧Oth B G D H E Pl g ob st.gen st.obj) W.holes.length ?_ ?_
 ·refine⟨0,rfl,?_⟩
  simp only[go_sem,q0,n1,n2,n3,hg4,I3,List.foldl_nil]
  refine⟨X4c.to (fun i hi=>?_) (fun i hi=>⟨?_,?_⟩),fun i hi h1 h2 h3 h4 h5=>⟨?_,?_⟩⟩
  ·exact nt (F4.S.top i hi)
  ·have:i≠B+37:=a6
   exact Vc
  ·have:i≠B+37:=a6
   exact Vc
  ·exact nt ((O4 i hi h1 h2 h3 h4 h5).1)
  ·exact nt ((O4 i hi h1 h2 h3 h4 h5).2)
 clear ho hk4 k4
 rintro m fa2 g5 ob5 ⟨j,hm5,p0,p6,p47,p48,p49,hg5,gC5,oC5,X5,O5⟩
 simp only at p0 p6 p47 p48 p49 hg5 gC5 oC5 X5 O5
 have X5c:=X5
 obtain⟨⟨plc5,F5,hwas5⟩,hpl5⟩:=X5
 have ho:=F5.S.oG
 unfold aU.cells at ho
 rw[F5.q.s,F5.q.ds,F5.q.bk,F5.q.b,F5.q.e,F5.q.p] at ho
 have hgH:g5 H=g5 H:=rfl
 have hLl:∀l:List je,(l.foldl (Emit.fill W) W.code).length=W.code.length:=fun l=>by
  have:∀(l:List je) (c:List fY),(l.foldl (Emit.fill W) c).length=c.length:=by
   intro l
   induction l with
   |nil=>intro c;rfl
   |cons a l ih=>
     intro c
     rw[P0,ih]
     unfold Emit.fill
     split
     ·rw[C6]
     ·rfl
  exact this l W.code
 by_cases hlt:j<W.holes.length
 case pos=>
  have hji:(j:Int)<(W.holes.length:Int):=a6
  have hj0:(0:Int)≤(j:Int):=a6
  obtain⟨h,hh⟩:=getq hlt
  have hat:=AI hh
  obtain⟨⟨ha0,ha1⟩,⟨hf0,hf1⟩,hpl0⟩:=hho h (l6 hh)
  have hwj:=ah (k:=j) a6
  have hcl:=xa W.holes
  obtain⟨hA,hF,hP⟩:=h
  simp only at hat ha0 ha1 hf0 hf1 hpl0
  obtain⟨a,rfl⟩:∃a:Nat,hA=(a:Int):=⟨hA.toNat,a6⟩
  obtain⟨f,rfl⟩:∃f:Nat,hF=(f:Int):=⟨hF.toNat,a6⟩
  obtain⟨cur,hcur⟩:∃c,(W.holes.take j).foldl (Emit.fill W) W.code=c:=⟨_,rfl⟩
  have hcurl:cur.length=W.code.length:=by rw[←hcur];exact hLl _
  rw[hcur] at oC5
  have hac:a<cur.length:=a6
  have hac2:(a:Int)<(W.code.length:Int):=a6
  have hac3:a<W.code.length:=a6
  obtain⟨x,hx⟩:∃x,cur[a]? = some x:=⟨_,w9 hac⟩
  have hfl:f<fs.length:=a6
  have hel:=F5.el
  have hpl5:=F5.pl
  obtain⟨e,he⟩:=getq (show f<W.ent.length by omega)
  have hmc:=fS cur
  have hstep:(W.holes.take (j+1)).foldl (Emit.fill W) W.code=cur.set a (x.1,x.2.1,x.2.2.1,Emit.place W ((a:Int),(f:Int),hP)):=by
   rw[A2,hh,Option.toList,List.foldl_append,hcur]
   simp only[P0,List.foldl_nil,Emit.fill,A6,hx]
  have m1:∀k,(B+k=G)=False:=fun k=>by simp;omega
  have m2:∀k,(B+k=D)=False:=fun k=>by simp;omega
  have m4:∀k,(B+k=E)=False:=fun k=>by simp;omega
  have m5:∀k,(B+k=Pl)=False:=fun k=>by simp;omega
  have oE5:=F5.oE
  have gE5:=F5.gE
  have oP5:=F5.oP
  have gP5:=F5.gP
  have hf9:(f:Int)<(fs.length:Int):=a6
  have hs3:=nF (v:=e) hx
  simp only[go_sem,p0,p6,p47,p48,p49,hji,hj0,hlt,F5.S.oH,hcl,hat]
  refine⟨a6,?_⟩
  refine aJ b9 ?_
  have hfin:∀(v:Int),Emit.place W ((a:Int),(f:Int),hP)=v→cur.set a (x.1,x.2.1,x.2.2.1,v)=(W.holes.take (j+1)).foldl (Emit.fill W) W.code:=fun v hv=>by rw[hstep,hv]
  by_cases hp:0≤hP
  ·obtain⟨p,rfl⟩:∃p:Nat,hP=(p:Int):=⟨hP.toNat,a6⟩
   obtain⟨l,hl,hlp⟩:=hpl0 hp
   rw[A6] at hl
   obtain⟨id,hid⟩:∃id,(f,id)∈lD B fs.length (fs.length-1):=by
    by_cases e:f=fs.length-1
    ·exact⟨B+271,by rw[e];simp[lD]⟩
    ·exact⟨B+471+200*f,by simp only[lD,x9,H8,D6];exact .inr ⟨f,a6,rfl⟩⟩
   obtain⟨l',k1,k2,k3,k4,k5⟩:=hwas5 f id hid
   rw[hl] at k1
   cases k1
   obtain⟨v,hv⟩:=getq (show p<l.length by omega)
   have hp1:(p:Int)<(l.length:Int):=a6
   have hp2:p<l.length:=a6
   have hp3:(0:Int)≤(p:Int):=a6
   have i1:∀k,k≤100→(id=B+k)=False:=fun k hk=>by simp;omega
   have i8:=i1 8 a8
   have i37:=i1 37 a8
   have hx2:(cur.set a (x.1,x.2.1,x.2.2.1,e))[a]? = some (x.1,x.2.1,x.2.2.1,e):=by rw[D2,if_pos rfl,if_pos hac]
   have hs4:=nF (v:=v) hx2
   rw[List.set_set] at hs4
   have hmc2:=fS (cur.set a (x.1,x.2.1,x.2.2.1,e))
   have hpv:Emit.place W ((a:Int),(f:Int),(p:Int))=v:=by
    simp only[Emit.place,hp,A5,A6,hl,y7,hv]
   simp only[go_sem,p0,p6,ho,hg5,n1,n4,n5,m1,m2,m4,m5,oE5,gE5,oP5,gP5,hf0,hf9,hfl,hel,hpl5,bN,fK,he,oC5,gC5,ha0,hac2,hac3,hmc,hcurl,setAt,hs3,s5 hp]
   refine⟨a6,?_⟩
   refine aJ b9 ?_
   simp only[go_sem,p0,p6,ho,hg5,n1,n4,n5,m1,m2,m4,m5,oP5,gP5,hf0,hf9,hfl,hpl5,bN,fK,ha0,hac2,hac3,hmc2,hcurl,C6,setAt,hs4,k2,k3,i8,i37,hp1,hp2,hp3,hv,gC5]
   exact Vy
  ·have hpv:Emit.place W ((a:Int),(f:Int),hP)=e:=by
    simp only[Emit.place,hp,A4,A6,he,y7]
   simp only[go_sem,p0,p6,ho,hg5,n1,n4,n5,m1,m2,m4,m5,oE5,gE5,oP5,gP5,hf0,hf9,hfl,hel,hpl5,bN,fK,he,oC5,gC5,ha0,hac2,hac3,hmc,hcurl,setAt,hs3,hp]
   exact Vy
 have hji:¬(j:Int)<(W.holes.length:Int):=a6
 have hjl:j=W.holes.length:=a6
 rw[hjl,G9] at oC5
 simp only[go_sem,p0,p6,p47,p48,p49,hji]
 refine⟨_,ab.refl _,?_⟩
 simp only[go_sem,gC5]
 exact⟨rfl,oC5,O5⟩
end
end
end Go.Proofs.YtgiigidgdhplfaaGreatDoor.Low
namespace Go.Proofs.YtgiigidgdhplfaaGreatDoor
section
attribute [local congr] Go.Am.ite_cc
open Go Go.Am Go.RowKit
section
theorem xn:Tryz.prog.underlying 60=some (.pointer 62):=c8
theorem Fk:Tryz.prog.underlying 162=some .unsafePointer:=c8
theorem KB:Tryz.prog.underlying 62=some (.struct #[⟨ "addr",60,0,false,"","strings",0⟩,⟨ "buf",52,1,false,"","strings",8⟩]):=c8
theorem RD:Tryz.prog.underlying 4=some .bool:=c8
theorem Fl:∃j,Tryz.prog.info? 62=some j∧j.size=2:=by
 obtain⟨i,hi,hs,_⟩:=SY.info
 exact⟨i,hi,hs⟩
theorem MK:∃j,Tryz.prog.info? 60=some j∧j.size=1:=by
 obtain⟨i,hi,hs,_⟩:=Qk.info
 exact⟨i,hi,hs⟩
theorem sh (b:Nat) (w:World) (h0:w.cell? ⟨b,0,none⟩=some (.pointer (some ⟨b,0,none⟩))) :
  Calls Tryz.prog 49 #[.pointer (some ⟨b,0,none⟩)] w fun e w'=>e=.returned (.tuple #[])∧w'=w:=by
 obtain⟨j,hj,_⟩:=Fl
 have u34:=run_underlying xn
 have u37:=run_underlying KB
 have u4:=run_underlying RD
 go_enter Tryz.func49,Tryz.ntmps49
 go_wp2
 rw[Lib.run_neq_ptr_same w _ xn hj]
 go_wp2
 go_end0
 exact⟨rfl,rfl⟩
theorem AP:Tryz.prog.cellsOf 62=2:=c8
theorem ML {n:Nat} (hn:2≤n):liesAt Tryz.prog Tryz.prog.depth 62 (n/Tryz.prog.cellsOf 62) 0 62 1=true:=by
 rw[AP]
 have hd:Tryz.prog.depth=(2*(Tryz.prog.types.size+Made.depth)+1)+1:=rfl
 have h1:1≤n/2:=a6
 rw[hd]
 simp only[liesAt,G0]
 left
 rw[hd]
 simp[rowAt,AP,h1,sameLayout]
theorem qD (b n:Nat) (w:World) (h0:w.cell? ⟨b,0,none⟩=some (.pointer none)) (hsh:w.shape? b=some (62,n)) (hn:2≤n) (hfz:w.frozen? ⟨b,0,none⟩=false) :
  Calls Tryz.prog 49 #[.pointer (some ⟨b,0,none⟩)] w fun e w'=>e=.returned (.tuple #[])∧w'=w.setCell ⟨b,0,none⟩ (.pointer (some ⟨b,0,none⟩)):=by
 obtain⟨j,hj,hjs⟩:=Fl
 obtain⟨j9,hj9,hj9s⟩:=MK
 have u34:=run_underlying xn
 have u37:=run_underlying KB
 have u4:=run_underlying RD
 have u79:=run_underlying Fk
 go_enter Tryz.func49,Tryz.ntmps49
 go_wp2
 rw[Lib.run_to_unsafe w ⟨b,0,none⟩ xn Fk hj (by rw[hjs];decide) hsh (by show 0<n;omega)]
 simp only[Result.andThen]
 rw[Oper.upon_value]
 go_wp2
 rw[run_callFunc_extern Tryz.func74 c8 c8 c8 (e:=Extern.AbiNoEscape.same) c8]
 rw[Lib.run_noEscape]
 simp only[Result.andThen]
 rw[Oper.upon_value]
 go_wp2
 rw[Lib.run_from_unsafe w ⟨b,0,none⟩ Fk xn hj hsh (ML hn)]
 simp only[Result.andThen]
 rw[Oper.upon_value]
 go_wp2
 go_end0
 exact⟨rfl,rfl⟩
theorem MM:ws Tryz.prog 49:=⟨_,Tryz.func49,rfl,c9⟩
variable {g:Nat→Nat}{ob:Obs}{bs:List UInt8}
theorem qk {b gb:Nat}{a buf:C} (hg:g b=gb) (hc:code gb=63) (ho:ob b=some [a,buf]) (ha:a=.d .nilp∨a=.ptr b gb 0) :
  fg Tryz.prog 49 [.one (.ptr b gb 0)] g ob (fun r g' ob'=>r=uv∧g'=g∧ob'=upd ob b (some [.ptr b gb 0,buf])):=by
 refine⟨MM,fun b₀ N β ac fa w vs hr hv=>?_⟩
 simp only[aA] at hv
 obtain⟨u,us,rfl,hu,rfl⟩:=hv
 have hu0:=hu
 simp only[ag,aq] at hu
 obtain⟨ad,hβ,hsp,rfl⟩:=hu.2.2 hg YJ
 have hob:=hr.obj b _ ho
 rw[hβ] at hob
 obtain⟨hB,arr,el,lo,hi,hblk,⟨hfr,hcl⟩,hlen,hcells⟩:=hob.cells hsp
 simp only at hcl
 rw[hg,hc] at hcl
 obtain⟨hel,hoff⟩:=hcl a6
 have hel:el=62:=Nat.add_right_cancel (m:=1) hel
 subst hel
 simp only[j6,j7] at hlen
 rw[hoff] at hlen
 simp only[I6,hoff]
 have hun:ag b₀ β g ob w uv (.tuple #[]):=bR
 obtain⟨v0,hv0,hr0⟩:=hcells 0 a rfl
 rw[hoff] at hv0
 have hcell:w.cell? ⟨ad.block,0,none⟩=some v0:=by rw[cI hblk];exact hv0
 rcases ha with rfl|rfl
 ·-- it stores its address
  have hv:v0=.pointer none:=by simp only[aq] at hr0;cases hr0;rfl
  subst hv
  have hst:np (Tt 60) ⟨fa,g,ob⟩ (.one (.ptr b gb 0)) (.one (.ptr b gb 0)) (bx fun s'=>s'=⟨fa,g,upd ob b (some [.ptr b gb 0,buf])⟩):=by
   simp only[go_sem,hg,ho]
  obtain⟨s',w',rfl,h1,h2,h3⟩:=nX aB hr hst hu0 hu0
  have hrun:=lB (P:=Tryz.prog) (w:=w) (t:=60) (ti:=Tt 60) Qk (b:=ad.block) (o:=0) (v:=.pointer (some ⟨ad.block,0,none⟩)) (vs:=[.pointer (some ⟨ad.block,0,none⟩)]) rfl rfl (by simp[Value.oneCell']) hblk hfr (by simp only[j6,j7];omega)
  simp only[I6,hoff] at h1
  rw[h1] at hrun
  have hw':w'=w.setCells ad.block 0 [.pointer (some ⟨ad.block,0,none⟩)]:=by injection hrun
  refine(qD ad.block arr.size w hcell (by simp[World.shape?,hblk]) a6 (kr hblk hfr a6)).mono fun e w2 ⟨q1,q2⟩=>?_
  have hw2:w2=w':=by rw[q2,hw'];rfl
  subst hw2
  exact⟨_,uv,g,_,β,q1,⟨rfl,rfl,rfl⟩,bR,h2.obj,h2.inj,h3⟩
 ·have hv:v0=.pointer (some ⟨ad.block,0,none⟩):=by
   simp only[aq] at hr0
   obtain⟨ad',hβ',_,e⟩:=hr0.2.2 hg YJ
   rw[hβ] at hβ';cases hβ'
   rw[e,hoff]
  subst hv
  refine(sh ad.block w hcell).mono fun e w' ⟨h1,h2⟩=>?_
  subst h2
  have he:upd ob b (some [.ptr b gb 0,buf])=ob:=by funext i;simp only[upd];split <;> simp_all
  exact⟨_,uv,g,ob,β,h1,⟨rfl,rfl,he.symm⟩,hun,hr.obj,hr.inj,Tr.refl⟩
def RE (c:UInt8):C:=.d (.int .u8 c.toNat)
structure Bld (b ib gb:Nat) (bs:List UInt8) (g:Nat→Nat) (ob:Obs):Prop where
 gen:g b=gb
 code:code gb=63
 obj:∃a,(a=.d .nilp∨a=.ptr b gb 0)∧((bs=[]∧ob b=some [a,.d .nsl]∧ob ib=none)∨(bs≠[]∧ob b=some [a,.osl ib (g ib) 1 0 bs.length]∧Go.Am.code (g ib)=6∧ob ib=some (bs.map RE)))
 ne:b≠ib
theorem eI {b B gb:Nat} (t:List UInt8) (h:Bld b (B+14) gb bs g ob) (hb:b<B) (ht:t≠[]) (hl:bs.length≤1000000000) (hl2:t.length≤1000000000) (hfree:∀i,B≤i→i≠B+14→ob i=none) :
  fg Tryz.prog 22 [.one (.ptr b gb 0),sv t] g ob (fun r g' ob'=>r=.tup [iv .i64 t.length,.one (.d .nili)]∧Bld b (B+14) gb (bs++t) g' ob'∧(∀i,i<B→g' i=g i)∧(∀i,i<B→i≠b→ob' i=ob i)∧∀i,B≤i→i≠B+14→ob' i=none):=by
 refine hdF B Tryz.func22 rfl [4,5] ?_
 obtain⟨hg,hcd,⟨a,ha,hobj⟩,hne⟩:=h
 have n14:=PA hb 14
 have m14:=PB hb 14
 simp only[go_sem]
 rcases hobj with⟨rfl,ho,hi⟩|⟨hbs,ho,hc2,hi⟩
 ·refine bp rfl (by simp only[go_sem];exact qk hg hcd ho ha) ?_
  rintro _ g' ob' ⟨rfl,rfl,rfl⟩
  simp only[go_sem,hg,ho,n14,aC]
  refine⟨⟨a8,a6⟩,_,ab.refl _,⟨by simp only[iC,upd];rfl,⟨?_,hcd,⟨_,.inr rfl,.inr ⟨by simpa using ht,?_,?_,?_⟩⟩,hne⟩,fun i hi=>?_,fun i hi hib=>?_,fun i hi hi'=>?_⟩⟩
  ·simp[upd,n14,hg]
  ·simp[upd,n14]
  ·simp[upd,ge]
  ·simp[upd,m14];intros;rfl
  ·simp only[upd,if_neg (show ¬i=B+14 by omega)]
  ·simp[upd,show ¬i=B+14 by omega,hib]
  ·simp[upd,hi',show ¬i=b by omega,hfree i hi hi']
 ·refine bp rfl (by simp only[go_sem];exact qk hg hcd ho ha) ?_
  rintro _ g' ob' ⟨rfl,rfl,rfl⟩
  simp only[go_sem,hg,ho,n14,m14,aC,hi]
  refine⟨a7,⟨a8,a6⟩,_,ab.refl _,⟨by simp only[iC,upd];rfl,⟨?_,hcd,⟨_,.inr rfl,.inr ⟨by simp[hbs],?_,?_,?_⟩⟩,hne⟩,fun i hi=>?_,fun i hi hib=>?_,fun i hi hi'=>?_⟩⟩
  ·simp[upd,n14,hg]
  ·simp[upd,n14]
  ·simp[upd,ge,apC,hc2]
  ·rw[l5 a7]
   simp[upd,m14];intros;rfl
  ·simp only[upd,if_neg (show ¬i=B+14 by omega)]
  ·simp[upd,show ¬i=B+14 by omega,hib]
  ·simp[upd,hi',show ¬i=b by omega,hfree i hi hi']
theorem RF:Tryz.prog.underlying 112=some (.pointer 5):=c8
theorem MN:Tryz.prog.cellsOf 5=1:=c8
theorem xo {b ib gb:Nat} (h:Bld b ib gb bs g ob) (hl:bs.length≤1000000000) :
  fg Tryz.prog 26 [.one (.ptr b gb 0)] g ob (fun r g' ob'=>r=sv bs∧g'=g∧∀i,i≠ib→ob' i=ob i):=by
 refine hdF 0 Tryz.func26 rfl [2] ?_
 obtain⟨hg,hcd,⟨a,ha,hobj⟩,hne⟩:=h
 rcases hobj with⟨rfl,ho,hi⟩|⟨hbs,ho,hc2,hi⟩
 ·simp only[go_sem]
  refine dK aB mixed [] [([0],[],[],false),([3],[],[],false),([4],[],[],false),([5],[],[],false),([6],[],[],false),([0],[],[],false),([8],[],[],false),([9],[],[],false),([10],[],[],false),([11],[],[],false),([7,12],[],[],false),([13],[],[],true)] 0 b9 rfl a8 ?_
  simp only[go_sem]
  iterate 4 (apply aw;· (intro fa ga oa K' hK;simp only[go_sem,hg,ho] at hK ⊢;exact hK))
  refine aw (v:=.one (.d .nilp)) (fun fa ga oa K' hK=>?_) ?_
  ·simp only[go_sem] at hK ⊢
   refine uV (k:=bx K') rfl XP ?_
   exact V2
  iterate 5 (apply aw;· (intro fa ga oa K' hK;simp only[go_sem,hg,ho] at hK ⊢;exact hK))
  refine aw (v:=sv []) (fun fa ga oa K' hK=>?_) ?_
  ·simp only[go_sem] at hK ⊢
   refine sV (k:=bx K') rfl XP XP ?_
   exact V2
  apply bG
  intro K' hK'
  simp only[go_sem]
  refine hK' _ ?_
  clear hK' K'
  simp only[go_sem]
  exact⟨_,ab.refl _,by simp only[iC,upd];rfl,rfl,fun _ _=>rfl⟩
 ·simp only[go_sem]
  refine dK aB mixed [ib] [([0],[],[],false),([3],[],[],false),([4],[],[],false),([5],[],[],false),([6],[],[],false),([0],[],[],false),([8],[],[],false),([9],[],[],false),([10],[],[],false),([11],[],[],false),([7,12],[],[0],false),([13],[],[],true)] 1 b9 rfl a7 ?_
  simp only[go_sem]
  iterate 4 (apply aw;· (intro fa ga oa K' hK;simp only[go_sem,hg,ho] at hK ⊢;exact hK))
  refine aw (v:=.one (.ptr ib (g ib) 0)) (fun fa ga oa K' hK=>?_) ?_
  ·simp only[go_sem] at hK ⊢
   refine CX (k:=bx K') rfl XX rfl (by simp only[go_sem,hi]) (by cases bs;exact absurd rfl hbs;simp) ?_
   exact V2
  iterate 5 (apply aw;· (intro fa ga oa K' hK;simp only[go_sem,hg,ho,hi] at hK ⊢;exact hK))
  have hself:upd g ib (g ib)=g:=by funext j;simp only[upd];split <;> simp_all
  refine bJ (v:=sv bs) (x:=g ib) (y:=none) (fun fa ga oa K' hK=>?_) ?_
  ·simp only[go_sem,hself,R5] at hK ⊢
   refine Bp (k:=bx K') rfl RF MN (l:=bs) XP XP rfl hc2 hi (by rw[l5 a7];rfl) hbs a6 ?_
   exact V2
  simp only[go_sem,hself,R5]
  apply bG
  intro K' hK'
  simp only[go_sem]
  refine hK' _ ?_
  clear hK' K'
  simp only[go_sem]
  refine⟨_,ab.refl _,by simp only[iC,upd];rfl,rfl,fun i hib=>?_⟩
  simp[upd,hib]
end
end
section
attribute [local congr] Go.Am.ite_cc
open Go Go.Am Go.Asm
def DI (op:Nat):Str:=(if (Asm.shape op).1=true then [97] else [])++(if (Asm.shape op).2.1=true then [98] else [])++(if (Asm.shape op).2.2=2 then [114] else if (Asm.shape op).2.2=1 then [99] else [])
def cV (op:Int):Str:=if iP op.toNat=true then DI op.toNat else [63]
theorem vq {op:Int} (h:op.toNat=0∨28≤op.toNat):cV op=[63]:=by
 unfold cV
 rw[if_neg]
 unfold iP
 simp;omega
theorem yJ {op:Int} (h1:4≤op) (h2:op≤15):cV op=[97,98,114]:=by
 obtain⟨k,rfl⟩:∃k:Nat,op=k:=⟨op.toNat,a6⟩
 have key:∀k:Nat,k<16→4≤k→cV (k:Int)=[97,98,114]:=a8
 exact key k a6 a6
theorem DJ (op:Int):aG Tryz.prog 208 [iv .i64 op] (· = sv (cV op)):=by
 refine hdP Tryz.func208 rfl [2] fun g=>?_
 by_cases hr:1≤op∧op≤27
 case neg=>
  rw[vq a6]
  simp only[go_sem,show ¬op=1 by omega,show ¬op=2 by omega,show ¬op=3 by omega,show ¬op=16 by omega,show ¬op=17 by omega,show ¬op=18 by omega,show ¬op=19 by omega,show ¬op=20 by omega,show ¬op=21 by omega,show ¬op=22 by omega,show ¬op=23 by omega,show ¬op=24 by omega,show ¬op=25 by omega,show ¬op=26 by omega,show ¬op=27 by omega]
  exact fun h h'=>by omega
 by_cases hm:4≤op∧op≤15
 ·rw[yJ hm.1 hm.2]
  simp only[go_sem,show ¬op=1 by omega,show ¬op=2 by omega,show ¬op=3 by omega,show ¬op=16 by omega,show ¬op=17 by omega,show ¬op=18 by omega,show ¬op=19 by omega,show ¬op=20 by omega,show ¬op=21 by omega,show ¬op=22 by omega,show ¬op=23 by omega,show ¬op=24 by omega,show ¬op=25 by omega,show ¬op=26 by omega,show ¬op=27 by omega,hm.1,hm.2]
 rcases(show op=1∨op=2∨op=3∨op=16∨op=17∨op=18∨op=19∨op=20∨op=21∨op=22∨op=23∨op=24∨op=25∨op=26∨op=27 by omega) with rfl|rfl|rfl|rfl|rfl|rfl|rfl|rfl|rfl|rfl|rfl|rfl|rfl|rfl|rfl
 all_goals
  simp only[go_sem]
  rfl
def rN (s:Str) (c:UInt8):Bool:=s.contains c
theorem PW (s:Str) (c:UInt8) (hl:s.length≤1000000):aG Tryz.prog 209 [sv s,iv .u8 c.toNat] (· = bv (rN s c)):=by
 refine hdP Tryz.func209 rfl [4] fun g=>?_
 simp only[go_sem]
 refine du (fun n st=>∃k:Nat,n+k=s.length∧st.f 0=sv s∧st.f 1=iv .u8 c.toNat∧st.f 5=iv .i64 k∧∀x∈s.take k,x≠c) s.length ?_ ?_
 ·refine⟨0,a6,?_⟩
  simp only[go_sem]
  exact fun x hx=>by simp at hx
 rintro n f g ob ⟨k,hk,q0,q1,q5,hno⟩
 simp only at q0 q1 q5
 have hw:=ah (k:=k) a6
 by_cases hlt:k<s.length
 ·obtain⟨x,hx⟩:=getq hlt
  have hki:(k:Int)<(s.length:Int):=a6
  have hk0:(0:Int)≤(k:Int):=a6
  by_cases hxc:x=c
  ·subst hxc
   simp only[go_sem,q0,q1,q5,hki,hk0,hx]
   have:rN s x=true:=by unfold rN;rw[L4];exact l6 hx
   rw[this]
  ·have hxi:¬(x.toNat:Int)=(c.toNat:Int):=fun e=>hxc (P1.1 a6)
   simp only[go_sem,q0,q1,q5,hki,hk0,hx,hxi,hw]
   refine bP (n-1) a6 ⟨k+1,a6,?_⟩
   simp only[go_sem,q0,q1]
   intro y hy
   rw[A2,hx,D1] at hy
   rcases hy with hy|hy
   ·exact hno y hy
   ·simp at hy;rw[hy];exact hxc
 ·have hki:¬(k:Int)<(s.length:Int):=a6
  simp only[go_sem,q0,q1,q5,hki]
  rw[l5 a6] at hno
  have:rN s c=false:=by
   unfold rN
   cases h:s.contains c with
   |false=>rfl
   |true=>exact absurd rfl (hno c (L4.1 h))
  rw[this]
theorem pp (b:Bool) (v most:Int):aG Tryz.prog 210 [bv b,iv .i64 v,iv .i64 most] (· = bv (inW v most b)):=by
 refine hdP Tryz.func210 rfl [6] fun g=>?_
 exact Xo
theorem wy (op:Int):(iP op.toNat=false∧cV op=[63])∨(iP op.toNat=true∧(
  (Asm.shape op.toNat=(true,false,1)∧cV op=[97,99])∨(Asm.shape op.toNat=(true,true,0)∧cV op=[97,98])∨(Asm.shape op.toNat=(true,true,2)∧cV op=[97,98,114])∨(Asm.shape op.toNat=(true,true,1)∧cV op=[97,98,99])∨
  (Asm.shape op.toNat=(false,false,1)∧cV op=[99])∨(Asm.shape op.toNat=(true,false,0)∧cV op=[97])∨(Asm.shape op.toNat=(false,false,0)∧cV op=[]))):=by
 unfold cV
 cases hk:iP op.toNat
 ·exact .inl ⟨rfl,a7⟩
 ·refine .inr ⟨rfl,?_⟩
  unfold DI
  rcases ww op.toNat with h|h|h|h|h|h|h <;> simp[h]
theorem DK (op a b c:Int):aG Tryz.prog 197 [ju op a b c] (· = bv (cj op a b c)):=by
 refine hdP Tryz.func197 rfl [2] fun g=>?_
 unfold ju
 simp only[go_sem]
 refine fm rfl (by simp only[go_sem];exact DJ op) ?_
 rintro _ rfl
 have hh:∀s:Str,s.length≤3→∀k:Nat,k<256→aG Tryz.prog 209 [sv s,iv .u8 k] (· = bv (rN s (UInt8.ofNat k))):=fun s hs k hk=>by
  have:=PW s (UInt8.ofNat k) a6
  rwa [show (UInt8.ofNat k).toNat=k by rw[L2];omega] at this
 rcases wy op with⟨hk,hp⟩|⟨hk,⟨hs,hp⟩|⟨hs,hp⟩|⟨hs,hp⟩|⟨hs,hp⟩|⟨hs,hp⟩|⟨hs,hp⟩|⟨hs,hp⟩⟩
 ·rw[hp,show cj op a b c=false by unfold cj;rw[hk];rfl]
  simp only[go_sem]
  refine fm rfl (by simp only[go_sem];exact hh [63] a8 114 a8) ?_
  rintro _ rfl
  rw[show rN [63] (UInt8.ofNat 114)=false by decide]
  simp only[go_sem]
  refine eR aB mixed b9 ?_
  simp only[go_sem,reduceCtorEq]
 all_goals
  have hl3:(cV op).length≤3:=by rw[hp];decide
  have hne:(cV op=[63])=False:=by rw[hp];simp
  have e97:rN (cV op) (UInt8.ofNat 97)=(Asm.shape op.toNat).1:=by rw[hp,hs];decide
  have e98:rN (cV op) (UInt8.ofNat 98)=(Asm.shape op.toNat).2.1:=by rw[hp,hs];decide
  have e99:rN (cV op) (UInt8.ofNat 99)=decide ((Asm.shape op.toNat).2.2=1):=by rw[hp,hs];decide
  have e114:rN (cV op) (UInt8.ofNat 114)=decide ((Asm.shape op.toNat).2.2=2):=by rw[hp,hs];decide
  have hri:cj op a b c=(inW a 15 (Asm.shape op.toNat).1&&(inW b 15 (Asm.shape op.toNat).2.1&&inW c (ou op.toNat) (decide ((Asm.shape op.toNat).2.2≠0)))):=by unfold cj;rw[hk,w7]
  unfold ou at hri
  rw[hs] at e97 e98 e99 e114 hri
  simp only[UY,L8,Nat.reduceEqDiff,ne_eq,P7,N1,A5,A4,reduceCtorEq] at e97 e98 e99 e114 hri
  rw[hri]
  clear hp hs hri hk
  simp only[go_sem]
  refine fm rfl (by simp only[go_sem];exact hh (cV op) hl3 114 a8) ?_
  rintro _ rfl
  rw[e114]
  simp only[go_sem]
  refine eR aB mixed b9 ?_
  simp only[go_sem,hne]
  refine bT rfl (hh (cV op) hl3 97 a8) (cg rfl) rfl ?_
  rw[e97]
  simp only[go_sem]
  refine bT rfl (pp _ _ _) (cg rfl) rfl ?_
  generalize inW a 15 _=w1
  cases w1
  ·simp only[go_sem]
   try simp
  simp only[go_sem]
  refine bT rfl (hh (cV op) hl3 98 a8) (cg rfl) rfl ?_
  rw[e98]
  simp only[go_sem]
  refine bT rfl (pp _ _ _) (cg rfl) rfl ?_
  generalize inW b 15 _=w2
  cases w2
  ·simp only[go_sem]
   try simp
  simp only[go_sem]
  refine bT rfl (hh (cV op) hl3 99 a8) (cg rfl) rfl ?_
  rw[e99]
  simp only[go_sem]
  try
   refine bT rfl (hh (cV op) hl3 114 a8) (cg rfl) rfl ?_
   rw[e114]
   simp only[go_sem]
  refine bT rfl (pp _ _ _) (cg rfl) rfl ?_
  simp only[go_sem]
  try rfl
theorem Fm {a b:Nat} (ha:a<4294967296) (hb:b<4294967296):(BitVec.ofInt 32 (a:Int) &&&BitVec.ofInt 32 (b:Int)).toNat=a &&&b:=by
 rw[UP,J1,J1,show ((a:Int)%(2^32:Nat)).toNat=a by omega,show ((b:Int)%(2^32:Nat)).toNat=b by omega]
theorem RG {n:Nat} (h:n<4294967296):IntKind.u32.wrap (n:Int)=(n:Int):=by rw[IntKind.wrap_u32];omega
theorem ze (a b:Nat):(a:Int).fdiv (b:Int)=((a/b:Nat):Int):=by rw[L3 _ a6];rfl
def MO (w:Nat):AV:=if cj (w/16777216:Nat) (w/1048576%16:Nat) (w/65536%16:Nat) (w%65536:Nat)=true then .tup [ju (w/16777216:Nat) (w/1048576%16:Nat) (w/65536%16:Nat) (w%65536:Nat),iv .i64 0] else .tup [ju 0 0 0 0,iv .i64 7]
theorem AQ {s:St}{a b c d e:Int}:nc s [.agg [.d (.int .i64 a),.d (.int .i64 b),.d (.int .i64 c),.d (.int .i64 d)],iv .i64 e] (.tup [ju a b c d,iv .i64 e]):=
 ⟨_,⟨_,_,rfl,MG [.int .i64 a,.int .i64 b,.int .i64 c,.int .i64 d],_,_,rfl,eN _,rfl⟩,rfl⟩
theorem Fo (w:Nat) (hw:w<4294967296):aG Tryz.prog 24 [iv .u32 w] (· = MO w):=by
 refine hdR Tryz.func24 rfl [.cell 2 69,.tmp 3] fun g=>?_
 have s24:((w:Nat):Int).fdiv ((2:Int)^min 24 32)=((w/16777216:Nat):Int):=ze w 16777216
 have s20:((w:Nat):Int).fdiv ((2:Int)^min 20 32)=((w/1048576:Nat):Int):=ze w 1048576
 have s16:((w:Nat):Int).fdiv ((2:Int)^min 16 32)=((w/65536:Nat):Int):=ze w 65536
 have m15:∀x:Nat,x<4294967296→IntKind.u32.wrap ((BitVec.ofInt 32 ((x:Nat):Int) &&&BitVec.ofInt 32 15).toNat:Int)=((x%16:Nat):Int):=fun x hx=>by
  rw[show (15:Int)=((15:Nat):Int) from rfl,Fm hx a8,show x &&&15=x%16 from J2 x 4,RG a6]
 have mFF:∀x:Nat,x<4294967296→IntKind.u32.wrap ((BitVec.ofInt 32 ((x:Nat):Int) &&&BitVec.ofInt 32 65535).toNat:Int)=((x%65536:Nat):Int):=fun x hx=>by
  rw[show (65535:Int)=((65535:Nat):Int) from rfl,Fm hx a8,show x &&&65535=x%65536 from J2 x 16,RG a6]
 have c64:∀x:Nat,x<4294967296→IntKind.i64.wrap ((x:Nat):Int)=((x:Nat):Int):=fun x hx=>by rw[wrap_i64] <;> omega
 simp only[go_sem,s24,s20,s16]
 erw[m15 (w/1048576) a6,m15 (w/65536) a6,mFF w hw,c64 (w/16777216) a6,c64 (w/1048576%16) a6,c64 (w/65536%16) a6,c64 (w%65536) a6]
 refine fm rfl (by simp only[go_sem];exact Ac (w/16777216:Nat) (w/1048576%16:Nat) (w/65536%16:Nat) (w%65536:Nat)) ?_
 rintro _ rfl
 unfold MO
 cases hR:cj (w/16777216:Nat) (w/1048576%16:Nat) (w/65536%16:Nat) (w%65536:Nat)
 ·simp only[go_sem,da]
  exact⟨_,AQ,rfl⟩
 ·simp only[go_sem,da]
  exact⟨_,AQ,rfl⟩
def nH (code:List Nat) (d:Int):AV:=.agg [.d (dq code),.d (.int .i64 d)]
abbrev IU (code:List Nat) (d:Int):Bool:=decide (code.length≤16384∧0≤d∧d≤32768)
theorem zf (code:List Nat) (d:Int):aG Tryz.prog 21 [nH code d] (· = bv (IU code d)):=by
 refine hdP Tryz.func21 rfl [2] fun g=>?_
 unfold nH dq IU
 by_cases h1:code.length≤16384
 ·have h1i:((code.length:Nat):Int)≤16384:=a6
  by_cases h0:0≤d
  ·by_cases h2:d≤32768
   ·rw[E0 ⟨h1,h0,h2⟩]
    simp only[go_sem,j5,h1i,h2,h0]
   ·rw[y9 (fun h=>h2 h.2.2)]
    simp only[go_sem,j5,h1i,h2,h0]
  ·rw[y9 (fun h=>h0 h.2.1)]
   simp only[go_sem,j5,h1i,h0]
 ·have h1i:¬((code.length:Nat):Int)≤16384:=a6
  rw[y9 (fun h=>h1 h.1)]
  simp only[go_sem,j5,h1i]
end
end Go.Proofs.YtgiigidgdhplfaaGreatDoor
namespace Go.Am
section
attribute [local congr] Go.Am.ite_cc
theorem EV {P:Program}{rd:Option Nat}{b₀:Bs}{Φ:St→Loc→List Deferred→World→Prop}{B0:Nat}{Ψ:fj} (hΦ:aQ b₀ Φ) {o:Oper}{s:St} (s₁:St) {K:St→Prop}{k:Box K} (hv:ab s s₁) (h:aR (spF P rd b₀ Φ B0 Ψ) o s₁ k):aR (spF P rd b₀ Φ B0 Ψ) o s k:=by
 obtain⟨R,hR,hK⟩:=h
 refine⟨R,fun N β a ds w hr hφ hdst next Q hn hx=>?_,hK⟩
 obtain⟨β1,r1,t1⟩:=hv b₀ N β a w hr
 exact hR N β1 a ds w r1 (hΦ _ _ _ _ _ _ _ hφ t1) hdst next Q hn hx
end
end Go.Am
namespace Go.Proofs.YtgiigidgdhplfaaGreatDoor.Low
section
attribute [local congr] Go.Am.ite_cc
open Go Go.Am Go.Lower
open Go.Emit (Wr aj ao am pj eu ip eM)
def rY (x:fY):Bool:=cj x.1 x.2.1 x.2.2.1 x.2.2.2
def kz (x:fY):Nat:=Asm.word x.1.toNat x.2.1.toNat x.2.2.1.toNat x.2.2.2.toNat
def uj (fs:List Src.CFn) (P:Emit.Plan):AV:=
 if 32768<P.data then .tup [nH [] 0,iv .i64 2]
 else
  let c:=Emit.filled (Emit.whole fs P)
  if 16384<c.length then .tup [nH [] 0,iv .i64 2]
  else if c.all rY then .tup [nH (c.map kz) P.data,iv .i64 0] else .tup [nH [] 0,iv .i64 2]
structure Rx (w:Int) (fs:List Src.CFn) (P:Emit.Plan):Prop where
 n:0<fs.length
 dl:P.depths.length=fs.length
 bl:P.back.length=fs.length
 l:P.base.length=fs.length
 fz:fs.length≤1000000
 bz:∀x∈P.base,0≤x∧x≤1000000000000000
 dz:∀ds∈P.depths,∀d∈ds,-1≤d∧d≤1000000000
 pz:∀x∈fs,0≤x.params∧x.params≤1000000∧0≤x.first∧x.first≤1000000000000
 sz:∀x∈fs,x.params≤x.slots∧x.slots≤1000000
 d0:0≤P.data
 ok0:uh fs P ⟨[(1,15,0,1)],[],List.replicate fs.length 0,List.replicate fs.length []⟩ (fs.length-1)
 okj:∀j,j<fs.length-1→uh fs P (Emit.Ly fs P j) j
 z:(Emit.whole fs P).code.length≤100000000
 zh:(Emit.whole fs P).holes.length≤100000000
 ho:∀h∈(Emit.whole fs P).holes,EU (Emit.whole fs P) fs.length h
theorem xf (d:ip):∀(l:List je) (c:List fY),(l.foldl (Emit.fill d) c).length=c.length
 |[],c=>rfl
 |a::l,c=>by
   rw[P0,xf d l]
   unfold Emit.fill
   split
   ·rw[C6]
   ·rfl
theorem xg:∀{l:List fY}{j:Nat}{x:fY},l[j]? = some x→((dZ l).drop (j*4)).take 4=wZ x
 |a::l,0,x,e=>by
   cases e
   simp[jB,wZ]
 |a::l,j+1,x,e=>by
   have ih:=xg (l:=l) (j:=j) (x:=x) (by simpa using e)
   rw[jB,show (j+1)*4=4+j*4 by omega,List.drop_append,D8 a7,y1]
   simpa using ih
def wcells (l:List Nat):List C:=l.map fun n=>.d (.int .u32 (n:Nat))
theorem za (l:List Nat):(wcells l).length=l.length:=by simp[wcells]
theorem mw {s:St}{n:Int}:nc s [.agg [.d .nsl,.d (.int .i64 0)],iv .i64 n] (.tup [nH [] 0,iv .i64 n]):=by
 refine⟨_,⟨nH [] 0,_,rfl,⟨[dq [],.int .i64 0],rfl,fun i c hc'=>?_,rfl⟩,_,_,rfl,⟨_,.d _,rfl⟩,rfl⟩,rfl⟩
 match i,hc' with
 |0,hc'=>cases hc';exact⟨_,rfl,.d _⟩
 |1,hc'=>cases hc';exact⟨_,rfl,.d _⟩
theorem Ug {o:bE}{w:Int}{fs:List Src.CFn}{P:Emit.Plan} (ok:P.data≤32768→Rx w fs P) (hpl:aG Tryz.prog 69 [gy w fs] (· = EP P.depths P.back P.base P.data)):bi Tryz.prog 3 o 40 [gy w fs] (· = uj fs P):=by
 refine hdG Tryz.func40 rfl [.cell 2 38,.tmp 3] fun b₀ β0 s0 w0 g=>?_
 obtain⟨z,hz⟩:∃z,uj fs P=z:=⟨_,rfl⟩
 rw[hz]
 unfold uj at hz
 have hsC:gy w fs=.agg [.d (.int .i64 w),.d (.sl (fs.map sfD))]:=rfl
 rw[hsC] at hpl ⊢
 simp only[go_sem]
 refine kS ay rfl (by simp only[go_sem];exact hpl) c9 ?_
 rintro _ rfl
 unfold EP
 by_cases hd:32768<P.data
 ·rw[if_pos hd] at hz
  subst hz
  simp only[go_sem,hd]
  exact⟨_,mw,rfl⟩
 rw[if_neg hd] at hz
 have k:=ok a6
 simp only[go_sem,hd]
 have hfz:=k.fz
 have hrf:(List.replicate fs.length [C.d .nsl]).flatten=List.replicate fs.length (C.d .nsl):=mv _ _
 refine fP aB mixed ay [23,27,29] [([1],[0,1],[],false),([4],[0,1],[],false),([1],[1],[],false),([20],[1],[],false),([21],[1],[],false),([22],[1],[0],false),([1],[0],[],false),([24],[0],[],false),([25],[0],[],false),([26],[0],[1],false),([18,19,23,27],[],[],false),([28],[],[2],false),([29],[],[],true)] 3 rfl b9 rfl a8 ?_
 simp only[go_sem]
 iterate 5 (apply aI;(case hg=>first|exact x6|exact⟨_,rfl,by decide,rfl⟩);(case h1=>intro fa ga oa K' hK;simp only[go_sem,j5] at hK ⊢;exact hK))
 refine dy (a:=0) (v:=.one (.osl 23 (nxC 4 (g 23)) 1 0 fs.length)) (x:=nxC 4 (g 23)) (y:=some (icells (List.replicate fs.length 0))) x6 (fun fa ga oa K' hK=>?_) ?_
 ·simp only[go_sem,aC] at hK ⊢
  refine⟨l0 _,a6,a6,?_⟩
  rw[show (List.replicate fs.length [C.d (.int .i64 0)]).flatten=icells (List.replicate fs.length 0) by rw[mv,icells,P5]]
  exact hK
 iterate 3 (apply aI;(case hg=>first|exact x6|exact⟨_,rfl,by decide,rfl⟩);(case h1=>intro fa ga oa K' hK;simp only[go_sem,j5] at hK ⊢;exact hK))
 refine dy (a:=1) (v:=.one (.osl 27 (nxC (aC Tt 145+1) (g 27)) 1 0 fs.length)) (x:=nxC (aC Tt 145+1) (g 27)) (y:=some (List.replicate fs.length (.d .nsl))) x6 (fun fa ga oa K' hK=>?_) ?_
 ·simp only[go_sem] at hK ⊢
  refine⟨l0 _,a6,a6,?_⟩
  rw[hrf]
  exact hK
 (apply aI;(case hg=>first|exact x6|exact⟨_,rfl,by decide,rfl⟩);(case h1=>intro fa ga oa K' hK;simp only[go_sem] at hK ⊢;exact hK))
 (apply dy;(case hg=>first|exact x6|exact⟨_,rfl,by decide,rfl⟩);(case h1=>intro fa ga oa K' hK;simp only[go_sem] at hK ⊢;exact hK))
 refine fQ x6 ?_
 intro K' hK'
 simp only[go_sem]
 refine hK' _ ?_
 clear hK' K'
 obtain⟨g23,hg23⟩:∃x,nxC 4 (g 23)=x:=⟨_,rfl⟩
 obtain⟨g27,hg27⟩:∃x,nxC (aC Tt 145+1) (g 27)=x:=⟨_,rfl⟩
 rw[hg23,hg27]
 have hksd:P.depths.map (fun o=>[ksD o])=P.depths.map (fun o=>[ksD o]):=rfl
 simp only[go_sem]
 refine EV ay _ ((cA (t:=5) (o:=29) (b:=200) (j:=6) (sz:=4) (off:=0) (cells:=[.d (.int .i64 w),.d (.sl (fs.map sfD)),.d (.sl (P.depths.map fun o=>[ksD o])),.d (ksD P.back),.d (ksD P.base),.d (.int .i64 P.data),.d .nsl,.osl 23 g23 1 0 fs.length,.osl 27 g27 1 0 fs.length,.d .nsl,.d (.int .i64 0),.d (.int .i64 0)]) XP XP rfl a8).trans
  (cA (t:=5) (o:=29) (b:=201) (j:=9) (sz:=3) (off:=0) (cells:=[.d (.int .i64 w),.d (.sl (fs.map sfD)),.d (.sl (P.depths.map fun o=>[ksD o])),.d (ksD P.back),.d (ksD P.base),.d (.int .i64 P.data),.osl 200 (g 200+1) 4 0 0,.osl 23 g23 1 0 fs.length,.osl 27 g27 1 0 fs.length,.d .nsl,.d (.int .i64 0),.d (.int .i64 0)]) Yh Yh rfl a8)) ?_
 simp only[St.claimAt]
 refine bq (Ψ0:=fun _ _ _=>False) (R:=fun r g' ob'=>r=.one (.osl 1037 (g' 1037) 4 0 (Emit.whole fs P).code.length)∧ob' 1037=some (dZ (Emit.filled (Emit.whole fs P)))∧∀i,i<10→g' i=(upd (upd (upd g 1 (nxC 92 (g 1))) 2 (nxC 39 (g 2))) 4 (nxC 148 (g 4))) i∧ob' i=(upd (upd (upd (fun _=>none) 1 (some [C.d (D.int IntKind.i64 w),C.d (D.sl (List.map sfD fs))])) 2 (some [C.d D.nsl,C.d (D.int IntKind.i64 0)])) 4 (some [C.d (D.sl (P.depths.map fun o=>[ksD o])),C.d (ksD P.back),C.d (ksD P.base),C.d (D.int IntKind.i64 P.data)])) i) ay rfl ?_ (fun _ _ _ h=>h.elim) ?_
 ·simp only[go_sem]
  refine(IF (B:=1000) (G:=29) (D:=200) (H:=201) (E:=23) (Pl:=27) (gE:=g23) (gP:=g27) (P:=P) (fs:=fs) (k:=⟨.d (.int .i64 w),.d (.sl (fs.map sfD)),.d (.sl (P.depths.map fun o=>[ksD o])),.d (ksD P.back),.d (ksD P.base),.d (.int .i64 P.data),.osl 23 g23 1 0 fs.length,.osl 27 g27 1 0 fs.length,.d (.int .i64 0),.d (.int .i64 0)⟩)
   ⟨fun i hi=>?_,a8,a8,a8,a8,a8,a8,?_,?_,?_,?_⟩ ⟨rfl,rfl,rfl,rfl,rfl,rfl,k.dl,k.bl,k.l,k.fz,k.bz,k.dz,k.pz,k.sz⟩ ?_ ?_ ?_ ?_ ?_ a8 a8 a8 k.n k.ok0 k.okj k.z k.zh k.ho).mono ?_ (fun _ _ _ h=>h)
  ·exact Vc
  ·simp[upd,aU.cells]
  ·simp[upd];rfl
  ·simp[upd];rfl
  ·intro x hx
   simp only[aU.all,x9,A1,E7] at hx
   rcases hx with e|e|e|e|e|e|e|e|e|e
   all_goals (subst e;first|trivial|(show (23:Nat)<1000;decide)|(show (27:Nat)<1000;decide))
  ·simp[upd]
  ·simp[upd]
  ·simp[upd]
  ·simp[upd]
  ·simp[upd]
  rintro r g' ob' ⟨h1,h2,h3⟩
  refine⟨h1,h2,fun i hi=>?_⟩
  obtain⟨a1,a2⟩:=h3 i a6 a6 a6 a6 a6 a6
  refine⟨a1.trans ?_,a2.trans ?_⟩
  ·simp only[upd]
   (repeat rw[if_neg (show ¬i=201 by omega)])
   (repeat rw[if_neg (show ¬i=200 by omega)])
   (repeat rw[if_neg (show ¬i=29 by omega)])
   (repeat rw[if_neg (show ¬i=27 by omega)])
   (repeat rw[if_neg (show ¬i=23 by omega)])
  ·simp only[upd]
   (repeat rw[if_neg (show ¬i=201 by omega)])
   (repeat rw[if_neg (show ¬i=200 by omega)])
   (repeat rw[if_neg (show ¬i=29 by omega)])
   (repeat rw[if_neg (show ¬i=27 by omega)])
   (repeat rw[if_neg (show ¬i=23 by omega)])
   split
   ·rfl
   ·rfl
 rintro r g1 ob1 ⟨rfl,oC,O1⟩
 have e2:=O1 2 a8
 have e4:=O1 4 a8
 simp[upd] at e2 e4
 obtain⟨e2,o2⟩:=e2
 obtain⟨e4,o4⟩:=e4
 clear O1
 obtain⟨W,hW⟩:∃W,Emit.whole fs P=W:=⟨_,rfl⟩
 rw[hW] at oC hz
 have hkz:=k.z
 rw[hW] at hkz ⊢
 obtain⟨c,hc⟩:∃c,Emit.filled W=c:=⟨_,rfl⟩
 have hcl:W.code.length=c.length:=by rw[←hc];exact(xf W W.holes W.code).symm
 simp only[hc] at hz
 rw[hc] at oC
 rw[hcl] at hkz ⊢
 obtain⟨gC,hgC⟩:∃x,g1 1037=x:=⟨_,rfl⟩
 rw[hgC]
 have hmc:=fS c
 by_cases hbig:16384<c.length
 ·rw[if_pos hbig] at hz
  subst hz
  have hb:(16384:Int)<(c.length:Int):=a6
  simp only[go_sem,hb,hgC,oC,e2,o2]
  exact⟨_,mw,rfl⟩
 rw[if_neg hbig] at hz
 have hb:¬(16384:Int)<(c.length:Int):=a6
 simp only[go_sem,hb,hgC,oC,e2,o2]
 refine⟨l0 _,a6,a6,?_⟩
 have hwz:(List.replicate c.length [C.d (.int .u32 0)]).flatten=wcells ((c.take 0).map kz++List.replicate (c.length-0) 0):=by
  rw[mv];simp[wcells]
 refine ai (fun m st=>∃j:Nat,m+j=c.length∧(c.take j).all rY=true∧st.f 2=.one (.ptr 2 (st.gen 2) 0)∧st.f 4=.one (.ptr 4 (st.gen 4) 0)∧st.f 7=.one (.osl 38 (st.gen 38) 1 0 c.length)∧st.f 39=.one (.osl 1037 gC 4 0 c.length)∧st.f 40=iv .i64 c.length∧st.f 41=iv .i64 j∧st.gen 1037=gC∧
  st.obj 1037=some (dZ c)∧st.obj 38=some (wcells ((c.take j).map kz++List.replicate (c.length-j) 0))∧(∃x y,st.obj 2=some [x,y])∧st.obj 4=some [.d (.sl (P.depths.map fun o=>[ksD o])),.d (ksD P.back),.d (ksD P.base),.d (.int .i64 P.data)]) c.length ?_ ?_
 ·refine⟨0,rfl,rfl,?_⟩
  simp only[go_sem,hgC,oC,e2,e4,o2,o4]
  exact⟨by rw[hwz];simp,_,_,rfl,rfl⟩
 clear e2 e4 o2 o4 oC hgC hwz hg23 hg27
 rintro m fa g2 ob2 ⟨j,hm,hall,q2,q4,q7,q39,q40,q41,hgC,oC,o38,⟨x0,y0,o2⟩,o4⟩
 simp only at q2 q4 q7 q39 q40 q41 hgC oC o38 o2 o4
 have hwl:(wcells ((c.take j).map kz++List.replicate (c.length-j) 0)).length=c.length:=by
  rw[za,j4,j5,A8,H2];omega
 by_cases hlt:j<c.length
 case neg=>
  obtain rfl:j=c.length:=a6
  have hji:¬(c.length:Int)<(c.length:Int):=a6
  rw[G9] at hall o38
  rw[L9,M5,l8] at o38
  rw[if_pos hall] at hz
  subst hz
  simp only[go_sem,q2,q4,q7,q40,q41,hji,o2,o4]
  refine⟨_,⟨_,⟨nH (c.map kz) P.data,_,rfl,⟨[dq (c.map kz),.int .i64 P.data],rfl,fun i y hy=>?_,rfl⟩,_,_,rfl,⟨_,.d _,rfl⟩,rfl⟩,rfl⟩,rfl⟩
  match i,hy with
  |0,hy=>
    cases hy
    refine⟨_,rfl,cL (s:=⟨_,_,_⟩) (cells:=wcells (c.map kz)) rfl (c.map kz) (fun n=>[.int .u32 (n:Nat)]) ?_ ?_ (fun _ _ y hy=>by simp at hy;subst hy;rfl) (fun _ _=>rfl) a7⟩
    ·simp only[upd]
     exact o38
    ·unfold wcells
     generalize c.map kz=l
     induction l with
     |nil=>rfl
     |cons b l ih=>rw[l7,B4,ih];rfl
  |1,hy=>cases hy;exact⟨_,rfl,.d _⟩
 have hji:(j:Int)<(c.length:Int):=a6
 have hj0:(0:Int)≤(j:Int):=a6
 obtain⟨x,hx⟩:∃x,c[j]? = some x:=⟨_,w9 hlt⟩
 have hat:=xg hx
 unfold wZ at hat
 have hwj:=ah (k:=j) a6
 simp only[go_sem,q2,q4,q7,q39,q40,q41,hji,hj0,hlt,hgC,oC,hmc,hat]
 refine⟨a6,?_⟩
 refine iE rfl (by simp only[go_sem];exact wA x.1 x.2.1 x.2.2.1 x.2.2.2) ?_
 rintro _ rfl
 cases hr:rY x
 ·have hr2:cj x.1 x.2.1 x.2.2.1 x.2.2.2=false:=hr
  have hall2:c.all rY=false:=by
   rw[Bool.eq_false_iff]
   intro h
   rw[x7] at h
   rw[h x (l6 hx)] at hr
   cases hr
  rw[hall2] at hz
  simp only[B8,A4] at hz
  subst hz
  simp only[go_sem,hr2,B8,q2,o2]
  exact⟨_,mw,rfl⟩
 ·have hr2:cj x.1 x.2.1 x.2.2.1 x.2.2.2=true:=hr
  have hset:(wcells ((c.take j).map kz++List.replicate (c.length-j) 0)).set j (.d (.int .u32 (kz x:Nat)))=wcells ((c.take (j+1)).map kz++List.replicate (c.length-(j+1)) 0):=by
   obtain⟨n,hn⟩:∃n,c.length-j=n+1:=⟨c.length-j-1,a6⟩
   rw[hn,show c.length-(j+1)=n by omega,A2,hx,Option.toList,A3,r0]
   unfold wcells
   rw[A3,I9 _ _ XQ]
   simp only[j5,A8,A3,l7,v8,D4]
   rw[show j-min j c.length=0 by omega]
   rfl
  simp only[go_sem,hr2,q2,q4,q7,o38,hwl,hlt,hji,hj0]
  refine⟨a6,?_⟩
  simp only[go_sem,q41,hwj,setAt]
  refine ae (m-1) a6 ⟨j+1,a6,?_,?_⟩
  ·rw[A2,hx,Option.toList,O9,hall]
   simp[hr]
  simp only[go_sem,q2,q4,q7,q39,q40,hgC,oC,o2,o4,hwj]
  exact⟨hset▸rfl,_,_,rfl,rfl⟩
end
end Go.Proofs.YtgiigidgdhplfaaGreatDoor.Low
namespace Go.Emit
section
open Go.Lower (Ins Code Sig codeOf takes next Inv left Good OkI gL)
section
def Fits (L M:Nat) (Q:Int×Int→Prop) (w:Nat→Wr):Prop:=∀n,(w n).code.length≤L∧(w n).holes.length≤M∧∀h∈(w n).holes,(n:Int)≤h.1∧h.1<(n:Int)+(w n).code.length∧Q h.2
variable {P:Plan}{f:Nat}{fs:List Src.CFn}{d r b:Int}
section
variable {L L' M M':Nat}{Q:Int×Int→Prop}{v w:Nat→Wr}
theorem Fits.mono (h:Fits L M Q w) (hL:L≤L') (hM:M≤M'):Fits L' M' Q w:=fun n=>⟨A9 (h n).1 hL,A9 (h n).2.1 hM,(h n).2.2⟩
theorem fq:Fits 0 0 Q eu:=fun _=>⟨l0 _,l0 _,fun _ h=>by cases h⟩
theorem bL {a b c d:Int}:Fits 1 0 Q (aj a b c d):=fun _=>⟨l0 _,l0 _,fun _ h=>by cases h⟩
theorem mN {a b f pl:Int} (hq:Q (f,pl)):Fits 1 1 Q (ao a b f pl):=fun n=>⟨l0 _,l0 _,fun h hh=>by
 obtain rfl:h=((n:Int),f,pl):=by simpa[ao] using hh
 exact⟨G6 _,by simp[ao];omega,hq⟩⟩
theorem Fits.seq (hv:Fits L M Q v) (hw:Fits L' M' Q w):Fits (L+L') (M+M') Q (am v w):=fun n=>by
 obtain⟨a1,a2,a3⟩:=hv n
 obtain⟨b1,b2,b3⟩:=hw (n+(v n).code.length)
 refine⟨by simp only[am,j4];omega,by simp only[am,j4];omega,fun h hh=>?_⟩
 simp only[am,D1,j4] at hh ⊢
 rcases hh with hh|hh
 ·obtain⟨c1,c2,c3⟩:=a3 h hh
  exact⟨c1,a6,c3⟩
 ·obtain⟨c1,c2,c3⟩:=b3 h hh
  exact⟨a6,a6,c3⟩
theorem dY:Fits 1 0 Q (jM P f d r b):=bL
theorem fI:Fits 1 0 Q (kZ P f d r b):=bL
theorem wv {r n:Int}:Fits 2 0 Q (vk r n):=by
 unfold vk
 split
 ·exact bL.seq bL
 ·exact bL.mono a8 a8
theorem yE{d:Int}:Fits 3 0 Q (vl fs P f d):=by
 unfold vl
 split
 ·exact bL.mono a8 a8
 ·simp only
  split
  ·exact dY.seq (bL.seq bL)
  ·exact(bL.seq bL).mono a8 a8
theorem rK {a:Int}:∀k,Fits k 0 Q (vm a k)
 |0=>fq
 |k+1=>(rK k).seq bL
theorem yF {a b:Int}:Fits 6 0 Q (vn a b):=by
 by_cases h:b-a≤6
 ·have e:vn a b=vm a (b-a).toNat:=if_pos h
  rw[e]
  exact(rK _).mono a6 a8
 ·have e:vn a b=fun n=>⟨[(1,1,0,a),(1,2,0,b),(17,0,1,0),(4,1,1,15),(14,3,1,2),(20,3,0,(n:Int)+2)],[]⟩:=if_neg h
  rw[e]
  exact fun n=>⟨l0 _,l0 _,fun _ h=>by cases h⟩
theorem pn {P:Plan}{f:Nat}{d p i:Int}:∀k,Fits (2*k) 0 Q (DC P f d p i k)
 |0=>fq
 |k+1=>((pn k).seq (dY.seq bL)).mono a6 a8
theorem BB{d a:Int}{S:Nat} (hS:∀y,fs[a.toNat]? = some y→y.params.toNat≤S∧Q (a,-1)):Fits (2*S+2) 1 Q (Aa fs P f d a):=by
 unfold Aa
 cases hy:fs[a.toNat]? with
 |none=>exact fq.mono a6 a8
 |some y=>
   obtain⟨h1,h2⟩:=hS y hy
   simp only
   split
   ·exact((pn _).seq ((mN h2).seq fI)).mono a6 a8
   ·exact((pn _).seq ((mN h2).seq fq)).mono a6 a8
theorem DF{d:Int}{x:Ins}{S:Nat} (hS:x.op=10→∀y,fs[x.a.toNat]? = some y→y.params.toNat≤S∧Q (x.a,-1)) (hQ:x.op=8∨x.op=9→Q ((f:Int),x.a)):Fits (2*S+5) 1 Q (tg fs P f d x):=by
 by_cases h1:x.op=1
 ·rw[show tg fs P f d x=_ from if_pos h1]
  exact(wv.seq fI).mono a6 a8
 by_cases h2:x.op=2
 ·rw[show tg fs P f d x=_ from(if_neg h1).trans (if_pos h2)]
  exact(bL.seq fI).mono a6 a8
 by_cases h3:x.op=3
 ·rw[show tg fs P f d x=_ from(if_neg h1).trans ((if_neg h2).trans (if_pos h3))]
  exact(dY.seq bL).mono a6 a8
 by_cases h4:x.op=4
 ·rw[show tg fs P f d x=_ from(if_neg h1).trans ((if_neg h2).trans ((if_neg h3).trans (if_pos h4)))]
  exact(dY.seq (bL.seq (bL.seq fI))).mono a6 a8
 by_cases h5:x.op=5
 ·rw[show tg fs P f d x=_ from(if_neg h1).trans ((if_neg h2).trans ((if_neg h3).trans ((if_neg h4).trans (if_pos h5))))]
  exact(dY.seq (bL.seq (dY.seq bL))).mono a6 a8
 by_cases h6:x.op=6
 ·rw[show tg fs P f d x=_ from(if_neg h1).trans ((if_neg h2).trans ((if_neg h3).trans ((if_neg h4).trans ((if_neg h5).trans (if_pos h6)))))]
  exact(dY.seq (dY.seq (bL.seq fI))).mono a6 a8
 by_cases h7:x.op=7
 ·rw[show tg fs P f d x=_ from(if_neg h1).trans ((if_neg h2).trans ((if_neg h3).trans ((if_neg h4).trans ((if_neg h5).trans ((if_neg h6).trans (if_pos h7))))))]
  exact(dY.seq (bL.seq fI)).mono a6 a8
 have e7:tg fs P f d x=if x.op=8 then ao 18 0 f x.a
 else if x.op=9 then am (jM P f d 1 1) (ao 19 1 f x.a)
 else if x.op=10 then Aa fs P f d x.a
 else if x.op=11 then vl fs P f d
 else if x.op=12 then am (aj 23 1 0 0) (kZ P f d 1 0)
 else if x.op=13 then am (jM P f d 1 1) (aj 24 1 0 0)
 else eu:=(if_neg h1).trans ((if_neg h2).trans ((if_neg h3).trans ((if_neg h4).trans ((if_neg h5).trans ((if_neg h6).trans (if_neg h7))))))
 rw[e7]
 by_cases h8:x.op=8
 ·rw[if_pos h8]
  exact(mN (hQ (.inl h8))).mono a6 a8
 rw[if_neg h8]
 by_cases h9:x.op=9
 ·rw[if_pos h9]
  exact(dY.seq (mN (hQ (.inr h9)))).mono a6 a8
 rw[if_neg h9]
 by_cases h10:x.op=10
 ·rw[if_pos h10]
  exact(BB (hS h10)).mono a6 a8
 rw[if_neg h10]
 by_cases h11:x.op=11
 ·rw[if_pos h11]
  exact yE.mono a6 a8
 rw[if_neg h11]
 by_cases h12:x.op=12
 ·rw[if_pos h12]
  exact(bL.seq fI).mono a6 a8
 rw[if_neg h12]
 by_cases h13:x.op=13
 ·rw[if_pos h13]
  exact(dY.seq bL).mono a6 a8
 rw[if_neg h13]
 exact fq.mono a6 a8
theorem BC:Fits 7 0 Q (DD fs P f):=by
 unfold DD
 split
 ·exact fq.mono a8 a8
 ·cases fs[f]? with
  |none=>exact fq.mono a8 a8
  |some y=>exact(bL.seq yF).mono a8 a8
theorem tW {fs:List Src.CFn}{P:Plan}{f:Nat}{cd:Lower.Code}{ds:List Int}{S:Nat} (h:∀x∈cd,(x.1.op=10→∀y,fs[x.1.a.toNat]? = some y→y.params.toNat≤S∧Q (x.1.a,-1))∧(x.1.op=8∨x.1.op=9→Q ((f:Int),x.1.a))):∀k,Fits (7+k*(2*S+5)) k Q (qf fs P f cd ds k)
 |0=>BC.mono a6 a6
 |k+1=>by
   have ih:=tW (P:=P) (ds:=ds) h k
   rw[qf]
   cases hx:cd[k]? with
   |none=>exact(ih.seq fq).mono (by rw[E6];omega) a6
   |some x=>
     cases hd:ds[k]? with
     |none=>exact(ih.seq fq).mono (by rw[E6];omega) a6
     |some d=>
       simp only
       obtain⟨h1,h2⟩:=h x (l6 hx)
       split
       ·exact(ih.seq (DF h1 h2)).mono (by rw[E6];omega) a6
       ·exact(ih.seq fq).mono (by rw[E6];omega) a6
end
end
section
def gQ (x:Src.CFn):Lower.Code:=codeOf x.word x.body
def szF (fs:List Src.CFn) (S f:Nat):Nat:=match fs[f]? with|some x=>7+(gQ x).length*(2*S+5)|none=>0
def po (fs:List Src.CFn) (S:Nat):Nat→Nat
 |0=>0
 |k+1=>po fs S k+szF fs S k
theorem BD (fs:List Src.CFn) (S:Nat) {a b:Nat} (h:a≤b):po fs S a≤po fs S b:=by
 induction h with
 |refl=>exact l0 _
 |step _ ih=>exact A9 ih (Q2 _ _)
theorem Ab (fs:List Src.CFn) (S:Nat):∀k,k≤fs.length→po fs S k≤7*k+((fs.take k).map fun x=>(gQ x).length).sum*(2*S+5)
 |0,_=>by simp[po]
 |k+1,h=>by
   have ih:=Ab fs S k a6
   have hk:fs[k]? = some (fs[k]'a6):=w9 a6
   rw[po,A2,hk]
   simp only[szF,hk,Option.toList,A3,L6,l7,v8,F9,R9,E6,I6]
   omega
def Kc (fs:List Src.CFn) (q:Int×Int):Prop:=(0≤q.1∧q.1<(fs.length:Int))∧(0≤q.2→∃x,fs[q.1.toNat]? = some x∧q.2<((gQ x).length:Int))
structure DG (fs:List Src.CFn) (P:Plan) (S:Nat):Prop where
 n:0<fs.length
 dl:P.depths.length=fs.length
 c:∀x∈fs,∀y∈gQ x,y.1.op=10→∃(k:Nat) (z:Src.CFn),y.1.a=(k:Int)∧fs[k]? = some z
 j:∀x∈fs,∀y∈gQ x,y.1.op=8∨y.1.op=9→0≤y.1.a∧y.1.a<((gQ x).length:Int)
 p:∀x∈fs,x.params.toNat≤S
variable {fs:List Src.CFn}{P:Plan}{x:Src.CFn}
theorem DG.fits{S:Nat} (h:DG fs P S) {f:Nat} (hx:fs[f]? = some x) (ds:List Int) (k:Nat):Fits (7+k*(2*S+5)) k (Kc fs) (qf fs P f (gQ x) ds k):=by
 have hm:=l6 hx
 have hfl:f<fs.length:=(l4.1 hx).1
 refine tW (fun y hy=>⟨fun h10 z hz=>?_,fun h89=>?_⟩) k
 ·obtain⟨c,z',e1,e2⟩:=h.c x hm y hy h10
  have:c<fs.length:=(l4.1 e2).1
  exact⟨h.p z (l6 hz),⟨by simp only[e1];omega,fun h0=>by simp only at h0;omega⟩⟩
 ·obtain⟨a1,a2⟩:=h.j x hm y hy h89
  exact⟨⟨by simp only;omega,by simp only;omega⟩,fun _=>⟨x,by simp only[A6];exact hx,a2⟩⟩
structure rL (fs:List Src.CFn) (d:ip) (done:Nat→Prop) (N:Nat):Prop where
 c:d.code.length≤N
 hl:d.holes.length≤N
 h:∀x∈d.holes,0≤x.1∧x.1<(d.code.length:Int)∧Kc fs x.2
 pl:d.pls.length=fs.length
 el:d.ent.length=fs.length
 p:∀f,done f→∃x l,fs[f]? = some x∧d.pls[f]? = some l∧l.length=(gQ x).length
theorem BE{d:ip}{f:Nat}{ds:List Int} (hx:fs[f]? = some x) (hd:P.depths[f]? = some ds):eM fs P d f =
  ⟨d.code++(qf fs P f (gQ x) ds (gQ x).length d.code.length).code,d.holes++(qf fs P f (gQ x) ds (gQ x).length d.code.length).holes,d.ent.set f d.code.length,d.pls.set f (placesOf fs P f (gQ x) ds d.code.length)⟩:=by
 unfold eM
 rw[hx,hd]
 rfl
theorem rL.add{S:Nat} (H:DG fs P S) {d:ip}{done:Nat→Prop}{N f:Nat} (h:rL fs d done N) (hf:f<fs.length):rL fs (eM fs P d f) (fun i=>done i∨i=f) (N+szF fs S f):=by
 obtain⟨x,hx⟩:∃x,fs[f]? = some x:=⟨_,w9 hf⟩
 obtain⟨ds,hd⟩:∃ds,P.depths[f]? = some ds:=⟨_,w9 (by rw[H.dl];exact hf)⟩
 obtain⟨f1,f2,f3⟩:=H.fits hx ds (gQ x).length d.code.length
 have hsz:szF fs S f=7+(gQ x).length*(2*S+5):=by unfold szF;rw[hx]
 have hge:(gQ x).length≤(gQ x).length*(2*S+5):=Nat.le_mul_of_pos_right _ a6
 rw[BE hx hd,hsz]
 refine⟨?_,?_,fun y hy=>?_,?_,?_,fun i hi=>?_⟩
 ·simp only[j4];have:=h.c;omega
 ·simp only[j4];have:=h.hl;omega
 ·simp only[D1,j4] at hy ⊢
  rcases hy with hy|hy
  ·obtain⟨a1,a2,a3⟩:=h.h y hy
   exact⟨a1,a6,a3⟩
  ·obtain⟨a1,a2,a3⟩:=f3 y hy
   exact⟨a6,a6,a3⟩
 ·simp only[C6];exact h.pl
 ·simp only[C6];exact h.el
 ·simp only
  by_cases e:i=f
  ·subst e
   exact⟨x,_,hx,by rw[D2,if_pos rfl,if_pos (by rw[h.pl];exact hf)],by simp[placesOf]⟩
  ·obtain⟨x',l,e1,e2,e3⟩:=h.p i (hi.resolve_right e)
   exact⟨x',l,e1,by rw[D2,if_neg (z7 e)];exact e2,e3⟩
theorem Hx {fs:List Src.CFn}{P:Plan}{S:Nat} (H:DG fs P S):∀k,k≤fs.length-1→rL fs (Ly fs P k) (fun i=>i<k∨i=fs.length-1) (1+szF fs S (fs.length-1)+po fs S k)
 |0,_=>by
   have hn:=H.n
   have h0:rL fs ⟨[(1,15,0,1)],[],List.replicate fs.length 0,List.replicate fs.length []⟩ (fun _=>False) 1:=⟨a7,a7,(fun _ h=>by cases h),a7,a7,(fun _ h=>False.elim h)⟩
   have h1:=h0.add H (f:=fs.length-1) a6
   refine⟨h1.c,h1.hl,h1.h,h1.pl,h1.el,fun i hi=>h1.p i (.inr (hi.resolve_left a6))⟩
 |k+1,hk=>by
   have ih:=(Hx H k a6).add H (f:=k) a6
   refine⟨by have:=ih.c;rw[po];exact A9 this a6,by have:=ih.hl;rw[po];exact A9 this a6,ih.h,ih.pl,ih.el,fun i hi=>ih.p i ?_⟩
   rcases hi with hi|hi
   ·by_cases e:i=k
    ·exact .inr e
    ·exact .inl (.inl a6)
   ·exact .inl (.inr hi)
theorem Oo (fs:List Src.CFn) (S:Nat) {k:Nat} (hn:0<fs.length) (hk:k≤fs.length-1):szF fs S (fs.length-1)+po fs S k≤po fs S fs.length:=by
 obtain⟨m,hm⟩:∃m,fs.length=m+1:=⟨fs.length-1,a6⟩
 have h1:=BD fs S hk
 rw[hm] at h1 ⊢
 rw[show m+1-1=m by omega] at h1 ⊢
 rw[po]
 omega
end
end
section
open Go.Lower (Ins Code Sig codeOf takes next Inv left Good OkI gL)
open Go.Src (al cX lw jF uD aP sigs cC dS lK bu CFn)
section
theorem BF (n:Nat):∀(l:List (List Int)) (k:Nat) (w:Int),(∀o∈l,0≤deepest o 0)→w≤(gu n k l w).2.2∧∀x∈(gu n k l w).2.1,w≤x∧x≤(gu n k l w).2.2
 |[],k,w,_=>⟨G6 _,fun _ h=>by cases h⟩
 |o::l,k,w,h=>by
   have h0:=h o a7
   simp only[gu]
   have ih:=BF n l (k+1) ((if k+1=n then w else w+1)+deepest o 0) (fun o ho=>h o Yd)
   have hb:w≤(if k+1=n then w else w+1):=by split <;> omega
   refine⟨a6,fun x hx=>?_⟩
   rcases x9.1 hx with rfl|hx
   ·exact⟨hb,a6⟩
   ·have:=ih.2 x hx
    exact⟨a6,a6⟩
theorem yG:∀(l:List Int) (d:Int),d≤deepest l d
 |[],d=>G6 _
 |a::l,d=>by rw[vh];have:=yG l (max d a);omega
theorem Kd:∀(l:List Asm.Str) (m:Src.Pl) (w:Int),w≤(Src.gV l m w).2
 |[],m,w=>G6 _
 |n::l,m,w=>by rw[Src.gV];have:=Kd l ((n,w,0)::m) (w+1);omega
theorem Ke:∀(l:List (Asm.Str×Int)) (m:Src.Pl) (w:Int),(∀a∈l,0≤a.2)→w≤(Src.gA l m w).2
 |[],m,w,_=>G6 _
 |n::l,m,w,h=>by rw[Src.gA];have:=Ke l ((n.1,w,n.2)::m) (w+n.2) (fun a ha=>h a (by simp[ha]));have:=h n a7;omega
variable {p:Src.Prog}{x:CFn}
theorem Lz (h:cC p=0):0≤(aP p).2:=by
 obtain⟨hr,_,_⟩:=Src.xD h
 unfold dS at hr
 simp only[s9,x7] at hr
 have har:∀a∈p.arrays,0≤a.2:=fun a ha=>by
  have:=hr.2.1 a ha
  unfold Src.fF at this
  simp at this
  omega
 unfold aP
 have h1:=Kd p.vars [] 0
 have h2:=Ke p.arrays (Src.gV p.vars [] 0).1 (Src.gV p.vars [] 0).2 har
 omega
theorem Kf{k:Nat} (hx:(al p).funcs[k]? = some x):∃f w,p.funcs[k]? = some f∧(aP p).2≤w∧x=Src.mF (aP p).1 f w∧w+(f.params.length+f.locals.length)≤(al p).words:=by
 unfold al at hx ⊢
 simp only at hx ⊢
 have hk:k<p.funcs.length:=by
  have:=(l4.1 hx).1
  rw[jF] at this
  exact this
 obtain⟨f,hf⟩:∃f,p.funcs[k]? = some f:=⟨_,w9 hk⟩
 obtain⟨w',h1,h2,h3⟩:=lw (aP p).1 p.funcs (aP p).2 k f hf
 rw[hx] at h2
 exact⟨f,w',hf,h1,D5 h2,h3⟩
theorem LA (hx:x∈(al p).funcs):∃f w,f∈p.funcs∧(aP p).2≤w∧x=Src.mF (aP p).1 f w∧w+(f.params.length+f.locals.length)≤(al p).words:=by
 obtain⟨k,hk⟩:=C9 hx
 obtain⟨f,w,h1,h2⟩:=Kf hk
 exact⟨f,w,l6 h1,h2⟩
theorem yH (p:Src.Prog):(al p).funcs.length=p.funcs.length:=jF _ _ _
theorem LB (p:Src.Prog):(al p).funcs.map (fun x=>(x.params,x.word))=sigs p.funcs:=by
 apply N3
 intro k
 unfold sigs
 rw[w8,w8]
 cases hx:(al p).funcs[k]? with
 |none=>
   have:p.funcs.length≤k:=by rw[←yH];exact T3.1 hx
   rw[B9 this]
   rfl
 |some x=>
   obtain⟨f,w,h1,_,rfl,_⟩:=Kf hx
   rw[h1]
   rfl
theorem tX (h:cC p=0) (hx:x∈(al p).funcs) :
  let T:=fun k=>((gQ x)[k]?).map Prod.snd
  T 0=some 0∧Lower.Good (sigs p.funcs) x.word T 0 (gQ x):=by
 obtain⟨k,hk⟩:=C9 hx
 exact Lower.xC (Src.No h hk)
theorem DH (h:cC p=0) (hx:x∈(al p).funcs) {y:Ins×Int} (hy:y∈gQ x):(1≤y.1.op∧y.1.op≤13)∧(y.1.op=10→∃(c:Nat) (z:CFn),y.1.a=(c:Int)∧(al p).funcs[c]? = some z)∧(y.1.op=8∨y.1.op=9→0≤y.1.a∧y.1.a<((gQ x).length:Int)):=by
 obtain⟨k,hk⟩:=C9 hx
 obtain⟨i,hi⟩:=C9 hy
 obtain⟨t,q,htk,_⟩:=gL (tX h hx).2 hi
 refine⟨by have:=tV htk;omega,fun h10=>?_,fun h89=>Lower.Jk (Src.No h hk) hi h89⟩
 by_cases ha:y.1.a<0
 ·simp[takes,h10,ha] at htk
 ·obtain⟨c,hc⟩:∃c:Nat,y.1.a=(c:Int):=⟨y.1.a.toNat,a6⟩
  cases hs:(sigs p.funcs)[c]? with
  |none=>simp[takes,h10,hc,hs] at htk
  |some s=>
    have hl:c<(al p).funcs.length:=by
     have:=(l4.1 hs).1
     rw[←LB,j5] at this
     exact this
    exact⟨c,_,hc,w9 hl⟩
theorem LC{f:Nat}{ds:List Int} (hd:(vj (al p).words (al p).funcs).depths[f]? = some ds):∃x,(al p).funcs[f]? = some x∧ds=kv (gQ x):=by
 unfold vj at hd
 simp only[w8] at hd
 obtain⟨x,h1,h2⟩:=I5.1 hd
 exact⟨x,h1,h2.symm⟩
theorem Oq (h:cC p=0) (hx:x∈(al p).funcs):(kv (gQ x)).length=(gQ x).length∧∀d∈kv (gQ x),-1≤d∧d≤((gQ x).length:Int):=by
 obtain⟨h0,hg⟩:=tX h hx
 obtain⟨hm,_⟩:=vp (fun _=>rfl) h0 hg
 refine⟨hm.inv.1,fun d hd=>?_⟩
 obtain⟨k,hk⟩:=C9 hd
 have:=hm.le d hd
 rcases hm.inv.2.1 k d hk with h|⟨_,h⟩ <;> omega
theorem Un (h:cC p=0) {S:Nat} (hS:∀f∈p.funcs,f.params.length≤S):DG (al p).funcs (vj (al p).words (al p).funcs) S:=by
 obtain⟨hr,_,_⟩:=Src.xD h
 have hl:1≤p.funcs.length:=by unfold dS at hr;simp at hr;exact hr.1.1.1
 refine⟨by rw[yH];exact hl,by simp[vj],fun x hx y hy=>(DH h hx hy).2.1,fun x hx y hy=>(DH h hx hy).2.2,fun x hx=>?_⟩
 obtain⟨f,w,h1,_,rfl,_⟩:=LA hx
 simp only[Src.mF,A6]
 exact hS f h1
theorem rM {α:Type} (f g:α→Nat) (h:∀x,f x≤6*g x+2):∀l:List α,(l.map f).sum≤6*(l.map g).sum+2*l.length
 |[]=>by simp
 |a::l=>by
   have:=rM f g h l
   have:=h a
   simp only[l7,F9,j6]
   omega
theorem PU{S:Nat} (hl:p.funcs.length≤64) (hN:(p.funcs.map fun f=>bu f.body).sum≤S):po (al p).funcs S (al p).funcs.length≤448+(6*S+128)*(2*S+5):=by
 have h1:=Ab (al p).funcs S (al p).funcs.length (l0 _)
 rw[G9] at h1
 have h2:=rM (fun x:CFn=>(gQ x).length) (fun x=>Src.lK x.body) (fun x=>Src.Ot x.word x.body) (al p).funcs
 have h3:((al p).funcs.map fun x=>Src.lK x.body).sum=(p.funcs.map fun f=>bu f.body).sum:=Src.xG _ _ _
 have h4:=yH p
 have h5:((al p).funcs.map fun x=>(gQ x).length).sum≤6*S+128:=a6
 have:=M0 (2*S+5) h5
 omega
end
end
end Go.Emit

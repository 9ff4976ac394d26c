/- A part of the proof; no conditions. -/
import Derived.Test.YtphohejoiocikaaGreatDoorPart16
set_option linter.unusedSimpArgs false
set_option linter.unusedVariables false
set_option maxHeartbeats 64000000
set_option maxRecDepth 100000
namespace Go.Proofs.YtphohejoiocikaaGreatDoor
section
attribute [local congr] Go.Am.ite_cc
open Go Go.Am Go.Asm
open Go.Src (aY ae takeN Ex Stm RQ isR ah bg kM)
section
def rdW (ts:List Src.Tok) (q:Nat×Bool):List C:=[.d (bN ts),.d (.int .i64 (q.1:Nat)),.d (.bool q.2)]
def iX {α:Type} (f:FuncId) (xs:List AV) (ts:List Src.Tok) (q:Nat×Bool) (r:RQ α) (enc:α→AV):Prop:=
 ∀(B:Nat) (g:Nat→Nat) (ob:Obs),200≤B→(∀i,B≤i→ob i=none)→ob 125=some (rdW ts q)→
  dK Tryz.prog f (.one (.ptr 125 (g 125) 0)::xs) g ob (fun v g' ob'=>v=enc r.1∧g'=g∧ob'=upd ob 125 (some (rdW ts r.2)))
variable {ts:List Src.Tok}{q:Nat×Bool}{g:Nat→Nat}{ob:Obs}{s:St}{o:Oper}{K:St→Prop}{args:Array Operand}{tys:Array TypeId}{B0:Nat}{Ψ:dL}{k:Box K}
theorem InF.endsW {B:Nat}{g g1:Nat→Nat}{ob ob1:Obs} (h:InF B g ob g1 ob1) (ho:ob1 125=some (rdW ts q)):xV B [125] g ob g1 ob1∧gB [125] g g1=g∧fG [125] ob ob1=upd ob 125 (some (rdW ts q)):=by
 refine⟨⟨fun i hi h5=>h.same i hi (by simpa using h5),fun i hi cells hc c hcc=>?_⟩,sc h.rd,by rw[sd,ho]⟩
 obtain rfl:=C8.1 hi
 rw[ho] at hc
 cases hc
 simp only[rdW,s7,u7,E0] at hcc
 rcases hcc with rfl|rfl|rfl <;> trivial
theorem InF.retW {α:Type}{B:Nat}{p r:RQ α}{enc:α→AV}{avs rs:List AV} (h:InF B g ob s.gen s.obj) (hp:p=r) (ho:s.obj 125=some (rdW ts r.2)) (hf:fg B s avs rs) (hr:pack rs=enc r.1) :
  qY B [125] g ob (fun v g' ob'=>v=enc p.1∧g'=g∧ob'=upd ob 125 (some (rdW ts p.2))) s avs:=by
 subst hp
 obtain⟨h1,h2,h3⟩:=h.endsW ho
 exact⟨h1,rs,hf,hr,h2,h3⟩
section
variable {b₀:Bs}{rd:Option Nat}{Φ:St→Am.Loc→List Deferred→World→Prop}
theorem aA {α:Type} (hΦ:aX b₀ Φ){f:FuncId} (ho:o.op=.call ⟨.value (.func f),args,tys⟩) {xs:List AV}{r:RQ α}{enc:α→AV}
  (hr:iX f xs ts q r enc) (hx:args.toList.map s.ev=.one (.ptr 125 (s.gen 125) 0)::xs) (Bc:Nat) (hB:200≤Bc) (hfree:∀i,Bc≤i→s.obj i=none) (hob:s.obj 125=some (rdW ts q))
  (hk:K (St.put ⟨s.f,s.gen,upd s.obj 125 (some (rdW ts r.2))⟩ o.dst (enc r.1))):br (spF Tryz.prog rd b₀ Φ B0 Ψ) o s k:=
 am hΦ ho (by rw[hx];exact hr Bc s.gen s.obj hB hfree hob) (by rintro _ _ _ ⟨rfl,rfl,rfl⟩;exact hk)
end
theorem uE (ho:ob 125=some (rdW ts q)) :
  dK Tryz.prog 99 [.one (.ptr 125 (g 125) 0)] g ob (fun r g' ob'=>r=sv (ae ts q.1)∧g'=g∧ob'=ob):=by
 obtain⟨n,w⟩:=q
 show dK Tryz.prog 99 _ g ob (fun r g' ob'=>r=sv (ae ts n)∧g'=g∧ob'=ob)
 generalize hz:ae ts n=z
 refine hdF 9000 Tryz.func99 rfl [2] ?_
 unfold rdW bN at ho
 have hn0:(0:Int)≤(n:Int):=a6
 unfold ae at hz
 simp only[go_sem]
 refine bS b0 ?_
 by_cases hlt:n<ts.length
 case neg=>
  exact Nt
 have hlti:(n:Int)<(ts.length:Int):=a6
 obtain⟨t,ht⟩:=getq hlt
 have htg:=lL ht
 rw[ht] at hz
 simp only at hz
 by_cases h3:t.kind=3
 ·have h3i:(t.kind:Int)=3:=a6
  rw[if_pos (.inl h3)] at hz
  subst hz
  simp only[go_sem,ho,b7,hlti,hn0,htg,h3i]
  exact NF
 have h3i:¬(t.kind:Int)=3:=a6
 by_cases h4:t.kind=4
 ·have h4i:(t.kind:Int)=4:=a6
  rw[if_pos (.inr h4)] at hz
  subst hz
  simp only[go_sem,ho,b7,hlti,hn0,htg,h3i,h4i]
  exact NF
 ·have h4i:¬(t.kind:Int)=4:=a6
  rw[if_neg (by simp[h3,h4])] at hz
  subst hz
  simp only[go_sem,ho,b7,hlti,hn0,htg,h3i,h4i]
  exact MM
theorem rz{k:Nat} (hk:0<k) (ho:ob 125=some (rdW ts q)) {z:Bool} (hz:decide (q.2=false∧aY ts q.1=k)=z) :
  dK Tryz.prog 100 [.one (.ptr 125 (g 125) 0),iv .i64 k] g ob (fun r g' ob'=>r=bv z∧g'=g∧ob'=ob):=by
 obtain⟨n,w⟩:=q
 refine hdF 9000 Tryz.func100 rfl [4] ?_
 unfold rdW bN at ho
 have hn0:(0:Int)≤(n:Int):=a6
 simp only[go_sem]
 refine bS b0 ?_
 unfold aY at hz
 cases w with
 |true=>
   simp only[go_sem,ho]
   refine⟨_,al.refl _,?_,rfl,rfl⟩
   rw[←hz];rfl
 |false=>
   by_cases hlt:n<ts.length
   case neg=>
    have hlti:¬(n:Int)<(ts.length:Int):=a6
    rw[v8 a6] at hz
    simp only[go_sem,ho,b7,hlti]
    obtain rfl:z=false:=by rw[←hz];simp;intro h;omega
    exact MM
   have hlti:(n:Int)<(ts.length:Int):=a6
   obtain⟨t,ht⟩:=getq hlt
   have htg:=lL ht
   rw[ht] at hz
   simp only at hz
   by_cases hk:t.kind=k
   ·have hki:(t.kind:Int)=(k:Int):=a6
    simp only[go_sem,ho,b7,hlti,hn0,htg,hki]
    obtain rfl:z=true:=by rw[←hz];simp[hk]
    exact MM
   ·have hki:¬(t.kind:Int)=(k:Int):=a6
    simp only[go_sem,ho,b7,hlti,hn0,htg,hki]
    obtain rfl:z=false:=by rw[←hz];simp[hk]
    exact MM
def IsW (ts:List Src.Tok) (q:Nat×Bool) (s:Str) (g:Nat→Nat) (ob:Obs) (r:AV) (g':Nat→Nat) (ob':Obs):Prop:=
 g'=g∧((isR ts s q∧r=bv true∧ob'=upd ob 125 (some (rdW ts (q.1+1,false))))∨(¬isR ts s q∧r=bv false∧ob'=ob))
theorem Jy (ho:ob 125=some (rdW ts q)) (hn:q.1≤1000000) (s:Str) :
  dK Tryz.prog 55 [.one (.ptr 125 (g 125) 0),sv s] g ob (IsW ts q s g ob):=by
 obtain⟨n,w⟩:=q
 refine hdF 9000 Tryz.func55 rfl [4] ?_
 have hw:=ag (k:=n) (by simp only at hn;omega)
 have ho':=ho
 unfold rdW bN at ho
 cases w with
 |true=>
   simp only[go_sem,ho]
   exact⟨_,al.refl _,rfl,.inr ⟨fun h=>(by cases h.1),rfl,rfl⟩⟩
 |false=>
   simp only[go_sem,ho]
   refine fF rfl (by simp only[go_sem];exact uE ho') ?_
   rintro _ g1 ob1 ⟨rfl,rfl,rfl⟩
   by_cases he:ae ts n=s
   ·simp only[go_sem,he,ho,hw]
    refine⟨_,al.refl _,rfl,.inl ⟨⟨rfl,he⟩,rfl,?_⟩⟩
    simp only[go_sem,rdW,bN]
   ·simp only[go_sem,he]
    exact⟨_,al.refl _,rfl,.inr ⟨fun h=>he h.2,rfl,rfl⟩⟩
theorem FA (ts:List Src.Tok) (q:Nat×Bool) (s:Str) (hn:q.1≤1000000):iX 57 [sv s] ts q ((),ah ts s q) (fun _=>uv):=by
 intro B g ob hB hf ho
 refine hdF 9000 Tryz.func57 rfl [] ?_
 simp only[go_sem]
 refine fF rfl (by simp only[go_sem];exact Jy ho hn s) ?_
 rintro _ g1 ob1 ⟨rfl,⟨hi,rfl,rfl⟩|⟨hi,rfl,rfl⟩⟩
 ·simp only[go_sem]
  exact⟨_,al.refl _,rfl,rfl,by simp only[ah];rw[if_pos hi]⟩
 ·unfold rdW at ho
  simp only[go_sem,ho]
  exact⟨_,al.refl _,rfl,rfl,by simp only[ah];rw[if_neg hi];rfl⟩
section
variable {b₀:Bs}{rd:Option Nat}{Φ:St→Am.Loc→List Deferred→World→Prop}
theorem bF (ts:List Src.Tok) (q:Nat×Bool) (x:Str) (hΦ:aX b₀ Φ) (ho:o.op=.call ⟨.value (.func 55),args,tys⟩)
  (hx:args.toList.map s.ev=[.one (.ptr 125 (s.gen 125) 0),sv x]) (hob:s.obj 125=some (rdW ts q)) (hn:q.1≤1000000)
  (h1:isR ts x q→K (St.put ⟨s.f,s.gen,upd s.obj 125 (some (rdW ts (q.1+1,false)))⟩ o.dst (bv true))) (h2:¬isR ts x q→K (St.put s o.dst (bv false))):br (spF Tryz.prog rd b₀ Φ B0 Ψ) o s k:=by
 refine am hΦ ho (by rw[hx];exact Jy hob hn x) ?_
 rintro _ _ _ ⟨rfl,⟨hi,rfl,rfl⟩|⟨hi,rfl,rfl⟩⟩
 ·exact h1 hi
 ·exact h2 hi
theorem aE (ts:List Src.Tok) (q:Nat×Bool) (x:Str) (hΦ:aX b₀ Φ) (ho:o.op=.call ⟨.value (.func 57),args,tys⟩)
  (hx:args.toList.map s.ev=[.one (.ptr 125 (s.gen 125) 0),sv x]) (hob:s.obj 125=some (rdW ts q)) (hn:q.1≤1000000) (Bc:Nat) (hB:200≤Bc) (hfree:∀i,Bc≤i→s.obj i=none)
  (h1:K (St.put ⟨s.f,s.gen,upd s.obj 125 (some (rdW ts (ah ts x q)))⟩ o.dst uv)):br (spF Tryz.prog rd b₀ Φ B0 Ψ) o s k:=aA hΦ ho (FA ts q x hn) hx Bc hB hfree hob h1
end
end
end
end Go.Proofs.YtphohejoiocikaaGreatDoor
namespace Go.Src
section
open Go.Asm (Str)
section
variable {q:Nat×Bool}{s:Str}
section
variable {ts:List Tok}
theorem cP (h:isR ts s q) (hs:s≠[]):q.1+1≤ts.length:=aH h.2 hs
theorem bY (hs:s≠[]) (h:q.1≤ts.length):q.1≤(ah ts s q).1∧(ah ts s q).1≤ts.length:=by
 unfold ah
 split
 ·rename_i hi
  exact⟨K5 _,cP hi hs⟩
 ·exact⟨b9 _,h⟩
theorem kf {k:Nat} (hk:0<k) (h:q.1≤ts.length):q.1≤(bg ts k q).2.1∧(bg ts k q).2.1≤ts.length:=by
 unfold bg
 split
 ·rename_i hi
  exact⟨K5 _,Cx hi.2 a6⟩
 ·exact⟨b9 _,h⟩
mutual
theorem jL:∀(k least:Nat) (q:Nat×Bool),0<least→q.1≤ts.length→q.1≤(eR ts k least q).2.1∧(eR ts k least q).2.1≤ts.length
 |0,_,_,_,h=>⟨b9 _,h⟩
 |k+1,least,q,h0,h=>by
   rw[eR]
   split
   ·exact Dd k q h
   ·have h1:=jL k (least+1) q a6 h
    have h2:=yh k least _ h0 h1.2
    omega
theorem yh:∀(k least:Nat) (r:RQ Ex),0<least→r.2.1≤ts.length→r.2.1≤(loR ts k least r).2.1∧(loR ts k least r).2.1≤ts.length
 |0,_,_,_,h=>⟨b9 _,h⟩
 |k+1,least,r,h0,h=>by
   rw[loR]
   split
   ·rename_i hs
    have hn:r.2.1<ts.length:=nL h0 a6
    ·have h1:=jL k (least+1) (r.2.1+1,false) a6 hn
     have h2:=yh k least (.mk (cG (ae ts r.2.1)).1 (cG (ae ts r.2.1)).2.1 0 [] [r.1,(eR ts k (least+1) (r.2.1+1,false)).1],(eR ts k (least+1) (r.2.1+1,false)).2) h0 h1.2
     exact MR
   ·exact⟨b9 _,h⟩
theorem Dd:∀(k:Nat) (q:Nat×Bool),q.1≤ts.length→q.1≤(aR ts k q).2.1∧(aR ts k q).2.1≤ts.length
 |0,_,h=>⟨b9 _,h⟩
 |k+1,q,h=>by
   rw[aR]
   split
   ·exact kf a6 h
   split
   ·rename_i hi
    have h0:=cP hi a7
    have h1:=bY (ts:=ts) (s:=aW) (q:=(q.1+1,false)) Oq h0
    have h2:=bY (ts:=ts) (s:=aT) Oy h1.2
    exact MR
   split
   ·rename_i hi
    have h1:=Dd k (q.1+1,false) (cP hi a7)
    exact NT
   split
   ·rename_i hi
    have h1:=jL k 1 (q.1+1,false) a6 (cP hi Oq)
    have h2:=bY (ts:=ts) (s:=aT) Oy h1.2
    exact MR
   have h0:=kf (ts:=ts) (k:=1) a6 h
   split
   ·rename_i hi
    have h1:=jL k 1 ((bg ts 1 q).2.1+1,false) a6 (cP hi a7)
    have h2:=bY (ts:=ts) (s:=[93]) a7 h1.2
    exact MR
   split
   ·rename_i hi
    have h1:=De k ((bg ts 1 q).2.1+1,false) (cP hi Oq)
    exact NT
   ·exact h0
theorem De:∀(k:Nat) (q:Nat×Bool),q.1≤ts.length→q.1≤(gR ts k q).2.1∧(gR ts k q).2.1≤ts.length
 |0,_,h=>⟨b9 _,h⟩
 |k+1,q,h=>by
   rw[gR]
   split
   ·rename_i hi
    have h0:=cP hi Oy
    exact⟨K5 _,h0⟩
   ·have h1:=jL k 1 q a6 h
    have h2:=yi k ([(eR ts k 1 q).1],(eR ts k 1 q).2) h1.2
    exact MR
theorem yi:∀(k:Nat) (r:RQ (List Ex)),r.2.1≤ts.length→r.2.1≤(goR ts k r).2.1∧(goR ts k r).2.1≤ts.length
 |0,_,h=>⟨b9 _,h⟩
 |k+1,r,h=>by
   rw[goR]
   split
   ·rename_i hi
    have h1:=jL k 1 (r.2.1+1,false) a6 (cP hi OX)
    have h2:=yi k (r.1++[(eR ts k 1 (r.2.1+1,false)).1],(eR ts k 1 (r.2.1+1,false)).2) h1.2
    exact MR
   ·exact bY Oy h
end
theorem yj (h:q.1≤ts.length):q.1≤(cR ts q).2.1∧(cR ts q).2.1≤ts.length:=by
 have h1:=bY (ts:=ts) (s:=aW) Oq h
 have h2:=jL (kE ts) 1 _ a6 h1.2
 have h3:=bY (ts:=ts) (s:=aT) Oy h2.2
 unfold cR
 simp only
 omega
theorem EO (h:q.1≤ts.length):q.1≤(nsR ts q).2.1∧(nsR ts q).2.1≤ts.length:=by
 have h0:=kf (ts:=ts) (k:=1) a6 h
 unfold nsR
 simp only
 split
 ·rename_i hi
  have h1:=De (kE ts) ((bg ts 1 q).2.1+1,false) (cP hi Oq)
  exact NT
 split
 ·rename_i hi
  have h1:=jL (kE ts) 1 ((bg ts 1 q).2.1+1,false) a6 (cP hi a7)
  have h2:=bY (ts:=ts) (s:=[93]) a7 h1.2
  have h3:=bY (ts:=ts) (s:=[61]) a7 h2.2
  have h4:=jL (kE ts) 1 _ a6 h3.2
  exact NT
 ·have h3:=bY (ts:=ts) (s:=[61]) a7 h0.2
  have h4:=jL (kE ts) 1 _ a6 h3.2
  simp only
  omega
theorem EP (h:q.1≤ts.length):q.1≤(nmR ts q).2.1∧(nmR ts q).2.1≤ts.length:=by
 have h1:=EO h
 have h2:=bY (ts:=ts) (s:=bz) OC h1.2
 unfold nmR
 simp only
 omega
mutual
theorem EQ:∀(k:Nat) (q:Nat×Bool),q.1≤ts.length→q.1≤(stR ts k q).2.1∧(stR ts k q).2.1≤ts.length
 |0,_,h=>⟨b9 _,h⟩
 |k+1,q,h=>by
   rw[stR]
   split
   ·rename_i hi
    have h1:=yj (ts:=ts) (q:=(q.1+1,false)) (cP hi a7)
    have h2:=bY (ts:=ts) (s:=bz) OC h1.2
    exact MR
   split
   ·rename_i hi
    have h0:=cP hi a7
    split
    ·rename_i hj
     have h1:=cP hj OC
     exact NT
    ·have h1:=jL (kE ts) 1 (q.1+1,false) a6 h0
     have h2:=bY (ts:=ts) (s:=bz) OC h1.2
     exact MR
   split
   ·rename_i hi
    have h1:=yj (ts:=ts) (q:=(q.1+1,false)) (cP hi a7)
    have h2:=yk k _ h1.2
    simp only at h1 h2 ⊢
    split
    ·rename_i hj
     have h3:=yk k (_+1,false) (cP hj a7)
     simp only at h3 ⊢
     omega
    ·simp only;omega
   split
   ·rename_i hi
    have h1:=yj (ts:=ts) (q:=(q.1+1,false)) (cP hi a7)
    have h2:=yk k _ h1.2
    exact MR
   ·exact EP h
theorem yk:∀(k:Nat) (q:Nat×Bool),q.1≤ts.length→q.1≤(bR ts k q).2.1∧(bR ts k q).2.1≤ts.length
 |0,_,h=>⟨b9 _,h⟩
 |k+1,q,h=>by
   rw[bR]
   have h1:=bY (ts:=ts) (s:=[123]) a7 h
   have h2:=uq k ([],ah ts [123] q) h1.2
   simp only at h2
   omega
theorem uq:∀(k:Nat) (r:RQ (List Stm)),r.2.1≤ts.length→r.2.1≤(ssR ts k r).2.1∧(ssR ts k r).2.1≤ts.length
 |0,_,h=>⟨b9 _,h⟩
 |k+1,r,h=>by
   rw[ssR]
   split
   ·exact⟨b9 _,h⟩
   split
   ·rename_i hi
    have:=cP hi a7
    exact⟨K5 _,this⟩
   ·have h1:=EQ k r.2 h
    have h2:=uq k (r.1++[(stR ts k r.2).1],(stR ts k r.2).2) h1.2
    simp only at h2 ⊢
    omega
end
theorem yl:∀(k:Nat) (r:RQ (List Str)),r.2.1≤ts.length→r.2.1≤(ngR ts k r).2.1∧(ngR ts k r).2.1≤ts.length∧(ngR ts k r).1.length+r.2.1≤r.1.length+(ngR ts k r).2.1
 |0,_,h=>⟨b9 _,h,b9 _⟩
 |k+1,r,h=>by
   rw[ngR]
   split
   ·rename_i hi
    have h1:=kf (ts:=ts) (k:=1) (q:=(r.2.1+1,false)) a6 (cP hi OX)
    have h2:=yl k (r.1++[(bg ts 1 (r.2.1+1,false)).1.text],(bg ts 1 (r.2.1+1,false)).2) h1.2
    simp only[c9,e8,n9] at h1 h2 ⊢
    omega
   ·exact⟨b9 _,h,b9 _⟩
theorem Df (h:q.1≤ts.length):q.1≤(nR ts q).2.1∧(nR ts q).2.1≤ts.length∧(nR ts q).1.length+q.1≤(nR ts q).2.1+1:=by
 have h1:=kf (ts:=ts) (k:=1) a6 h
 have h2:=yl (kE ts) ([(bg ts 1 q).1.text],(bg ts 1 q).2) h1.2
 unfold nR
 simp only[e8,n9] at h2
 omega
theorem Dg:∀(k:Nat) (r:RQ (List Str)),r.2.1≤ts.length→r.2.1≤(lR ts k r).2.1∧(lR ts k r).2.1≤ts.length∧(lR ts k r).1.length+r.2.1≤r.1.length+(lR ts k r).2.1
 |0,_,h=>⟨b9 _,h,b9 _⟩
 |k+1,r,h=>by
   rw[lR]
   split
   ·rename_i hi
    have h1:=Df (ts:=ts) (q:=(r.2.1+1,false)) (cP hi a7)
    have h2:=bY (ts:=ts) (s:=bz) OC h1.2.1
    have h3:=Dg k (r.1++(nR ts (r.2.1+1,false)).1,ah ts bz (nR ts (r.2.1+1,false)).2) h2.2
    simp only[c9] at h1 h2 h3 ⊢
    omega
   ·exact⟨b9 _,h,b9 _⟩
theorem ER (h:q.1≤ts.length):q.1≤(psR ts q).2.1∧(psR ts q).2.1≤ts.length:=by
 unfold psR
 split
 ·rename_i hi
  exact⟨K5 _,cP hi Oy⟩
 ·have h1:=Df h
  have h2:=bY (ts:=ts) (s:=aT) Oy h1.2.1
  simp only
  omega
theorem ym (hs:s≠[]) (h:q.1≤ts.length):q.1≤(if isR ts s q then(q.1+1,false) else q).1∧(if isR ts s q then(q.1+1,false) else q).1≤ts.length:=by
 split
 ·rename_i hi
  exact⟨K5 _,cP hi hs⟩
 ·exact⟨b9 _,h⟩
theorem KY (h:q.1≤ts.length):q.1≤(fR ts q).2.1∧(fR ts q).2.1≤ts.length:=by
 have h1:=kf (ts:=ts) (k:=1) a6 h
 have h2:=bY (ts:=ts) (s:=aW) Oq h1.2
 have h3:=ER h2.2
 have h4:=ym (ts:=ts) (s:=[119,111,114,100]) a7 h3.2
 have h5:=bY (ts:=ts) (s:=[123]) a7 h4.2
 generalize hx:(if isR ts [119,111,114,100] (psR ts (ah ts aW (bg ts 1 q).2)).2 then((psR ts (ah ts aW (bg ts 1 q).2)).2.1+1,false) else(psR ts (ah ts aW (bg ts 1 q).2)).2)=x at h4 h5
 have h6:=Dg (kE ts) ([],ah ts [123] x) h5.2
 have h7:=uq (kE ts) ([],(lR ts (kE ts) ([],ah ts [123] x)).2) h6.2.1
 unfold fR
 simp only[hx] at h6 h7 ⊢
 omega
end
end
end
end Go.Src

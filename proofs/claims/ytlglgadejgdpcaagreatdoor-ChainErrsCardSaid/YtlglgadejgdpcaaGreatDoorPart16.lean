/- A part of the proof; no conditions. -/
import Derived.Test.YtlglgadejgdpcaaGreatDoorPart15
set_option linter.unusedSimpArgs false
set_option linter.unusedVariables false
set_option maxHeartbeats 64000000
set_option maxRecDepth 100000
namespace Go.Proofs.YtlglgadejgdpcaaGreatDoor
section
attribute [local congr] Go.Am.ite_cc
open Go Go.Am Go.Asm
open Go.Src (Ex Stm szE bC szS bt ce kq kr dL iH cR)
section
def vZ (M:List C) (fs:List Src.Fn):Prop:=∀s:Str,mget M (.str s)=(ce fs s).map fun f=>.d (.iptr (fnD f))
def As (gr gm:Nat):List C:=[.mp 1010 gm 208,.d .nilf,.d (.fn 169),.d (.fn 169),.clo (171+1000000) [.ptr 1012 gr 0],.clo (172+1000000) [.ptr 1012 gr 0],.d (.fn 169),.clo (173+1000000) [.ptr 1012 gr 0],.clo (170+1000000) [.ptr 1012 gr 0],.clo (170+1000000) [.ptr 1012 gr 0],.clo (170+1000000) [.ptr 1012 gr 0]]
structure uK (fs:List Src.Fn) (gr gm:Nat) (g:Nat→Nat) (ob:Obs):Prop where
 or:ob 1012=some (As gr gm)
 om:∃M,ob 1010=some M∧vZ M fs
 gr:g 1012=gr
 gm:g 1010=gm
variable {kind op num:Int}{name:Str}{kids:List Ex}{fs:List Src.Fn}{K:St→Prop}{args:Array Operand}{tys:Array TypeId}{xs:List AV}{gr gm:Nat}
theorem uK.mono{gr gm B:Nat}{g g':Nat→Nat}{ob ob':Obs} (h:uK fs gr gm g ob) (hB:2000≤B) (hs:∀i,i<B→g' i=g i∧ob' i=ob i):uK fs gr gm g' ob' where
 or:=by rw[(hs 1012 a7).2];exact h.or
 om:=by rw[(hs 1010 a7).2];exact h.om
 gr:=by rw[(hs 1012 a7).1];exact h.gr
 gm:=by rw[(hs 1010 a7).1];exact h.gm
def iP (fs:List Src.Fn) (gr gm:Nat) (f:FuncId) (xs:List AV) (r:AV):Prop:=∀(B:Nat) (g:Nat→Nat) (ob:Obs),2000≤B→(∀i,B≤i→ob i=none)→uK fs gr gm g ob→
 dF Tryz.prog f (.one (.ptr 1012 gr 0)::xs) g ob (fun r' g' ob'=>g'=g∧ob'=ob∧r'=r) (fun _ _ _=>False)
section
variable {b₀:Bs}{rd:Option Nat}{Φ:St→Am.Loc→List Deferred→World→Prop}
theorem bE {Ψ:fF}{B0:Nat} (hΦ:aE b₀ Φ) {o:Oper}{s:St}{k:Box K}{f:FuncId} (ho:o.op=.call ⟨.value (.func f),args,tys⟩){r:AV}
  (hr:iP fs gr gm f xs r) (hx:args.toList.map s.ev=.one (.ptr 1012 gr 0)::xs) (Bc:Nat) (hB:2000≤Bc) (hfree:∀i,Bc≤i→s.obj i=none) (E:uK fs gr gm s.gen s.obj) (hk:K (s.put o.dst r)):aS (spF Tryz.prog rd b₀ Φ B0 Ψ) o s k:=by
 refine bp (R:=fun r' g' ob'=>g'=s.gen∧ob'=s.obj∧r'=r) (Ψ0:=fun _ _ _=>False) hΦ ho (by rw[hx];exact hr Bc s.gen s.obj hB hfree E) (fun _ _ _ h=>h.elim) ?_
 rintro _ g' ob' ⟨rfl,rfl,rfl⟩
 exact hk
theorem jg {Ψ:fF}{B0:Nat} (hΦ:aE b₀ Φ) {o:Oper}{s:St}{k:Box K}{t:Nat} (ho:o.op=.call ⟨.value (.tmp t),args,tys⟩) {f:FuncId}{r:AV} (hf:s.f t=.one (.clo (f+1000000) [.ptr 1012 gr 0]))
  (hr:iP fs gr gm f xs r) (hx:args.toList.map s.ev=xs) (Bc:Nat) (hB:2000≤Bc) (hfree:∀i,Bc≤i→s.obj i=none) (E:uK fs gr gm s.gen s.obj) (hk:K (s.put o.dst r)):aS (spF Tryz.prog rd b₀ Φ B0 Ψ) o s k:=by
 refine xC (R:=fun r' g' ob'=>g'=s.gen∧ob'=s.obj∧r'=r) (Ψ0:=fun _ _ _=>False) hΦ ho hf (by rw[hx];exact hr Bc s.gen s.obj hB hfree E) (fun _ _ _ h=>h.elim) ?_
 rintro _ g' ob' ⟨rfl,rfl,rfl⟩
 exact hk
end
theorem xR (e:Ex):ba Tryz.prog 169 [exV e] (· = iv .i64 1):=by
 obtain⟨kind,op,num,name,kids⟩:=e
 refine bh ae mixed Tryz.func169 rfl b9 [2] rfl c9 (by simp[Tryz.ntmps169]) fun g=>?_
 unfold exV
 simp only[exD,l7,v7]
 simp only[go_sem]
section
variable {fs:List Src.Fn}{gr gm:Nat}
theorem xS (h:iP fs gr gm 175 [iV kids,iv .i64 2] (bv (dL fs 2 kids))):iP fs gr gm 170 [exV (.mk kind op num name kids)] (iv .i64 (if dL fs 2 kids then 2 else 0)):=by
 intro B g ob hB hf E
 refine al B [] ae mixed Tryz.func170 rfl b9 [.tmp 4] rfl c9 c9 (by simp[Tryz.ntmps170]) a8 hf fun b₀ β0 s0 w0=>?_
 unfold exV
 simp only[exD,aX,l7,v7]
 simp only[go_sem]
 refine bE aa rfl h (by simp only[go_sem];rfl) (B+20) a7 (fun i hi=>nt (hf i a7)) (E.mono hB fun i hi=>⟨nu,nu⟩) ?_
 simp only[go_sem]
 cases dL fs 2 kids
 ·simp only[go_sem]
  refine⟨_,ah.refl _,?_⟩
  simp only[go_sem]
  exact aQ.nil (fun i hi=>⟨nu,nu⟩) (rs':=[iv .i64 0]) ⟨_,_,rfl,.one (.d _),rfl⟩ ⟨rfl,rfl,rfl⟩
 ·simp only[go_sem]
  refine⟨_,ah.refl _,?_⟩
  simp only[go_sem]
  exact aQ.nil (fun i hi=>⟨nu,nu⟩) (rs':=[iv .i64 2]) ⟨_,_,rfl,.one (.d _),rfl⟩ ⟨rfl,rfl,rfl⟩
theorem FE (h:iP fs gr gm 175 [iV kids,iv .i64 1] (bv (dL fs 1 kids))):iP fs gr gm 171 [exV (.mk kind op num name kids)] (iv .i64 (if dL fs 1 kids then 1 else 0)):=by
 intro B g ob hB hf E
 refine al B [] ae mixed Tryz.func171 rfl b9 [.tmp 4] rfl c9 c9 (by simp[Tryz.ntmps171]) a8 hf fun b₀ β0 s0 w0=>?_
 unfold exV
 simp only[exD,aX,l7,v7]
 simp only[go_sem]
 refine bE aa rfl h (by simp only[go_sem];rfl) (B+20) a7 (fun i hi=>nt (hf i a7)) (E.mono hB fun i hi=>⟨nu,nu⟩) ?_
 simp only[go_sem]
 cases dL fs 1 kids
 ·simp only[go_sem]
  refine⟨_,ah.refl _,?_⟩
  simp only[go_sem]
  exact aQ.nil (fun i hi=>⟨nu,nu⟩) (rs':=[iv .i64 0]) ⟨_,_,rfl,.one (.d _),rfl⟩ ⟨rfl,rfl,rfl⟩
 ·simp only[go_sem]
  refine⟨_,ah.refl _,?_⟩
  simp only[go_sem]
  exact aQ.nil (fun i hi=>⟨nu,nu⟩) (rs':=[iv .i64 1]) ⟨_,_,rfl,.one (.d _),rfl⟩ ⟨rfl,rfl,rfl⟩
theorem QM (h:iP fs gr gm 175 [iV kids,iv .i64 1] (bv (dL fs 1 kids))):iP fs gr gm 173 [exV (.mk kind op num name kids)] (iv .i64 (if dL fs 1 kids then(if op=14∨op=15 then 2 else 1) else 0)):=by
 intro B g ob hB hf E
 refine al B [] ae mixed Tryz.func173 rfl b9 [.tmp 4] rfl c9 c9 (by simp[Tryz.ntmps173]) a8 hf fun b₀ β0 s0 w0=>?_
 unfold exV
 simp only[exD,aX,l7,v7]
 simp only[go_sem]
 refine bE aa rfl h (by simp only[go_sem];rfl) (B+20) a7 (fun i hi=>nt (hf i a7)) (E.mono hB fun i hi=>⟨nu,nu⟩) ?_
 simp only[go_sem]
 cases dL fs 1 kids
 ·simp only[go_sem]
  refine⟨_,ah.refl _,?_⟩
  simp only[go_sem]
  exact aQ.nil (fun i hi=>⟨nu,nu⟩) (rs':=[iv .i64 0]) ⟨_,_,rfl,.one (.d _),rfl⟩ ⟨rfl,rfl,rfl⟩
 by_cases h1:op=14
 ·rw[if_pos rfl,if_pos (.inl h1)]
  simp only[go_sem,r0 h1]
  refine⟨_,ah.refl _,?_⟩
  simp only[go_sem]
  exact aQ.nil (fun i hi=>⟨nu,nu⟩) (rs':=[iv .i64 2]) ⟨_,_,rfl,.one (.d _),rfl⟩ ⟨rfl,rfl,rfl⟩
 by_cases h2:op=15
 ·rw[if_pos rfl,if_pos (.inr h2)]
  simp only[go_sem,h1,r0 h2]
  refine⟨_,ah.refl _,?_⟩
  simp only[go_sem]
  exact aQ.nil (fun i hi=>⟨nu,nu⟩) (rs':=[iv .i64 2]) ⟨_,_,rfl,.one (.d _),rfl⟩ ⟨rfl,rfl,rfl⟩
 ·rw[if_pos rfl,if_neg a7]
  simp only[go_sem,h1,h2]
  refine⟨_,ah.refl _,?_⟩
  simp only[go_sem]
  exact aQ.nil (fun i hi=>⟨nu,nu⟩) (rs':=[iv .i64 1]) ⟨_,_,rfl,.one (.d _),rfl⟩ ⟨rfl,rfl,rfl⟩
theorem Jz (h:iP fs gr gm 175 [iV kids,iv .i64 1] (bv (dL fs 1 kids))):iP fs gr gm 172 [exV (.mk kind op num name kids)] (iv .i64 (if kq fs name && dL fs 1 kids then 1 else 0)):=by
 intro B g ob hB hf E
 refine al B [] ae mixed Tryz.func172 rfl b9 [.tmp 4] rfl c9 c9 (by simp[Tryz.ntmps172]) a8 hf fun b₀ β0 s0 w0=>?_
 have E1:=E
 obtain⟨or,⟨M,om,mM⟩,hgr,hgm⟩:=E1
 have n1:∀k,(1012=B+k)=False:=fun k=>by simp;omega
 have n2:∀k,(1010=B+k)=False:=fun k=>by simp;omega
 have mo1:=mM name
 unfold exV
 unfold As at or
 unfold kq
 simp only[exD,aX,l7,v7]
 simp only[go_sem]
 refine aI j0 ?_
 cases hff:ce fs name with
 |none=>
   rw[hff] at mo1
   simp only[F6] at mo1
   simp only[go_sem,n1,n2,or,hgr,hgm,om,mo1,C0]
   simp only[y8,B7,A3]
   refine⟨_,ah.refl _,?_⟩
   simp only[go_sem]
   exact aQ.nil (fun i hi=>⟨nu,nu⟩) (rs':=[iv .i64 0]) ⟨_,_,rfl,.one (.d _),rfl⟩ ⟨rfl,rfl,rfl⟩
 |some x=>
   obtain⟨nm,ps,ls,wd,body⟩:=x
   rw[hff] at mo1
   simp only[w7,fnD] at mo1
   cases wd
   ·simp only[go_sem,n1,n2,or,hgr,hgm,om,mo1,A8]
    simp only[y8,B7,A3]
    refine⟨_,ah.refl _,?_⟩
    simp only[go_sem]
    exact aQ.nil (fun i hi=>⟨nu,nu⟩) (rs':=[iv .i64 0]) ⟨_,_,rfl,.one (.d _),rfl⟩ ⟨rfl,rfl,rfl⟩
   ·simp only[go_sem,n1,n2,or,hgr,hgm,om,mo1,A8]
    refine bE aa rfl h (by simp only[go_sem];rfl) (B+20) a7 (fun i hi=>nt (hf i a7)) (E.mono hB fun i hi=>⟨nu,nu⟩) ?_
    simp only[go_sem]
    cases dL fs 1 kids
    ·simp only[go_sem]
     refine⟨_,ah.refl _,?_⟩
     simp only[go_sem]
     exact aQ.nil (fun i hi=>⟨nu,nu⟩) (rs':=[iv .i64 0]) ⟨_,_,rfl,.one (.d _),rfl⟩ ⟨rfl,rfl,rfl⟩
    ·simp only[go_sem]
     refine⟨_,ah.refl _,?_⟩
     simp only[go_sem]
     exact aQ.nil (fun i hi=>⟨nu,nu⟩) (rs':=[iv .i64 1]) ⟨_,_,rfl,.one (.d _),rfl⟩ ⟨rfl,rfl,rfl⟩
end
end
section
section
variable {fs:List Src.Fn}{gr gm:Nat}
theorem CI {kind op num:Int}{name:Str}{kids:List Ex} (h:∀t:Int,iP fs gr gm 175 [iV kids,iv .i64 t] (bv (dL fs t kids))):iP fs gr gm 186 [exV (.mk kind op num name kids)] (iv .i64 (kr fs (.mk kind op num name kids))):=by
 intro B g ob hB hf E
 refine al B [] ae mixed Tryz.func186 rfl b9 [.tmp 4] rfl c9 c9 (by simp[Tryz.ntmps186]) a8 hf fun b₀ β0 s0 w0=>?_
 have E1:=E
 obtain⟨or,⟨M,om,mM⟩,hgr,hgm⟩:=E1
 have n1:∀k,(1012=B+k)=False:=fun k=>by simp;omega
 have hex:exV (.mk kind op num name kids)=.agg [.d (.int .i64 kind),.d (.int .i64 op),.d (.int .u32 num),.d (.str name),.d (.sl (kids.map exD))]:=by unfold exV;simp only[exD,aX,l7,v7]
 rw[hex]
 unfold As at or
 obtain⟨z,hz⟩:∃z,kr fs (.mk kind op num name kids)=z:=⟨_,rfl⟩
 rw[hz]
 rw[kr] at hz
 by_cases h1:kind<1
 ·rw[if_pos (.inl h1)] at hz
  subst hz
  simp only[go_sem,r0 h1]
  refine⟨_,ah.refl _,?_⟩
  simp only[go_sem]
  exact aQ.nil (fun i hi=>⟨nu,nu⟩) (rs':=[iv .i64 0]) ⟨_,_,rfl,.one (.d _),rfl⟩ ⟨rfl,rfl,rfl⟩
 by_cases h2:9<kind
 ·rw[if_pos (.inr h2)] at hz
  subst hz
  simp only[go_sem,h1,r0 h2]
  refine⟨_,ah.refl _,?_⟩
  simp only[go_sem]
  exact aQ.nil (fun i hi=>⟨nu,nu⟩) (rs':=[iv .i64 0]) ⟨_,_,rfl,.one (.d _),rfl⟩ ⟨rfl,rfl,rfl⟩
 rw[if_neg a7] at hz
 simp only[go_sem,h1,h2]
 refine aI j0 ?_
 obtain h|h|h|h|h|h|h|h|h:kind=1∨kind=2∨kind=3∨kind=4∨kind=5∨kind=6∨kind=7∨kind=8∨kind=9:=a7
 all_goals subst h
 all_goals simp only[go_sem,n1,or,hgr]
 ·rw[if_pos a7] at hz
  subst hz
  refine oJ aa rfl (f:=169) (by simp only[go_sem]) (by simp only[go_sem];rw[←hex];exact xR _) (by simp only[go_sem];rfl) ?_
  rintro _ rfl
  simp only[go_sem]
  refine⟨_,ah.refl _,?_⟩
  simp only[go_sem]
  exact aQ.nil (fun i hi=>⟨nu,nu⟩) (rs':=[iv .i64 _]) ⟨_,_,rfl,.one (.d _),rfl⟩ ⟨rfl,rfl,rfl⟩
 ·rw[if_pos a7] at hz
  subst hz
  refine oJ aa rfl (f:=169) (by simp only[go_sem]) (by simp only[go_sem];rw[←hex];exact xR _) (by simp only[go_sem];rfl) ?_
  rintro _ rfl
  simp only[go_sem]
  refine⟨_,ah.refl _,?_⟩
  simp only[go_sem]
  exact aQ.nil (fun i hi=>⟨nu,nu⟩) (rs':=[iv .i64 _]) ⟨_,_,rfl,.one (.d _),rfl⟩ ⟨rfl,rfl,rfl⟩
 ·rw[if_neg a7,if_pos a7] at hz
  subst hz
  refine jg aa rfl (f:=171) (by simp only[go_sem]) (FE (h 1)) (by simp only[go_sem];rw[←hex]) (B+30) a7 (fun i hi=>nt (hf i a7)) (E.mono hB fun i hi=>⟨nu,nu⟩) ?_
  simp only[go_sem]
  refine⟨_,ah.refl _,?_⟩
  simp only[go_sem]
  exact aQ.nil (fun i hi=>⟨nu,nu⟩) (rs':=[iv .i64 _]) ⟨_,_,rfl,.one (.d _),rfl⟩ ⟨rfl,rfl,rfl⟩
 ·rw[if_neg a7,if_neg a7,if_pos a7] at hz
  subst hz
  refine jg aa rfl (f:=172) (by simp only[go_sem]) (Jz (h 1)) (by simp only[go_sem];rw[←hex]) (B+30) a7 (fun i hi=>nt (hf i a7)) (E.mono hB fun i hi=>⟨nu,nu⟩) ?_
  simp only[go_sem]
  refine⟨_,ah.refl _,?_⟩
  simp only[go_sem]
  exact aQ.nil (fun i hi=>⟨nu,nu⟩) (rs':=[iv .i64 _]) ⟨_,_,rfl,.one (.d _),rfl⟩ ⟨rfl,rfl,rfl⟩
 ·rw[if_pos a7] at hz
  subst hz
  refine oJ aa rfl (f:=169) (by simp only[go_sem]) (by simp only[go_sem];rw[←hex];exact xR _) (by simp only[go_sem];rfl) ?_
  rintro _ rfl
  simp only[go_sem]
  refine⟨_,ah.refl _,?_⟩
  simp only[go_sem]
  exact aQ.nil (fun i hi=>⟨nu,nu⟩) (rs':=[iv .i64 _]) ⟨_,_,rfl,.one (.d _),rfl⟩ ⟨rfl,rfl,rfl⟩
 ·rw[if_neg a7,if_neg a7,if_neg a7,if_pos a7] at hz
  subst hz
  refine jg aa rfl (f:=173) (by simp only[go_sem]) (QM (h 1)) (by simp only[go_sem];rw[←hex]) (B+30) a7 (fun i hi=>nt (hf i a7)) (E.mono hB fun i hi=>⟨nu,nu⟩) ?_
  simp only[go_sem]
  refine⟨_,ah.refl _,?_⟩
  simp only[go_sem]
  exact aQ.nil (fun i hi=>⟨nu,nu⟩) (rs':=[iv .i64 _]) ⟨_,_,rfl,.one (.d _),rfl⟩ ⟨rfl,rfl,rfl⟩
 ·rw[if_neg a7,if_neg a7,if_neg a7,if_neg a7] at hz
  subst hz
  refine jg aa rfl (f:=170) (by simp only[go_sem]) (xS (h 2)) (by simp only[go_sem];rw[←hex]) (B+30) a7 (fun i hi=>nt (hf i a7)) (E.mono hB fun i hi=>⟨nu,nu⟩) ?_
  simp only[go_sem]
  refine⟨_,ah.refl _,?_⟩
  simp only[go_sem]
  exact aQ.nil (fun i hi=>⟨nu,nu⟩) (rs':=[iv .i64 _]) ⟨_,_,rfl,.one (.d _),rfl⟩ ⟨rfl,rfl,rfl⟩
 ·rw[if_neg a7,if_neg a7,if_neg a7,if_neg a7] at hz
  subst hz
  refine jg aa rfl (f:=170) (by simp only[go_sem]) (xS (h 2)) (by simp only[go_sem];rw[←hex]) (B+30) a7 (fun i hi=>nt (hf i a7)) (E.mono hB fun i hi=>⟨nu,nu⟩) ?_
  simp only[go_sem]
  refine⟨_,ah.refl _,?_⟩
  simp only[go_sem]
  exact aQ.nil (fun i hi=>⟨nu,nu⟩) (rs':=[iv .i64 _]) ⟨_,_,rfl,.one (.d _),rfl⟩ ⟨rfl,rfl,rfl⟩
 ·rw[if_neg a7,if_neg a7,if_neg a7,if_neg a7] at hz
  subst hz
  refine jg aa rfl (f:=170) (by simp only[go_sem]) (xS (h 2)) (by simp only[go_sem];rw[←hex]) (B+30) a7 (fun i hi=>nt (hf i a7)) (E.mono hB fun i hi=>⟨nu,nu⟩) ?_
  simp only[go_sem]
  refine⟨_,ah.refl _,?_⟩
  simp only[go_sem]
  exact aQ.nil (fun i hi=>⟨nu,nu⟩) (rs':=[iv .i64 _]) ⟨_,_,rfl,.one (.d _),rfl⟩ ⟨rfl,rfl,rfl⟩
theorem Oc:∀(N:Nat) (l:List Ex) (t:Int),bC l≤N→N≤1000000000→iP fs gr gm 175 [iV l,iv .i64 t] (bv (dL fs t l)):=by
 intro N
 induction N using Nat.strongRecOn with
 |ind N ih=>
 intro l t hszl hN B g ob hB hf E
 refine al B [] ae mixed Tryz.func175 rfl b9 [.tmp 6] rfl c9 c9 (by simp[Tryz.ntmps175]) a8 hf fun b₀ β0 s0 w0=>?_
 obtain⟨z,hz⟩:∃z,dL fs t l=z:=⟨_,rfl⟩
 rw[hz]
 have hll:=Src.DS l
 unfold iV
 simp only[go_sem,j6]
 refine ak (fun m st=>∃k:Nat,m+k=l.length∧dL fs t (l.drop k)=z∧st.f 0=.one (.ptr 1012 gr 0)∧st.f 2=iv .i64 t∧st.f 9=.one (.d (.sl (l.map exD)))∧st.f 10=iv .i64 l.length∧st.f 11=iv .i64 k∧(∀j,j<B→st.gen j=g j∧st.obj j=ob j)∧(∀j,B+21≤j→st.obj j=none)) l.length ?_ ?_
 ·refine⟨0,rfl,by rw[B3];exact hz,?_⟩
  simp only[go_sem]
  exact fun j hj=>hf j a7
 rintro m f g1 ob1 ⟨k,hk,hza,q0,q2,q9,q10,q11,fr,hfr⟩
 simp only at q0 q2 q9 q10 q11 fr hfr
 have hw:=am (k:=k) a7
 by_cases hlt:k<l.length
 case neg=>
  have hki:¬(k:Int)<(l.length:Int):=a7
  obtain rfl:k=l.length:=a7
  rw[D5,dL] at hza
  subst hza
  simp only[go_sem,q10,q11,hki]
  refine⟨_,ah.refl _,?_⟩
  simp only[go_sem]
  exact aQ.nil fr (rs':=[bv true]) ⟨_,_,rfl,.one (.d _),rfl⟩ ⟨rfl,rfl,rfl⟩
 have hki:(k:Int)<(l.length:Int):=a7
 have hk0:(0:Int)≤(k:Int):=a7
 obtain⟨e,he⟩:=getq hlt
 have hsze:=Src.GU (l8 he)
 have hdr:l.drop k=e::l.drop (k+1):=by rw[A0 hlt,(l5.1 he).2]
 rw[hdr,dL] at hza
 obtain⟨kind,op,num,name,kids⟩:=e
 rw[szE] at hsze
 have hty:=CI (fs:=fs) (gr:=gr) (gm:=gm) (kind:=kind) (op:=op) (num:=num) (name:=name) (kids:=kids) fun t=>ih (bC kids) a7 kids t (l4 _) a7
 obtain⟨y,hy⟩:∃y,kr fs (.mk kind op num name kids)=y:=⟨_,rfl⟩
 rw[hy] at hza hty
 have hE:exD (.mk kind op num name kids)=[.int .i64 kind,.int .i64 op,.int .u32 num,.str name,.sl (kids.map exD)]:=by simp only[exD,aX]
 simp only[go_sem,q0,q2,q9,q10,q11,hki,hk0,he,hE]
 refine bE aa rfl hty (by simp only[go_sem,exV,hE,l7,v7]) (B+21) a7 (fun i hi=>nt (hfr i a7)) ((E.mono hB fr).mono hB fun i hi=>⟨nu,nu⟩) ?_
 by_cases hyt:y=t
 ·rw[D3 hyt,v8] at hza
  simp only[go_sem,q2,r0 hyt,q11,hw]
  refine ai (m-1) a7 ⟨k+1,a7,hza,?_⟩
  simp only[go_sem,q0,q2,q9,q10]
  exact⟨fun j hj=>⟨nt ((fr j hj).1),nt ((fr j hj).2)⟩,fun j hj=>nt (hfr j hj)⟩
 ·rw[y7 hyt,y8] at hza
  subst hza
  simp only[go_sem,q2,hyt]
  refine⟨_,ah.refl _,?_⟩
  simp only[go_sem]
  exact aQ.nil (fun i hi=>⟨nt ((fr i hi).1),nt ((fr i hi).2)⟩) (rs':=[bv false]) ⟨_,_,rfl,.one (.d _),rfl⟩ ⟨rfl,rfl,rfl⟩
end
end
end
section
attribute [local congr] Go.Am.ite_cc
open Go Go.Am Go.Asm
open Go.Src (Ex Stm szE bC szS bt ce kq kr dL iH cR vb cT)
section
section
variable {fs:List Src.Fn}{gr gm:Nat}
theorem zi:∀(N:Nat) (e:Ex),szE e≤N→N≤1000000000→iP fs gr gm 174 [exV e] (bv (iH fs e)):=by
 intro N
 induction N using Nat.strongRecOn with
 |ind N ih=>
 intro e hsze hN B g ob hB hf E
 refine al B [] ae mixed Tryz.func174 rfl b9 [.tmp 4] rfl c9 c9 (by simp[Tryz.ntmps174]) a8 hf fun b₀ β0 s0 w0=>?_
 have E1:=E
 obtain⟨or,⟨M,om,mM⟩,hgr,hgm⟩:=E1
 unfold As at or
 have n1:∀k,(1012=B+k)=False:=fun k=>by simp;omega
 have n2:∀k,(1010=B+k)=False:=fun k=>by simp;omega
 obtain⟨kind,op,num,name,kids⟩:=e
 obtain⟨z,hz⟩:∃z,iH fs (.mk kind op num name kids)=z:=⟨_,rfl⟩
 rw[hz]
 rw[iH] at hz
 rw[szE] at hsze
 have hll:=Src.DS kids
 have mo1:=mM name
 have hex:exV (.mk kind op num name kids)=.agg [.d (.int .i64 kind),.d (.int .i64 op),.d (.int .u32 num),.d (.str name),.d (.sl (kids.map exD))]:=by unfold exV;simp only[exD,aX,l7,v7]
 rw[hex]
 by_cases h4:kind=4
 ·rw[if_pos h4] at hz
  simp only[go_sem,r0 h4]
  refine ml (B:=B) ae mixed aa [B+5] [([0],[0],[],false),([13],[0],[],false),([14],[0],[],false),([15],[0],[],false),([3],[0],[],false),([17],[0],[],false),([16,18],[0],[],false),([19],[0],[],false),([12],[0],[],false),([12],[0],[],false),([],[],[0],false),([5,20],[],[0],false),([21],[],[],true)] 1 rfl j0 rfl a8 ?_
  simp only[go_sem]
  cases hff:ce fs name with
  |none=>
    rw[hff] at mo1 hz
    simp only[F6] at mo1
    simp only[C0,y8] at hz
    subst hz
    iterate 10 (apply aO;· (intro fa ga oa K' hK;simp only[go_sem,n1,n2,or,hgr,hgm,om,mo1,C0] at hK ⊢;exact hK))
    (apply dR;· (intro fa ga oa K' hK;simp only[go_sem] at hK ⊢;exact hK))
    (apply ja;(focus simp);(focus (intro fa ga oa K' hK;simp only[go_sem] at hK ⊢;exact hK)))
    apply cY
    intro K' hK'
    simp only[go_sem]
    refine hK' _ ?_
    clear hK' K'
    simp only[go_sem]
    refine⟨_,ah.refl _,?_⟩
    simp only[go_sem]
    exact aQ.nil (fun i hi=>⟨nu,nu⟩) (rs':=[bv false]) ⟨_,_,rfl,.one (.d _),rfl⟩ ⟨rfl,rfl,rfl⟩
  |some x=>
    obtain⟨nm,ps,ls,wd,body⟩:=x
    rw[hff] at mo1 hz
    simp only[w7,fnD] at mo1
    simp only[A8,v8] at hz
    iterate 10 (apply aO;· (intro fa ga oa K' hK;simp only[go_sem,n1,n2,or,hgr,hgm,om,mo1,A8] at hK ⊢;exact hK))
    (apply dR;· (intro fa ga oa K' hK;simp only[go_sem] at hK ⊢;exact hK))
    (apply ja;(focus simp);(focus (intro fa ga oa K' hK;simp only[go_sem] at hK ⊢;exact hK)))
    apply cY
    intro K' hK'
    simp only[go_sem]
    refine hK' _ ?_
    clear hK' K'
    simp only[go_sem,j6]
    refine ak (fun m st=>∃k:Nat,m+k=kids.length∧cR fs (kids.drop k)=z∧st.f 0=.one (.ptr 1012 gr 0)∧st.f 25=.one (.d (.sl (kids.map exD)))∧st.f 26=iv .i64 kids.length∧st.f 27=iv .i64 k∧(∀j,j<B→st.gen j=g j∧st.obj j=ob j)∧(∀j,B+36≤j→st.obj j=none)) kids.length ?_ ?_
    ·refine⟨0,rfl,by rw[B3];exact hz,?_⟩
     simp only[go_sem]
     exact⟨fun j hj=>⟨nu,nu⟩,fun j hj=>nt (hf j a7)⟩
    rintro m f g1 ob1 ⟨k,hk,hza,q0,q9,q10,q11,fr,hfr⟩
    simp only at q0 q9 q10 q11 fr hfr
    have hw:=am (k:=k) a7
    by_cases hlt:k<kids.length
    case neg=>
     have hki:¬(k:Int)<(kids.length:Int):=a7
     obtain rfl:k=kids.length:=a7
     rw[D5,cR] at hza
     subst hza
     simp only[go_sem,q10,q11,hki]
     refine⟨_,ah.refl _,?_⟩
     simp only[go_sem]
     exact aQ.nil fr (rs':=[bv true]) ⟨_,_,rfl,.one (.d _),rfl⟩ ⟨rfl,rfl,rfl⟩
    have hki:(k:Int)<(kids.length:Int):=a7
    have hk0:(0:Int)≤(k:Int):=a7
    obtain⟨e,he⟩:=getq hlt
    have hsz1:=Src.GU (l8 he)
    have hdr:kids.drop k=e::kids.drop (k+1):=by rw[A0 hlt,(l5.1 he).2]
    rw[hdr,cR] at hza
    have hih:=ih (szE e) a7 e (l4 _) a7
    obtain⟨y,hy⟩:∃y,iH fs e=y:=⟨_,rfl⟩
    rw[hy] at hza hih
    obtain⟨kd1,op1,num1,name1,kids1⟩:=e
    have hE:exD (.mk kd1 op1 num1 name1 kids1)=[.int .i64 kd1,.int .i64 op1,.int .u32 num1,.str name1,.sl (kids1.map exD)]:=by simp only[exD,aX]
    simp only[go_sem,q0,q9,q10,q11,hki,hk0,he,hE]
    refine bE aa rfl hih (by simp only[go_sem,exV,hE,l7,v7]) (B+36) a7 (fun i hi=>nt (hfr i a7)) ((E.mono hB fr).mono hB fun i hi=>⟨nu,nu⟩) ?_
    cases y
    ·rw[y8] at hza
     subst hza
     simp only[go_sem]
     refine⟨_,ah.refl _,?_⟩
     simp only[go_sem]
     exact aQ.nil (fun i hi=>⟨nt ((fr i hi).1),nt ((fr i hi).2)⟩) (rs':=[bv false]) ⟨_,_,rfl,.one (.d _),rfl⟩ ⟨rfl,rfl,rfl⟩
    ·rw[v8] at hza
     simp only[go_sem,q11,hw]
     refine ai (m-1) a7 ⟨k+1,a7,hza,?_⟩
     simp only[go_sem,q0,q9,q10]
     exact⟨fun j hj=>⟨nt ((fr j hj).1),nt ((fr j hj).2)⟩,fun j hj=>nt (hfr j hj)⟩
 rw[if_neg h4,v8] at hz
 simp only[go_sem,h4,j6]
 refine ak (fun m st=>∃k:Nat,m+k=kids.length∧cR fs (kids.drop k)=z∧st.f 0=.one (.ptr 1012 gr 0)∧st.f 25=.one (.d (.sl (kids.map exD)))∧st.f 26=iv .i64 kids.length∧st.f 27=iv .i64 k∧(∀j,j<B→st.gen j=g j∧st.obj j=ob j)∧(∀j,B+36≤j→st.obj j=none)) kids.length ?_ ?_
 ·refine⟨0,rfl,by rw[B3];exact hz,?_⟩
  simp only[go_sem]
  first|exact fun j hj=>hf j (by omega)|exact⟨fun j hj=>⟨nu,nu⟩,fun j hj=>nt (hf j (by omega))⟩
 rintro m f g1 ob1 ⟨k,hk,hza,q0,q9,q10,q11,fr,hfr⟩
 simp only at q0 q9 q10 q11 fr hfr
 have hw:=am (k:=k) a7
 by_cases hlt:k<kids.length
 case neg=>
  have hki:¬(k:Int)<(kids.length:Int):=a7
  obtain rfl:k=kids.length:=a7
  rw[D5,cR] at hza
  subst hza
  simp only[go_sem,q10,q11,hki]
  refine⟨_,ah.refl _,?_⟩
  simp only[go_sem]
  exact aQ.nil fr (rs':=[bv true]) ⟨_,_,rfl,.one (.d _),rfl⟩ ⟨rfl,rfl,rfl⟩
 have hki:(k:Int)<(kids.length:Int):=a7
 have hk0:(0:Int)≤(k:Int):=a7
 obtain⟨e,he⟩:=getq hlt
 have hsz1:=Src.GU (l8 he)
 have hdr:kids.drop k=e::kids.drop (k+1):=by rw[A0 hlt,(l5.1 he).2]
 rw[hdr,cR] at hza
 have hih:=ih (szE e) a7 e (l4 _) a7
 obtain⟨y,hy⟩:∃y,iH fs e=y:=⟨_,rfl⟩
 rw[hy] at hza hih
 obtain⟨kd1,op1,num1,name1,kids1⟩:=e
 have hE:exD (.mk kd1 op1 num1 name1 kids1)=[.int .i64 kd1,.int .i64 op1,.int .u32 num1,.str name1,.sl (kids1.map exD)]:=by simp only[exD,aX]
 simp only[go_sem,q0,q9,q10,q11,hki,hk0,he,hE]
 refine bE aa rfl hih (by simp only[go_sem,exV,hE,l7,v7]) (B+36) a7 (fun i hi=>nt (hfr i a7)) ((E.mono hB fr).mono hB fun i hi=>⟨nu,nu⟩) ?_
 cases y
 ·rw[y8] at hza
  subst hza
  simp only[go_sem]
  refine⟨_,ah.refl _,?_⟩
  simp only[go_sem]
  exact aQ.nil (fun i hi=>⟨nt ((fr i hi).1),nt ((fr i hi).2)⟩) (rs':=[bv false]) ⟨_,_,rfl,.one (.d _),rfl⟩ ⟨rfl,rfl,rfl⟩
 ·rw[v8] at hza
  simp only[go_sem,q11,hw]
  refine ai (m-1) a7 ⟨k+1,a7,hza,?_⟩
  simp only[go_sem,q0,q9,q10]
  exact⟨fun j hj=>⟨nt ((fr j hj).1),nt ((fr j hj).2)⟩,fun j hj=>nt (hfr j hj)⟩
end
end
section
section
variable {fs:List Src.Fn}{gr gm:Nat}
theorem xT:∀(N:Nat) (l:List Stm),bt l≤N→N≤1000000000→iP fs gr gm 122 [jp l] (bv (cT fs l)):=by
 intro N
 induction N using Nat.strongRecOn with
 |ind N ih=>
 intro l hszl hN B g ob hB hf E
 refine al B [] ae mixed Tryz.func122 rfl b9 [.tmp 4] rfl c9 c9 (by simp[Tryz.ntmps122]) a8 hf fun b₀ β0 s0 w0=>?_
 have n1:∀k,(1012=B+k)=False:=fun k=>by simp;omega
 have n2:∀k,(1010=B+k)=False:=fun k=>by simp;omega
 obtain⟨z,hz⟩:∃z,cT fs l=z:=⟨_,rfl⟩
 rw[hz]
 have hll:=Src.DT l
 unfold jp
 simp only[go_sem,j6]
 refine ak (fun m st=>∃k:Nat,m+k=l.length∧cT fs (l.drop k)=z∧st.f 0=.one (.ptr 1012 gr 0)∧st.f 11=.one (.d (.sl (l.map smD)))∧st.f 12=iv .i64 l.length∧st.f 13=iv .i64 k∧(∀j,j<B→st.gen j=g j∧st.obj j=ob j)∧(∀j,B+57≤j→st.obj j=none)) l.length ?_ ?_
 ·refine⟨0,rfl,by rw[B3];exact hz,?_⟩
  simp only[go_sem]
  exact fun j hj=>hf j a7
 rintro m f g1 ob1 ⟨k,hk,hza,q0,q9,q10,q11,fr,hfr⟩
 simp only at q0 q9 q10 q11 fr hfr
 have E1:=E.mono hB fr
 obtain⟨or,⟨M,om,mM⟩,hgr,hgm⟩:=E1
 unfold As at or
 have hw:=am (k:=k) a7
 by_cases hlt:k<l.length
 case neg=>
  have hki:¬(k:Int)<(l.length:Int):=a7
  obtain rfl:k=l.length:=a7
  rw[D5,cT] at hza
  subst hza
  simp only[go_sem,q10,q11,hki]
  refine⟨_,ah.refl _,?_⟩
  simp only[go_sem]
  exact aQ.nil fr (rs':=[bv true]) ⟨_,_,rfl,.one (.d _),rfl⟩ ⟨rfl,rfl,rfl⟩
 have hki:(k:Int)<(l.length:Int):=a7
 have hk0:(0:Int)≤(k:Int):=a7
 obtain⟨e,he⟩:=getq hlt
 have hsze:=Src.GV (l8 he)
 have hdr:l.drop k=e::l.drop (k+1):=by rw[A0 hlt,(l5.1 he).2]
 rw[hdr,cT] at hza
 obtain⟨kind,name,es,th,el⟩:=e
 rw[vb] at hza
 rw[szS] at hsze
 have hle:=Src.DS es
 have mo1:=mM name
 have hE:smD (.mk kind name es th el)=[.int .i64 kind,.str name,.sl (es.map exD),.sl (th.map smD),.sl (el.map smD)]:=by simp only[smD,aX,fk]
 have hth:=ih (bt th) a7 th (l4 _) a7
 have hel:=ih (bt el) a7 el (l4 _) a7
 obtain⟨yt,hyt⟩:∃y,cT fs th=y:=⟨_,rfl⟩
 obtain⟨ye,hye⟩:∃y,cT fs el=y:=⟨_,rfl⟩
 rw[hyt] at hza hth
 rw[hye] at hza hel
 by_cases h4:kind=6
 ·rw[if_pos h4] at hza
  simp only[go_sem,q0,q9,q10,q11,hki,hk0,he,hE,r0 h4]
  refine ml (B:=B) ae mixed aa [B+7] [([0],[0],[],false),([21],[0],[],false),([22],[0],[],false),([23],[0],[],false),([6],[0],[],false),([25],[0],[],false),([24,26],[0],[],false),([27],[0],[],false),([20],[0],[],false),([20],[0],[],false),([],[],[0],false),([7,28],[],[0],false),([29],[],[],true)] 1 rfl j0 rfl a8 ?_
  simp only[go_sem]
  cases hff:ce fs name with
  |none=>
    rw[hff] at mo1 hza
    simp only[F6] at mo1
    simp only[C0,y8] at hza
    subst hza
    iterate 10 (apply aO;· (intro fa ga oa K' hK;simp only[go_sem,q0,n1,n2,or,hgr,hgm,om,mo1,C0] at hK ⊢;exact hK))
    (apply dR;· (intro fa ga oa K' hK;simp only[go_sem] at hK ⊢;exact hK))
    (apply ja;(focus simp);(focus (intro fa ga oa K' hK;simp only[go_sem] at hK ⊢;exact hK)))
    apply cY
    intro K' hK'
    simp only[go_sem]
    refine hK' _ ?_
    clear hK' K'
    simp only[go_sem]
    refine⟨_,ah.refl _,?_⟩
    simp only[go_sem]
    exact aQ.nil (fun i hi=>⟨nt ((fr i hi).1),nt ((fr i hi).2)⟩) (rs':=[bv false]) ⟨_,_,rfl,.one (.d _),rfl⟩ ⟨rfl,rfl,rfl⟩
  |some x=>
    obtain⟨nm,ps,ls,wd,body⟩:=x
    rw[hff] at mo1 hza
    simp only[w7,fnD] at mo1
    simp only[A8,v8] at hza
    iterate 10 (apply aO;· (intro fa ga oa K' hK;simp only[go_sem,q0,n1,n2,or,hgr,hgm,om,mo1,A8] at hK ⊢;exact hK))
    (apply dR;· (intro fa ga oa K' hK;simp only[go_sem] at hK ⊢;exact hK))
    (apply ja;(focus simp);(focus (intro fa ga oa K' hK;simp only[go_sem] at hK ⊢;exact hK)))
    apply cY
    intro K' hK'
    simp only[go_sem]
    refine hK' _ ?_
    clear hK' K'
    simp only[go_sem,n1,n2,j6]
    refine ak (fun m st=>∃n:Nat,m+n=es.length∧(cR fs (es.drop n)&&(yt&&ye)&&cT fs (l.drop (k+1)))=z∧st.f 0=.one (.ptr 1012 gr 0)∧st.f 6=.one (.ptr (B+6) (st.gen (B+6)) 0)∧st.f 11=.one (.d (.sl (l.map smD)))∧st.f 12=iv .i64 l.length∧st.f 13=iv .i64 k∧st.f 33=.one (.d (.sl (es.map exD)))∧st.f 34=iv .i64 es.length∧st.f 35=iv .i64 n∧
      st.obj (B+6)=some [.d (.int .i64 kind),.d (.str name),.d (.sl (es.map exD)),.d (.sl (th.map smD)),.d (.sl (el.map smD))]∧(∀j,j<B→st.gen j=g j∧st.obj j=ob j)∧(∀j,B+57≤j→st.obj j=none)) es.length ?_ ?_
    ·refine⟨0,rfl,by rw[B3];exact hza,?_⟩
     simp only[go_sem,q0,q9,q10,q11,n1,n2]
     exact⟨fun j hj=>⟨nt ((fr j hj).1),nt ((fr j hj).2)⟩,fun j hj=>nt (hfr j hj)⟩
    clear q0 q9 q10 q11 fr hfr or om mM mo1 hgr hgm
    rintro m2 f g1 ob1 ⟨n,hn,hzb,q0,q6,q9,q10,q11,q33,q34,q35,o6,fr,hfr⟩
    simp only at q0 q6 q9 q10 q11 q33 q34 q35 o6 fr hfr
    have hw2:=am (k:=n) a7
    by_cases hlt2:n<es.length
    ·have hki2:(n:Int)<(es.length:Int):=a7
     have hk02:(0:Int)≤(n:Int):=a7
     obtain⟨x2,he2⟩:=getq hlt2
     have hsz2:=Src.GU (l8 he2)
     have hdr2:es.drop n=x2::es.drop (n+1):=by rw[A0 hlt2,(l5.1 he2).2]
     rw[hdr2,cR] at hzb
     have hkn:=zi (fs:=fs) (gr:=gr) (gm:=gm) (szE x2) x2 (l4 _) a7
     obtain⟨y,hy⟩:∃y,iH fs x2=y:=⟨_,rfl⟩
     rw[hy] at hzb hkn
     obtain⟨kd1,op1,num1,name1,kids1⟩:=x2
     have hE2:exD (.mk kd1 op1 num1 name1 kids1)=[.int .i64 kd1,.int .i64 op1,.int .u32 num1,.str name1,.sl (kids1.map exD)]:=by simp only[exD,aX]
     simp only[go_sem,q0,q33,q34,q35,hki2,hk02,he2,hE2]
     refine bE aa rfl hkn (by simp only[go_sem,exV,hE2,l7,v7]) (B+57) a7 (fun i hi=>nt (hfr i a7)) ((E.mono hB fr).mono hB fun i hi=>⟨nu,nu⟩) ?_
     cases y
     ·simp only[y8] at hzb
      subst hzb
      simp only[go_sem]
      refine⟨_,ah.refl _,?_⟩
      simp only[go_sem]
      exact aQ.nil (fun i hi=>⟨nt ((fr i hi).1),nt ((fr i hi).2)⟩) (rs':=[bv false]) ⟨_,_,rfl,.one (.d _),rfl⟩ ⟨rfl,rfl,rfl⟩
     ·simp only[v8] at hzb
      simp only[go_sem,q35,hw2]
      refine ai (m2-1) a7 ⟨n+1,a7,hzb,?_⟩
      simp only[go_sem,q0,q6,q9,q10,q11,q33,q34,o6]
      exact⟨fun j hj=>⟨nt ((fr j hj).1),nt ((fr j hj).2)⟩,fun j hj=>nt (hfr j hj)⟩
    have hki2:¬(n:Int)<(es.length:Int):=a7
    obtain rfl:n=es.length:=a7
    rw[D5,cR,v8] at hzb
    simp only[go_sem,q0,q6,q34,q35,hki2,o6]
    refine bE aa rfl hth (by simp only[go_sem];rfl) (B+57) a7 (fun i hi=>nt (hfr i a7)) ((E.mono hB fr).mono hB fun i hi=>⟨nu,nu⟩) ?_
    cases yt
    ·simp only[y8] at hzb
     subst hzb
     simp only[go_sem]
     refine⟨_,ah.refl _,?_⟩
     simp only[go_sem]
     exact aQ.nil (fun i hi=>⟨nt ((fr i hi).1),nt ((fr i hi).2)⟩) (rs':=[bv false]) ⟨_,_,rfl,.one (.d _),rfl⟩ ⟨rfl,rfl,rfl⟩
    simp only[go_sem,q0,q6,o6]
    refine bE aa rfl hel (by simp only[go_sem];rfl) (B+57) a7 (fun i hi=>nt (hfr i a7)) ((E.mono hB fr).mono hB fun i hi=>⟨nu,nu⟩) ?_
    cases ye
    ·simp only[y8,B8] at hzb
     subst hzb
     simp only[go_sem]
     refine⟨_,ah.refl _,?_⟩
     simp only[go_sem]
     exact aQ.nil (fun i hi=>⟨nt ((fr i hi).1),nt ((fr i hi).2)⟩) (rs':=[bv false]) ⟨_,_,rfl,.one (.d _),rfl⟩ ⟨rfl,rfl,rfl⟩
    simp only[v8] at hzb
    simp only[go_sem,q11,hw]
    refine ai (m-1) a7 ⟨k+1,a7,hzb,?_⟩
    simp only[go_sem,q0,q9,q10]
    exact⟨fun j hj=>⟨nt ((fr j hj).1),nt ((fr j hj).2)⟩,fun j hj=>nt (hfr j hj)⟩
 rw[if_neg h4,v8] at hza
 simp only[go_sem,q0,q9,q10,q11,hki,hk0,he,hE,h4,j6]
 refine ak (fun m st=>∃n:Nat,m+n=es.length∧(cR fs (es.drop n)&&(yt&&ye)&&cT fs (l.drop (k+1)))=z∧st.f 0=.one (.ptr 1012 gr 0)∧st.f 6=.one (.ptr (B+6) (st.gen (B+6)) 0)∧st.f 11=.one (.d (.sl (l.map smD)))∧st.f 12=iv .i64 l.length∧st.f 13=iv .i64 k∧st.f 33=.one (.d (.sl (es.map exD)))∧st.f 34=iv .i64 es.length∧st.f 35=iv .i64 n∧
   st.obj (B+6)=some [.d (.int .i64 kind),.d (.str name),.d (.sl (es.map exD)),.d (.sl (th.map smD)),.d (.sl (el.map smD))]∧(∀j,j<B→st.gen j=g j∧st.obj j=ob j)∧(∀j,B+57≤j→st.obj j=none)) es.length ?_ ?_
 ·refine⟨0,rfl,by rw[B3];exact hza,?_⟩
  simp only[go_sem,q0,q9,q10,q11,n1,n2]
  exact⟨fun j hj=>⟨nt ((fr j hj).1),nt ((fr j hj).2)⟩,fun j hj=>nt (hfr j hj)⟩
 clear q0 q9 q10 q11 fr hfr or om mM mo1 hgr hgm
 rintro m2 f g1 ob1 ⟨n,hn,hzb,q0,q6,q9,q10,q11,q33,q34,q35,o6,fr,hfr⟩
 simp only at q0 q6 q9 q10 q11 q33 q34 q35 o6 fr hfr
 have hw2:=am (k:=n) a7
 by_cases hlt2:n<es.length
 ·have hki2:(n:Int)<(es.length:Int):=a7
  have hk02:(0:Int)≤(n:Int):=a7
  obtain⟨x2,he2⟩:=getq hlt2
  have hsz2:=Src.GU (l8 he2)
  have hdr2:es.drop n=x2::es.drop (n+1):=by rw[A0 hlt2,(l5.1 he2).2]
  rw[hdr2,cR] at hzb
  have hkn:=zi (fs:=fs) (gr:=gr) (gm:=gm) (szE x2) x2 (l4 _) a7
  obtain⟨y,hy⟩:∃y,iH fs x2=y:=⟨_,rfl⟩
  rw[hy] at hzb hkn
  obtain⟨kd1,op1,num1,name1,kids1⟩:=x2
  have hE2:exD (.mk kd1 op1 num1 name1 kids1)=[.int .i64 kd1,.int .i64 op1,.int .u32 num1,.str name1,.sl (kids1.map exD)]:=by simp only[exD,aX]
  simp only[go_sem,q0,q33,q34,q35,hki2,hk02,he2,hE2]
  refine bE aa rfl hkn (by simp only[go_sem,exV,hE2,l7,v7]) (B+57) a7 (fun i hi=>nt (hfr i a7)) ((E.mono hB fr).mono hB fun i hi=>⟨nu,nu⟩) ?_
  cases y
  ·simp only[y8] at hzb
   subst hzb
   simp only[go_sem]
   refine⟨_,ah.refl _,?_⟩
   simp only[go_sem]
   exact aQ.nil (fun i hi=>⟨nt ((fr i hi).1),nt ((fr i hi).2)⟩) (rs':=[bv false]) ⟨_,_,rfl,.one (.d _),rfl⟩ ⟨rfl,rfl,rfl⟩
  ·simp only[v8] at hzb
   simp only[go_sem,q35,hw2]
   refine ai (m2-1) a7 ⟨n+1,a7,hzb,?_⟩
   simp only[go_sem,q0,q6,q9,q10,q11,q33,q34,o6]
   exact⟨fun j hj=>⟨nt ((fr j hj).1),nt ((fr j hj).2)⟩,fun j hj=>nt (hfr j hj)⟩
 have hki2:¬(n:Int)<(es.length:Int):=a7
 obtain rfl:n=es.length:=a7
 rw[D5,cR,v8] at hzb
 simp only[go_sem,q0,q6,q34,q35,hki2,o6]
 refine bE aa rfl hth (by simp only[go_sem];rfl) (B+57) a7 (fun i hi=>nt (hfr i a7)) ((E.mono hB fr).mono hB fun i hi=>⟨nu,nu⟩) ?_
 cases yt
 ·simp only[y8] at hzb
  subst hzb
  simp only[go_sem]
  refine⟨_,ah.refl _,?_⟩
  simp only[go_sem]
  exact aQ.nil (fun i hi=>⟨nt ((fr i hi).1),nt ((fr i hi).2)⟩) (rs':=[bv false]) ⟨_,_,rfl,.one (.d _),rfl⟩ ⟨rfl,rfl,rfl⟩
 simp only[go_sem,q0,q6,o6]
 refine bE aa rfl hel (by simp only[go_sem];rfl) (B+57) a7 (fun i hi=>nt (hfr i a7)) ((E.mono hB fr).mono hB fun i hi=>⟨nu,nu⟩) ?_
 cases ye
 ·simp only[y8,B8] at hzb
  subst hzb
  simp only[go_sem]
  refine⟨_,ah.refl _,?_⟩
  simp only[go_sem]
  exact aQ.nil (fun i hi=>⟨nt ((fr i hi).1),nt ((fr i hi).2)⟩) (rs':=[bv false]) ⟨_,_,rfl,.one (.d _),rfl⟩ ⟨rfl,rfl,rfl⟩
 simp only[v8] at hzb
 simp only[go_sem,q11,hw]
 refine ai (m-1) a7 ⟨k+1,a7,hzb,?_⟩
 simp only[go_sem,q0,q9,q10]
 exact⟨fun j hj=>⟨nt ((fr j hj).1),nt ((fr j hj).2)⟩,fun j hj=>nt (hfr j hj)⟩
end
end
end
section
attribute [local congr] Go.Am.ite_cc
open Go Go.Am Go.Asm
open Go.Src (Ex Stm szE bC szS bt ce kq kr dL pE cq)
section
section
variable {fs:List Src.Fn}{gr gm:Nat}
theorem xU (F:Src.Fn):∀(N:Nat) (l:List Stm),bt l≤N→N≤1000000000→iP fs gr gm 123 [fnV F,jp l] (bv (cq fs F.word l)):=by
 obtain⟨fnm,fps,fls,w,fbody⟩:=F
 intro N
 induction N using Nat.strongRecOn with
 |ind N ih=>
 intro l hszl hN B g ob hB hf E
 refine al B [] ae mixed Tryz.func123 rfl b9 [.tmp 6] rfl c9 c9 (by simp[Tryz.ntmps123]) a8 hf fun b₀ β0 s0 w0=>?_
 have n1:∀k,(1012=B+k)=False:=fun k=>by simp;omega
 have n2:∀k,(1010=B+k)=False:=fun k=>by simp;omega
 have hfV:fnV ⟨fnm,fps,fls,w,fbody⟩=.agg [.d (.str fnm),.d (.sl (fps.map fun s=>[.str s])),.d (.sl (fls.map fun s=>[.str s])),.d (.bool w),.d (.sl (fbody.map smD))]:=rfl
 rw[hfV] at ih ⊢
 simp only at ih ⊢
 obtain⟨z,hz⟩:∃z,cq fs w l=z:=⟨_,rfl⟩
 rw[hz]
 have hll:=Src.DT l
 unfold jp
 simp only[go_sem,j6]
 refine ak (fun m st=>∃k:Nat,m+k=l.length∧cq fs w (l.drop k)=z∧st.f 0=.one (.ptr 1012 gr 0)∧st.f 4=.one (.ptr (B+4) (st.gen (B+4)) 0)∧st.f 10=.one (.d (.sl (l.map smD)))∧st.f 11=iv .i64 l.length∧st.f 12=iv .i64 k∧
   st.obj (B+4)=some [.d (.str fnm),.d (.sl (fps.map fun s=>[.str s])),.d (.sl (fls.map fun s=>[.str s])),.d (.bool w),.d (.sl (fbody.map smD))]∧(∀j,j<B→st.gen j=g j∧st.obj j=ob j)∧(∀j,B+65≤j→st.obj j=none)) l.length ?_ ?_
 ·refine⟨0,rfl,by rw[B3];exact hz,?_⟩
  simp only[go_sem]
  exact⟨fun j hj=>⟨nu,nu⟩,fun j hj=>nt (hf j a7)⟩
 rintro m f g1 ob1 ⟨k,hk,hza,q0,q4,q9,q10,q11,o4,fr,hfr⟩
 simp only at q0 q4 q9 q10 q11 o4 fr hfr
 have E1:=E.mono hB fr
 obtain⟨or,⟨M,om,mM⟩,hgr,hgm⟩:=E1
 unfold As at or
 have hw:=am (k:=k) a7
 by_cases hlt:k<l.length
 case neg=>
  have hki:¬(k:Int)<(l.length:Int):=a7
  obtain rfl:k=l.length:=a7
  rw[D5,cq] at hza
  subst hza
  simp only[go_sem,q10,q11,hki]
  refine⟨_,ah.refl _,?_⟩
  simp only[go_sem]
  exact aQ.nil fr (rs':=[bv true]) ⟨_,_,rfl,.one (.d _),rfl⟩ ⟨rfl,rfl,rfl⟩
 have hki:(k:Int)<(l.length:Int):=a7
 have hk0:(0:Int)≤(k:Int):=a7
 obtain⟨e,he⟩:=getq hlt
 have hsze:=Src.GV (l8 he)
 have hdr:l.drop k=e::l.drop (k+1):=by rw[A0 hlt,(l5.1 he).2]
 rw[hdr,cq] at hza
 obtain⟨kind,name,es,th,el⟩:=e
 rw[pE] at hza
 rw[szS] at hsze
 have hle:=Src.DS es
 have mo1:=mM name
 have hE:smD (.mk kind name es th el)=[.int .i64 kind,.str name,.sl (es.map exD),.sl (th.map smD),.sl (el.map smD)]:=by simp only[smD,aX,fk]
 have hth:=ih (bt th) a7 th (l4 _) a7
 have hel:=ih (bt el) a7 el (l4 _) a7
 have hes:=fun t=>Oc (fs:=fs) (gr:=gr) (gm:=gm) (bC es) es t (l4 _) a7
 obtain⟨yt,hyt⟩:∃y,cq fs w th=y:=⟨_,rfl⟩
 obtain⟨ye,hye⟩:∃y,cq fs w el=y:=⟨_,rfl⟩
 rw[hyt] at hza hth
 rw[hye] at hza hel
 simp only[go_sem,q0,q4,q9,q10,q11,hki,hk0,he,hE]
 by_cases k4:kind=4
 ·subst k4
  rw[if_pos a7] at hza
  simp only[show ((4:Int)==6)=false from rfl,show ((4:Int)==7)=false from rfl,y8,H5,v8] at hza
  try (simp only[go_sem,q0,q4,o4])
  refine bE aa rfl (hes 2) (by simp only[go_sem];rfl) (B+65) a7 (fun i hi=>nt (hfr i a7)) ((E.mono hB fr).mono hB fun i hi=>⟨nu,nu⟩) ?_
  cases hye2:dL fs 2 es
  ·rw[hye2] at hza
   simp only[y8,B8] at hza
   subst hza
   simp only[go_sem]
   refine⟨_,ah.refl _,?_⟩
   simp only[go_sem]
   exact aQ.nil (fun i hi=>⟨nt ((fr i hi).1),nt ((fr i hi).2)⟩) (rs':=[bv false]) ⟨_,_,rfl,.one (.d _),rfl⟩ ⟨rfl,rfl,rfl⟩
  rw[hye2] at hza
  simp only[v8] at hza
  simp only[go_sem,q0,q4,o4]
  refine bE aa rfl hth (by simp only[go_sem];rfl) (B+65) a7 (fun i hi=>nt (hfr i a7)) ((E.mono hB fr).mono hB fun i hi=>⟨nu,nu⟩) ?_
  cases yt
  ·simp only[y8,B8] at hza
   subst hza
   simp only[go_sem]
   refine⟨_,ah.refl _,?_⟩
   simp only[go_sem]
   exact aQ.nil (fun i hi=>⟨nt ((fr i hi).1),nt ((fr i hi).2)⟩) (rs':=[bv false]) ⟨_,_,rfl,.one (.d _),rfl⟩ ⟨rfl,rfl,rfl⟩
  simp only[go_sem,q0,q4,o4]
  refine bE aa rfl hel (by simp only[go_sem];rfl) (B+65) a7 (fun i hi=>nt (hfr i a7)) ((E.mono hB fr).mono hB fun i hi=>⟨nu,nu⟩) ?_
  cases ye
  ·simp only[y8,B8] at hza
   subst hza
   simp only[go_sem]
   refine⟨_,ah.refl _,?_⟩
   simp only[go_sem]
   exact aQ.nil (fun i hi=>⟨nt ((fr i hi).1),nt ((fr i hi).2)⟩) (rs':=[bv false]) ⟨_,_,rfl,.one (.d _),rfl⟩ ⟨rfl,rfl,rfl⟩
  simp only[v8] at hza
  simp only[go_sem,q11,hw]
  refine ai (m-1) a7 ⟨k+1,a7,hza,?_⟩
  simp only[go_sem,q0,q4,q9,q10,o4]
  exact⟨fun j hj=>⟨nt ((fr j hj).1),nt ((fr j hj).2)⟩,fun j hj=>nt (hfr j hj)⟩
 by_cases k5:kind=5
 ·subst k5
  rw[if_pos a7] at hza
  simp only[show ((5:Int)==6)=false from rfl,show ((5:Int)==7)=false from rfl,y8,H5,v8] at hza
  try (simp only[go_sem,q0,q4,o4])
  refine bE aa rfl (hes 2) (by simp only[go_sem];rfl) (B+65) a7 (fun i hi=>nt (hfr i a7)) ((E.mono hB fr).mono hB fun i hi=>⟨nu,nu⟩) ?_
  cases hye2:dL fs 2 es
  ·rw[hye2] at hza
   simp only[y8,B8] at hza
   subst hza
   simp only[go_sem]
   refine⟨_,ah.refl _,?_⟩
   simp only[go_sem]
   exact aQ.nil (fun i hi=>⟨nt ((fr i hi).1),nt ((fr i hi).2)⟩) (rs':=[bv false]) ⟨_,_,rfl,.one (.d _),rfl⟩ ⟨rfl,rfl,rfl⟩
  rw[hye2] at hza
  simp only[v8] at hza
  simp only[go_sem,q0,q4,o4]
  refine bE aa rfl hth (by simp only[go_sem];rfl) (B+65) a7 (fun i hi=>nt (hfr i a7)) ((E.mono hB fr).mono hB fun i hi=>⟨nu,nu⟩) ?_
  cases yt
  ·simp only[y8,B8] at hza
   subst hza
   simp only[go_sem]
   refine⟨_,ah.refl _,?_⟩
   simp only[go_sem]
   exact aQ.nil (fun i hi=>⟨nt ((fr i hi).1),nt ((fr i hi).2)⟩) (rs':=[bv false]) ⟨_,_,rfl,.one (.d _),rfl⟩ ⟨rfl,rfl,rfl⟩
  simp only[go_sem,q0,q4,o4]
  refine bE aa rfl hel (by simp only[go_sem];rfl) (B+65) a7 (fun i hi=>nt (hfr i a7)) ((E.mono hB fr).mono hB fun i hi=>⟨nu,nu⟩) ?_
  cases ye
  ·simp only[y8,B8] at hza
   subst hza
   simp only[go_sem]
   refine⟨_,ah.refl _,?_⟩
   simp only[go_sem]
   exact aQ.nil (fun i hi=>⟨nt ((fr i hi).1),nt ((fr i hi).2)⟩) (rs':=[bv false]) ⟨_,_,rfl,.one (.d _),rfl⟩ ⟨rfl,rfl,rfl⟩
  simp only[v8] at hza
  simp only[go_sem,q11,hw]
  refine ai (m-1) a7 ⟨k+1,a7,hza,?_⟩
  simp only[go_sem,q0,q4,q9,q10,o4]
  exact⟨fun j hj=>⟨nt ((fr j hj).1),nt ((fr j hj).2)⟩,fun j hj=>nt (hfr j hj)⟩
 rw[if_neg a7] at hza
 by_cases k6:kind=6
 ·subst k6
  simp only[show ((6:Int)==6)=true from rfl,show ((6:Int)==7)=false from rfl,y8,H5,v8,I8] at hza
  unfold kq at hza
  simp only[go_sem]
  refine aI j0 ?_
  cases hff:ce fs name with
  |none=>
    rw[hff] at mo1 hza
    simp only[F6] at mo1
    simp only[H5,v8] at hza
    simp only[go_sem,n1,n2,q0,or,hgr,hgm,om,mo1,C0]
    try (simp only[go_sem,q0,q4,o4])
    refine bE aa rfl (hes 1) (by simp only[go_sem];rfl) (B+65) a7 (fun i hi=>nt (hfr i a7)) ((E.mono hB fr).mono hB fun i hi=>⟨nu,nu⟩) ?_
    cases hye2:dL fs 1 es
    ·rw[hye2] at hza
     simp only[y8,B8] at hza
     subst hza
     simp only[go_sem]
     refine⟨_,ah.refl _,?_⟩
     simp only[go_sem]
     exact aQ.nil (fun i hi=>⟨nt ((fr i hi).1),nt ((fr i hi).2)⟩) (rs':=[bv false]) ⟨_,_,rfl,.one (.d _),rfl⟩ ⟨rfl,rfl,rfl⟩
    rw[hye2] at hza
    simp only[v8] at hza
    simp only[go_sem,q0,q4,o4]
    refine bE aa rfl hth (by simp only[go_sem];rfl) (B+65) a7 (fun i hi=>nt (hfr i a7)) ((E.mono hB fr).mono hB fun i hi=>⟨nu,nu⟩) ?_
    cases yt
    ·simp only[y8,B8] at hza
     subst hza
     simp only[go_sem]
     refine⟨_,ah.refl _,?_⟩
     simp only[go_sem]
     exact aQ.nil (fun i hi=>⟨nt ((fr i hi).1),nt ((fr i hi).2)⟩) (rs':=[bv false]) ⟨_,_,rfl,.one (.d _),rfl⟩ ⟨rfl,rfl,rfl⟩
    simp only[go_sem,q0,q4,o4]
    refine bE aa rfl hel (by simp only[go_sem];rfl) (B+65) a7 (fun i hi=>nt (hfr i a7)) ((E.mono hB fr).mono hB fun i hi=>⟨nu,nu⟩) ?_
    cases ye
    ·simp only[y8,B8] at hza
     subst hza
     simp only[go_sem]
     refine⟨_,ah.refl _,?_⟩
     simp only[go_sem]
     exact aQ.nil (fun i hi=>⟨nt ((fr i hi).1),nt ((fr i hi).2)⟩) (rs':=[bv false]) ⟨_,_,rfl,.one (.d _),rfl⟩ ⟨rfl,rfl,rfl⟩
    simp only[v8] at hza
    simp only[go_sem,q11,hw]
    refine ai (m-1) a7 ⟨k+1,a7,hza,?_⟩
    simp only[go_sem,q0,q4,q9,q10,o4]
    exact⟨fun j hj=>⟨nt ((fr j hj).1),nt ((fr j hj).2)⟩,fun j hj=>nt (hfr j hj)⟩
  |some x=>
    obtain⟨nm,ps,ls,wd,body⟩:=x
    rw[hff] at mo1 hza
    simp only[w7,fnD] at mo1
    cases wd
    ·simp only[H5,v8] at hza
     simp only[go_sem,n1,n2,q0,or,hgr,hgm,om,mo1,A8]
     try (simp only[go_sem,q0,q4,o4])
     refine bE aa rfl (hes 1) (by simp only[go_sem];rfl) (B+65) a7 (fun i hi=>nt (hfr i a7)) ((E.mono hB fr).mono hB fun i hi=>⟨nu,nu⟩) ?_
     cases hye2:dL fs 1 es
     ·rw[hye2] at hza
      simp only[y8,B8] at hza
      subst hza
      simp only[go_sem]
      refine⟨_,ah.refl _,?_⟩
      simp only[go_sem]
      exact aQ.nil (fun i hi=>⟨nt ((fr i hi).1),nt ((fr i hi).2)⟩) (rs':=[bv false]) ⟨_,_,rfl,.one (.d _),rfl⟩ ⟨rfl,rfl,rfl⟩
     rw[hye2] at hza
     simp only[v8] at hza
     simp only[go_sem,q0,q4,o4]
     refine bE aa rfl hth (by simp only[go_sem];rfl) (B+65) a7 (fun i hi=>nt (hfr i a7)) ((E.mono hB fr).mono hB fun i hi=>⟨nu,nu⟩) ?_
     cases yt
     ·simp only[y8,B8] at hza
      subst hza
      simp only[go_sem]
      refine⟨_,ah.refl _,?_⟩
      simp only[go_sem]
      exact aQ.nil (fun i hi=>⟨nt ((fr i hi).1),nt ((fr i hi).2)⟩) (rs':=[bv false]) ⟨_,_,rfl,.one (.d _),rfl⟩ ⟨rfl,rfl,rfl⟩
     simp only[go_sem,q0,q4,o4]
     refine bE aa rfl hel (by simp only[go_sem];rfl) (B+65) a7 (fun i hi=>nt (hfr i a7)) ((E.mono hB fr).mono hB fun i hi=>⟨nu,nu⟩) ?_
     cases ye
     ·simp only[y8,B8] at hza
      subst hza
      simp only[go_sem]
      refine⟨_,ah.refl _,?_⟩
      simp only[go_sem]
      exact aQ.nil (fun i hi=>⟨nt ((fr i hi).1),nt ((fr i hi).2)⟩) (rs':=[bv false]) ⟨_,_,rfl,.one (.d _),rfl⟩ ⟨rfl,rfl,rfl⟩
     simp only[v8] at hza
     simp only[go_sem,q11,hw]
     refine ai (m-1) a7 ⟨k+1,a7,hza,?_⟩
     simp only[go_sem,q0,q4,q9,q10,o4]
     exact⟨fun j hj=>⟨nt ((fr j hj).1),nt ((fr j hj).2)⟩,fun j hj=>nt (hfr j hj)⟩
    ·simp only[L6,y8] at hza
     subst hza
     simp only[go_sem,n1,n2,q0,or,hgr,hgm,om,mo1,A8]
     refine⟨_,ah.refl _,?_⟩
     simp only[go_sem]
     exact aQ.nil (fun i hi=>⟨nt ((fr i hi).1),nt ((fr i hi).2)⟩) (rs':=[bv false]) ⟨_,_,rfl,.one (.d _),rfl⟩ ⟨rfl,rfl,rfl⟩
 rw[show (kind==6)=false by simp[k6]] at hza
 by_cases k7:kind=7
 ·subst k7
  simp only[show ((7:Int)==7)=true from rfl,y8,H5,v8] at hza
  by_cases hle0:0<es.length
  ·have hlei:(0:Int)<(es.length:Int):=a7
   rw[D3 hle0] at hza
   simp only[v8,Bool.not_not] at hza
   cases w
   ·simp only[y8] at hza
    subst hza
    simp only[go_sem,j6,hlei,q4,o4]
    refine⟨_,ah.refl _,?_⟩
    simp only[go_sem]
    exact aQ.nil (fun i hi=>⟨nt ((fr i hi).1),nt ((fr i hi).2)⟩) (rs':=[bv false]) ⟨_,_,rfl,.one (.d _),rfl⟩ ⟨rfl,rfl,rfl⟩
   simp only[v8] at hza
   simp only[go_sem,j6,hlei,q4,o4]
   try (simp only[go_sem,q0,q4,o4])
   refine bE aa rfl (hes 1) (by simp only[go_sem];rfl) (B+65) a7 (fun i hi=>nt (hfr i a7)) ((E.mono hB fr).mono hB fun i hi=>⟨nu,nu⟩) ?_
   cases hye2:dL fs 1 es
   ·rw[hye2] at hza
    simp only[y8,B8] at hza
    subst hza
    simp only[go_sem]
    refine⟨_,ah.refl _,?_⟩
    simp only[go_sem]
    exact aQ.nil (fun i hi=>⟨nt ((fr i hi).1),nt ((fr i hi).2)⟩) (rs':=[bv false]) ⟨_,_,rfl,.one (.d _),rfl⟩ ⟨rfl,rfl,rfl⟩
   rw[hye2] at hza
   simp only[v8] at hza
   simp only[go_sem,q0,q4,o4]
   refine bE aa rfl hth (by simp only[go_sem];rfl) (B+65) a7 (fun i hi=>nt (hfr i a7)) ((E.mono hB fr).mono hB fun i hi=>⟨nu,nu⟩) ?_
   cases yt
   ·simp only[y8,B8] at hza
    subst hza
    simp only[go_sem]
    refine⟨_,ah.refl _,?_⟩
    simp only[go_sem]
    exact aQ.nil (fun i hi=>⟨nt ((fr i hi).1),nt ((fr i hi).2)⟩) (rs':=[bv false]) ⟨_,_,rfl,.one (.d _),rfl⟩ ⟨rfl,rfl,rfl⟩
   simp only[go_sem,q0,q4,o4]
   refine bE aa rfl hel (by simp only[go_sem];rfl) (B+65) a7 (fun i hi=>nt (hfr i a7)) ((E.mono hB fr).mono hB fun i hi=>⟨nu,nu⟩) ?_
   cases ye
   ·simp only[y8,B8] at hza
    subst hza
    simp only[go_sem]
    refine⟨_,ah.refl _,?_⟩
    simp only[go_sem]
    exact aQ.nil (fun i hi=>⟨nt ((fr i hi).1),nt ((fr i hi).2)⟩) (rs':=[bv false]) ⟨_,_,rfl,.one (.d _),rfl⟩ ⟨rfl,rfl,rfl⟩
   simp only[v8] at hza
   simp only[go_sem,q11,hw]
   refine ai (m-1) a7 ⟨k+1,a7,hza,?_⟩
   simp only[go_sem,q0,q4,q9,q10,o4]
   exact⟨fun j hj=>⟨nt ((fr j hj).1),nt ((fr j hj).2)⟩,fun j hj=>nt (hfr j hj)⟩
  have hlei:¬(0:Int)<(es.length:Int):=a7
  rw[y7 hle0] at hza
  simp only[y8,H5,v8] at hza
  simp only[go_sem,j6,hlei,q4,o4]
  try (simp only[go_sem,q0,q4,o4])
  refine bE aa rfl (hes 1) (by simp only[go_sem];rfl) (B+65) a7 (fun i hi=>nt (hfr i a7)) ((E.mono hB fr).mono hB fun i hi=>⟨nu,nu⟩) ?_
  cases hye2:dL fs 1 es
  ·rw[hye2] at hza
   simp only[y8,B8] at hza
   subst hza
   simp only[go_sem]
   refine⟨_,ah.refl _,?_⟩
   simp only[go_sem]
   exact aQ.nil (fun i hi=>⟨nt ((fr i hi).1),nt ((fr i hi).2)⟩) (rs':=[bv false]) ⟨_,_,rfl,.one (.d _),rfl⟩ ⟨rfl,rfl,rfl⟩
  rw[hye2] at hza
  simp only[v8] at hza
  simp only[go_sem,q0,q4,o4]
  refine bE aa rfl hth (by simp only[go_sem];rfl) (B+65) a7 (fun i hi=>nt (hfr i a7)) ((E.mono hB fr).mono hB fun i hi=>⟨nu,nu⟩) ?_
  cases yt
  ·simp only[y8,B8] at hza
   subst hza
   simp only[go_sem]
   refine⟨_,ah.refl _,?_⟩
   simp only[go_sem]
   exact aQ.nil (fun i hi=>⟨nt ((fr i hi).1),nt ((fr i hi).2)⟩) (rs':=[bv false]) ⟨_,_,rfl,.one (.d _),rfl⟩ ⟨rfl,rfl,rfl⟩
  simp only[go_sem,q0,q4,o4]
  refine bE aa rfl hel (by simp only[go_sem];rfl) (B+65) a7 (fun i hi=>nt (hfr i a7)) ((E.mono hB fr).mono hB fun i hi=>⟨nu,nu⟩) ?_
  cases ye
  ·simp only[y8,B8] at hza
   subst hza
   simp only[go_sem]
   refine⟨_,ah.refl _,?_⟩
   simp only[go_sem]
   exact aQ.nil (fun i hi=>⟨nt ((fr i hi).1),nt ((fr i hi).2)⟩) (rs':=[bv false]) ⟨_,_,rfl,.one (.d _),rfl⟩ ⟨rfl,rfl,rfl⟩
  simp only[v8] at hza
  simp only[go_sem,q11,hw]
  refine ai (m-1) a7 ⟨k+1,a7,hza,?_⟩
  simp only[go_sem,q0,q4,q9,q10,o4]
  exact⟨fun j hj=>⟨nt ((fr j hj).1),nt ((fr j hj).2)⟩,fun j hj=>nt (hfr j hj)⟩
 rw[show (kind==7)=false by simp[k7]] at hza
 simp only[y8,H5,v8] at hza
 simp only[go_sem,k4,k5,k6,k7]
 try (simp only[go_sem,q0,q4,o4])
 refine bE aa rfl (hes 1) (by simp only[go_sem];rfl) (B+65) a7 (fun i hi=>nt (hfr i a7)) ((E.mono hB fr).mono hB fun i hi=>⟨nu,nu⟩) ?_
 cases hye2:dL fs 1 es
 ·rw[hye2] at hza
  simp only[y8,B8] at hza
  subst hza
  simp only[go_sem]
  refine⟨_,ah.refl _,?_⟩
  simp only[go_sem]
  exact aQ.nil (fun i hi=>⟨nt ((fr i hi).1),nt ((fr i hi).2)⟩) (rs':=[bv false]) ⟨_,_,rfl,.one (.d _),rfl⟩ ⟨rfl,rfl,rfl⟩
 rw[hye2] at hza
 simp only[v8] at hza
 simp only[go_sem,q0,q4,o4]
 refine bE aa rfl hth (by simp only[go_sem];rfl) (B+65) a7 (fun i hi=>nt (hfr i a7)) ((E.mono hB fr).mono hB fun i hi=>⟨nu,nu⟩) ?_
 cases yt
 ·simp only[y8,B8] at hza
  subst hza
  simp only[go_sem]
  refine⟨_,ah.refl _,?_⟩
  simp only[go_sem]
  exact aQ.nil (fun i hi=>⟨nt ((fr i hi).1),nt ((fr i hi).2)⟩) (rs':=[bv false]) ⟨_,_,rfl,.one (.d _),rfl⟩ ⟨rfl,rfl,rfl⟩
 simp only[go_sem,q0,q4,o4]
 refine bE aa rfl hel (by simp only[go_sem];rfl) (B+65) a7 (fun i hi=>nt (hfr i a7)) ((E.mono hB fr).mono hB fun i hi=>⟨nu,nu⟩) ?_
 cases ye
 ·simp only[y8,B8] at hza
  subst hza
  simp only[go_sem]
  refine⟨_,ah.refl _,?_⟩
  simp only[go_sem]
  exact aQ.nil (fun i hi=>⟨nt ((fr i hi).1),nt ((fr i hi).2)⟩) (rs':=[bv false]) ⟨_,_,rfl,.one (.d _),rfl⟩ ⟨rfl,rfl,rfl⟩
 simp only[v8] at hza
 simp only[go_sem,q11,hw]
 refine ai (m-1) a7 ⟨k+1,a7,hza,?_⟩
 simp only[go_sem,q0,q4,q9,q10,o4]
 exact⟨fun j hj=>⟨nt ((fr j hj).1),nt ((fr j hj).2)⟩,fun j hj=>nt (hfr j hj)⟩
end
end
section
variable {l:List Src.Fn}
theorem vZ.put {M:List C}{f:Src.Fn} (h:vZ M l) (hn:ce l f.name=none):vZ (mset M (.str f.name) (.d (.iptr (fnD f)))) (l++[f]):=fun s=>by
 rw[mj,Src.Kt]
 simp only[iJ,ce]
 by_cases hs:f.name=s
 ·subst hs
  rw[hn]
  simp
 ·simp only[hs,L0,B7,A3]
  rw[h s]
  cases ce l s <;> rfl
theorem vZ.old {M:List C}{f x:Src.Fn} (h:vZ M l) (hn:ce l f.name=some x):vZ M (l++[f]):=fun s=>by
 rw[h s,Src.Kt]
 cases hf:ce l s with
 |some y=>rfl
 |none=>
   simp only[ce]
   rw[if_neg (by rintro rfl;rw[hn] at hf;cases hf)]
theorem FF {g:Nat→Nat}{ob:Obs} (p:Src.Prog) (hsz:szP p≤1000000000) :
  dF Tryz.prog 121 [ep p] g ob (fun r g' ob'=>∃gr gm,r=.one (.ptr 1012 gr 0)∧uK p.funcs gr gm g' ob'∧∀i,i<1000∨1100≤i→g' i=g i∧ob' i=ob i) (fun _ _ _=>False):=by
 refine dU 1000 ae mixed Tryz.func121 rfl b9 [.tmp 2] rfl c9 c9 (by simp[Tryz.ntmps121]) fun b₀ β0 s0 w0=>?_
 unfold szP at hsz
 have hpV:ep p=.agg [.d (.sl (p.vars.map fun s=>[.str s])),.d (.sl (p.arrays.map arD)),.d (.sl (p.funcs.map fnD))]:=rfl
 rw[hpV]
 simp only[go_sem,j6]
 refine ak (fun m st=>∃k:Nat,m+k=p.funcs.length∧st.f 3=.one (.ptr 1012 (st.gen 1012) 0)∧st.f 14=.one (.d (.sl (p.funcs.map fnD)))∧st.f 15=iv .i64 p.funcs.length∧st.f 16=iv .i64 k∧
   st.obj 1012=some [.mp 1010 (st.gen 1010) 208,.d .nilf,.d .nilf,.d .nilf,.d .nilf,.d .nilf,.d .nilf,.d .nilf,.d .nilf,.d .nilf,.d .nilf]∧(∃M,st.obj 1010=some M∧vZ M (p.funcs.take k))∧(∀i,i<1000∨1100≤i→st.gen i=g i∧st.obj i=ob i)) p.funcs.length ?_ ?_
 ·refine⟨0,rfl,?_⟩
  simp only[go_sem]
  exact⟨⟨[],rfl,fun s=>rfl⟩,fun i hi=>⟨nu,nu⟩⟩
 rintro m f g1 ob1 ⟨k,hk,q3,q14,q15,q16,o12,⟨M,oM,mM⟩,fr⟩
 simp only at q3 q14 q15 q16 o12 oM fr
 have hw:=am (k:=k) a7
 by_cases hlt:k<p.funcs.length
 ·have hki:(k:Int)<(p.funcs.length:Int):=a7
  have hk0:(0:Int)≤(k:Int):=a7
  obtain⟨x,he⟩:=getq hlt
  have hfD:fnD x=[.str x.name,.sl (x.params.map fun s=>[.str s]),.sl (x.locals.map fun s=>[.str s]),.bool x.word,.sl (x.body.map smD)]:=rfl
  have mo1:=mM x.name
  simp only[go_sem,q3,q14,q15,q16,hki,hk0,he,hfD]
  refine ml (B:=1000) ae mixed aa [1006] [([3],[0],[],false),([21],[0],[],false),([22],[0],[],false),([23],[0],[],false),([5],[0],[],false),([25],[0],[],false),([24,26],[0],[],false),([27],[0],[],false),([20],[0],[],false),([20],[0],[],false),([],[],[0],false),([6,28],[],[0],false),([29],[],[],true)] 1 rfl j0 rfl a8 ?_
  simp only[go_sem]
  cases hff:ce (p.funcs.take k) x.name with
  |none=>
    rw[hff] at mo1
    simp only[F6] at mo1
    iterate 10 (apply aO;· (intro fa ga oa K' hK;simp only[go_sem,q3,o12,oM,mo1,C0] at hK ⊢;exact hK))
    (apply dR;· (intro fa ga oa K' hK;simp only[go_sem] at hK ⊢;exact hK))
    (apply ja;(focus simp);(focus (intro fa ga oa K' hK;simp only[go_sem] at hK ⊢;exact hK)))
    apply cY
    intro K' hK'
    simp only[go_sem]
    refine hK' _ ?_
    clear hK' K'
    simp only[go_sem]
    refine aI j0 ?_
    simp only[go_sem,q3,o12,oM,q16,hw]
    refine ai (m-1) a7 ⟨k+1,a7,?_⟩
    have hT:p.funcs.take (k+1)=p.funcs.take k++[x]:=by rw[A7,he,H3]
    simp only[go_sem,q3,q14,q15,o12]
    exact⟨⟨_,rfl,by rw[hT];exact mM.put hff⟩,fun i hi=>⟨nt ((fr i hi).1),nt ((fr i hi).2)⟩⟩
  |some y=>
    obtain⟨nm,ps,ls,wd,body⟩:=y
    rw[hff] at mo1
    simp only[w7,fnD] at mo1
    iterate 10 (apply aO;· (intro fa ga oa K' hK;simp only[go_sem,q3,o12,oM,mo1,A8] at hK ⊢;exact hK))
    (apply dR;· (intro fa ga oa K' hK;simp only[go_sem] at hK ⊢;exact hK))
    (apply ja;(focus simp);(focus (intro fa ga oa K' hK;simp only[go_sem] at hK ⊢;exact hK)))
    apply cY
    intro K' hK'
    simp only[go_sem]
    refine hK' _ ?_
    clear hK' K'
    simp only[go_sem,q16,hw]
    refine ai (m-1) a7 ⟨k+1,a7,?_⟩
    have hT:p.funcs.take (k+1)=p.funcs.take k++[x]:=by rw[A7,he,H3]
    simp only[go_sem,q3,q14,q15,o12]
    exact⟨⟨M,oM,by rw[hT];exact mM.old hff⟩,fun i hi=>⟨nt ((fr i hi).1),nt ((fr i hi).2)⟩⟩
 have hki:¬(k:Int)<(p.funcs.length:Int):=a7
 obtain rfl:k=p.funcs.length:=a7
 rw[l6 (l4 _)] at mM
 simp only[go_sem,q3,q15,q16,hki,o12]
 refine oB (B:=1000) ae mixed aa j0 j0 (fun L s=>s.gen=g1∧(∀i,i≠1012→s.obj i=ob1 i)∧s.f 3=.one (.ptr 1012 (g1 1012) 0)∧s.f 8=.one (.d (.fn 169))∧s.f 9=.one (.clo (170+1000000) [.ptr 1012 (g1 1012) 0])∧(L 0=true→s.f 42=.one (.ptr 1012 (g1 1012) 0))∧(L 1=true→s.f 43=.one (.ptr 1012 (g1 1012) 0))∧(L 2=true→s.f 44=.one (.ptr 1012 (g1 1012) 0))∧(L 3=true→s.f 45=.one (.d (.fn 169)))∧(L 4=true→s.f 46=.one (.d (.fn 169)))∧(L 5=true→s.f 47=.one (.d (.fn 169)))∧(L 6=true→s.f 48=.one (.ptr 1012 (g1 1012) 0))∧(L 7=true→s.f 49=.one (.ptr 1012 (g1 1012) 1))∧(L 8=true→s.f 50=.one (.ptr 1012 (g1 1012) 2))∧(L 10=true→s.f 51=.one (.ptr 1012 (g1 1012) 0))∧(L 11=true→s.f 52=.one (.ptr 1012 (g1 1012) 1))∧(L 12=true→s.f 53=.one (.ptr 1012 (g1 1012) 3))∧(L 14=true→s.f 54=.one (.ptr 1012 (g1 1012) 0))∧(L 15=true→s.f 55=.one (.ptr 1012 (g1 1012) 1))∧(L 16=true→s.f 56=.one (.ptr 1012 (g1 1012) 6))∧s.obj 1012=some [.mp 1010 (g1 1010) 208,.d .nilf,if L 9=true then .d (.fn 169) else .d .nilf,if L 13=true then .d (.fn 169) else .d .nilf,.d .nilf,.d .nilf,if L 17=true then .d (.fn 169) else .d .nilf,.d .nilf,.d .nilf,.d .nilf,.d .nilf]) ?_ ?_ ?_
 ·exact⟨rfl,fun i hi=>rfl,by simp only[go_sem,q3],by simp only[go_sem,q3],by simp only[go_sem,q3],fun h=>by simp at h,fun h=>by simp at h,fun h=>by simp at h,fun h=>by simp at h,fun h=>by simp at h,fun h=>by simp at h,fun h=>by simp at h,fun h=>by simp at h,fun h=>by simp at h,fun h=>by simp at h,fun h=>by simp at h,fun h=>by simp at h,fun h=>by simp at h,fun h=>by simp at h,fun h=>by simp at h,by simp only[go_sem,o12,B7]⟩
 ·rintro L ⟨f',g',ob'⟩ i op ⟨hg,ho,k3,k8,k9,h0,h1,h2,h3,h4,h5,h6,h7,h8,h10,h11,h12,h14,h15,h16,hc⟩ hop hL hdep hid
  simp only at hg ho k3 k8 k9 h0 h1 h2 h3 h4 h5 h6 h7 h8 h10 h11 h12 h14 h15 h16 hc
  subst hg
  match i,hop with
  |0,hop=>
    simp only[w8,u7,s9,u2] at hop;subst hop
    simp only[go_sem,k3,k8,k9,hc]
    repeat' (first|assumption|rfl|(intro i hi;(try simp only[upd]);(try rw[if_neg hi]);exact ho i hi)|(intro hh;first|exact h0 hh|exact h1 hh|exact h2 hh|exact h3 hh|exact h4 hh|exact h5 hh|exact h6 hh|exact h7 hh|exact h8 hh|exact h10 hh|exact h11 hh|exact h12 hh|exact h14 hh|exact h15 hh|exact h16 hh)|apply C1)
  |1,hop=>
    simp only[w8,u7,s9,u2] at hop;subst hop
    simp only[go_sem,k3,k8,k9,hc]
    repeat' (first|assumption|rfl|(intro i hi;(try simp only[upd]);(try rw[if_neg hi]);exact ho i hi)|(intro hh;first|exact h0 hh|exact h1 hh|exact h2 hh|exact h3 hh|exact h4 hh|exact h5 hh|exact h6 hh|exact h7 hh|exact h8 hh|exact h10 hh|exact h11 hh|exact h12 hh|exact h14 hh|exact h15 hh|exact h16 hh)|apply C1)
  |2,hop=>
    simp only[w8,u7,s9,u2] at hop;subst hop
    simp only[go_sem,k3,k8,k9,hc]
    repeat' (first|assumption|rfl|(intro i hi;(try simp only[upd]);(try rw[if_neg hi]);exact ho i hi)|(intro hh;first|exact h0 hh|exact h1 hh|exact h2 hh|exact h3 hh|exact h4 hh|exact h5 hh|exact h6 hh|exact h7 hh|exact h8 hh|exact h10 hh|exact h11 hh|exact h12 hh|exact h14 hh|exact h15 hh|exact h16 hh)|apply C1)
  |3,hop=>
    simp only[w8,u7,s9,u2] at hop;subst hop
    simp only[go_sem,k3,k8,k9,hc]
    repeat' (first|assumption|rfl|(intro i hi;(try simp only[upd]);(try rw[if_neg hi]);exact ho i hi)|(intro hh;first|exact h0 hh|exact h1 hh|exact h2 hh|exact h3 hh|exact h4 hh|exact h5 hh|exact h6 hh|exact h7 hh|exact h8 hh|exact h10 hh|exact h11 hh|exact h12 hh|exact h14 hh|exact h15 hh|exact h16 hh)|apply C1)
  |4,hop=>
    simp only[w8,u7,s9,u2] at hop;subst hop
    simp only[go_sem,k3,k8,k9,hc]
    repeat' (first|assumption|rfl|(intro i hi;(try simp only[upd]);(try rw[if_neg hi]);exact ho i hi)|(intro hh;first|exact h0 hh|exact h1 hh|exact h2 hh|exact h3 hh|exact h4 hh|exact h5 hh|exact h6 hh|exact h7 hh|exact h8 hh|exact h10 hh|exact h11 hh|exact h12 hh|exact h14 hh|exact h15 hh|exact h16 hh)|apply C1)
  |5,hop=>
    simp only[w8,u7,s9,u2] at hop;subst hop
    simp only[go_sem,k3,k8,k9,hc]
    repeat' (first|assumption|rfl|(intro i hi;(try simp only[upd]);(try rw[if_neg hi]);exact ho i hi)|(intro hh;first|exact h0 hh|exact h1 hh|exact h2 hh|exact h3 hh|exact h4 hh|exact h5 hh|exact h6 hh|exact h7 hh|exact h8 hh|exact h10 hh|exact h11 hh|exact h12 hh|exact h14 hh|exact h15 hh|exact h16 hh)|apply C1)
  |6,hop=>
    simp only[w8,u7,s9,u2] at hop;subst hop
    have d0:L 0=true:=hdep ⟨0,.data⟩ a8 rfl
    simp only[go_sem,h0 d0,k3,k8,k9,hc]
    repeat' (first|assumption|rfl|(intro i hi;(try simp only[upd]);(try rw[if_neg hi]);exact ho i hi)|(intro hh;first|exact h0 hh|exact h1 hh|exact h2 hh|exact h3 hh|exact h4 hh|exact h5 hh|exact h6 hh|exact h7 hh|exact h8 hh|exact h10 hh|exact h11 hh|exact h12 hh|exact h14 hh|exact h15 hh|exact h16 hh)|apply C1)
  |7,hop=>
    simp only[w8,u7,s9,u2] at hop;subst hop
    have d6:L 6=true:=hdep ⟨6,.data⟩ a8 rfl
    simp only[go_sem,h6 d6,k3,k8,k9,hc]
    repeat' (first|assumption|rfl|(intro i hi;(try simp only[upd]);(try rw[if_neg hi]);exact ho i hi)|(intro hh;first|exact h0 hh|exact h1 hh|exact h2 hh|exact h3 hh|exact h4 hh|exact h5 hh|exact h6 hh|exact h7 hh|exact h8 hh|exact h10 hh|exact h11 hh|exact h12 hh|exact h14 hh|exact h15 hh|exact h16 hh)|apply C1)
  |8,hop=>
    simp only[w8,u7,s9,u2] at hop;subst hop
    have d7:L 7=true:=hdep ⟨7,.data⟩ a8 rfl
    simp only[go_sem,h7 d7,k3,k8,k9,hc]
    repeat' (first|assumption|rfl|(intro i hi;(try simp only[upd]);(try rw[if_neg hi]);exact ho i hi)|(intro hh;first|exact h0 hh|exact h1 hh|exact h2 hh|exact h3 hh|exact h4 hh|exact h5 hh|exact h6 hh|exact h7 hh|exact h8 hh|exact h10 hh|exact h11 hh|exact h12 hh|exact h14 hh|exact h15 hh|exact h16 hh)|apply C1)
  |9,hop=>
    simp only[w8,u7,s9,u2] at hop;subst hop
    have d8:L 8=true:=hdep ⟨8,.data⟩ a8 rfl
    have d3:L 3=true:=hdep ⟨3,.data⟩ a8 rfl
    simp only[go_sem,h8 d8,h3 d3,k3,k8,k9,hc]
    repeat' (first|assumption|rfl|(intro i hi;(try simp only[upd]);(try rw[if_neg hi]);exact ho i hi)|(intro hh;first|exact h0 hh|exact h1 hh|exact h2 hh|exact h3 hh|exact h4 hh|exact h5 hh|exact h6 hh|exact h7 hh|exact h8 hh|exact h10 hh|exact h11 hh|exact h12 hh|exact h14 hh|exact h15 hh|exact h16 hh)|apply C1)
  |10,hop=>
    simp only[w8,u7,s9,u2] at hop;subst hop
    have d1:L 1=true:=hdep ⟨1,.data⟩ a8 rfl
    simp only[go_sem,h1 d1,k3,k8,k9,hc]
    repeat' (first|assumption|rfl|(intro i hi;(try simp only[upd]);(try rw[if_neg hi]);exact ho i hi)|(intro hh;first|exact h0 hh|exact h1 hh|exact h2 hh|exact h3 hh|exact h4 hh|exact h5 hh|exact h6 hh|exact h7 hh|exact h8 hh|exact h10 hh|exact h11 hh|exact h12 hh|exact h14 hh|exact h15 hh|exact h16 hh)|apply C1)
  |11,hop=>
    simp only[w8,u7,s9,u2] at hop;subst hop
    have d10:L 10=true:=hdep ⟨10,.data⟩ a8 rfl
    simp only[go_sem,h10 d10,k3,k8,k9,hc]
    repeat' (first|assumption|rfl|(intro i hi;(try simp only[upd]);(try rw[if_neg hi]);exact ho i hi)|(intro hh;first|exact h0 hh|exact h1 hh|exact h2 hh|exact h3 hh|exact h4 hh|exact h5 hh|exact h6 hh|exact h7 hh|exact h8 hh|exact h10 hh|exact h11 hh|exact h12 hh|exact h14 hh|exact h15 hh|exact h16 hh)|apply C1)
  |12,hop=>
    simp only[w8,u7,s9,u2] at hop;subst hop
    have d11:L 11=true:=hdep ⟨11,.data⟩ a8 rfl
    simp only[go_sem,h11 d11,k3,k8,k9,hc]
    repeat' (first|assumption|rfl|(intro i hi;(try simp only[upd]);(try rw[if_neg hi]);exact ho i hi)|(intro hh;first|exact h0 hh|exact h1 hh|exact h2 hh|exact h3 hh|exact h4 hh|exact h5 hh|exact h6 hh|exact h7 hh|exact h8 hh|exact h10 hh|exact h11 hh|exact h12 hh|exact h14 hh|exact h15 hh|exact h16 hh)|apply C1)
  |13,hop=>
    simp only[w8,u7,s9,u2] at hop;subst hop
    have d12:L 12=true:=hdep ⟨12,.data⟩ a8 rfl
    have d4:L 4=true:=hdep ⟨4,.data⟩ a8 rfl
    simp only[go_sem,h12 d12,h4 d4,k3,k8,k9,hc]
    repeat' (first|assumption|rfl|(intro i hi;(try simp only[upd]);(try rw[if_neg hi]);exact ho i hi)|(intro hh;first|exact h0 hh|exact h1 hh|exact h2 hh|exact h3 hh|exact h4 hh|exact h5 hh|exact h6 hh|exact h7 hh|exact h8 hh|exact h10 hh|exact h11 hh|exact h12 hh|exact h14 hh|exact h15 hh|exact h16 hh)|apply C1)
  |14,hop=>
    simp only[w8,u7,s9,u2] at hop;subst hop
    have d2:L 2=true:=hdep ⟨2,.data⟩ a8 rfl
    simp only[go_sem,h2 d2,k3,k8,k9,hc]
    repeat' (first|assumption|rfl|(intro i hi;(try simp only[upd]);(try rw[if_neg hi]);exact ho i hi)|(intro hh;first|exact h0 hh|exact h1 hh|exact h2 hh|exact h3 hh|exact h4 hh|exact h5 hh|exact h6 hh|exact h7 hh|exact h8 hh|exact h10 hh|exact h11 hh|exact h12 hh|exact h14 hh|exact h15 hh|exact h16 hh)|apply C1)
  |15,hop=>
    simp only[w8,u7,s9,u2] at hop;subst hop
    have d14:L 14=true:=hdep ⟨14,.data⟩ a8 rfl
    simp only[go_sem,h14 d14,k3,k8,k9,hc]
    repeat' (first|assumption|rfl|(intro i hi;(try simp only[upd]);(try rw[if_neg hi]);exact ho i hi)|(intro hh;first|exact h0 hh|exact h1 hh|exact h2 hh|exact h3 hh|exact h4 hh|exact h5 hh|exact h6 hh|exact h7 hh|exact h8 hh|exact h10 hh|exact h11 hh|exact h12 hh|exact h14 hh|exact h15 hh|exact h16 hh)|apply C1)
  |16,hop=>
    simp only[w8,u7,s9,u2] at hop;subst hop
    have d15:L 15=true:=hdep ⟨15,.data⟩ a8 rfl
    simp only[go_sem,h15 d15,k3,k8,k9,hc]
    repeat' (first|assumption|rfl|(intro i hi;(try simp only[upd]);(try rw[if_neg hi]);exact ho i hi)|(intro hh;first|exact h0 hh|exact h1 hh|exact h2 hh|exact h3 hh|exact h4 hh|exact h5 hh|exact h6 hh|exact h7 hh|exact h8 hh|exact h10 hh|exact h11 hh|exact h12 hh|exact h14 hh|exact h15 hh|exact h16 hh)|apply C1)
  |17,hop=>
    simp only[w8,u7,s9,u2] at hop;subst hop
    have d16:L 16=true:=hdep ⟨16,.data⟩ a8 rfl
    have d5:L 5=true:=hdep ⟨5,.data⟩ a8 rfl
    simp only[go_sem,h16 d16,h5 d5,k3,k8,k9,hc]
    repeat' (first|assumption|rfl|(intro i hi;(try simp only[upd]);(try rw[if_neg hi]);exact ho i hi)|(intro hh;first|exact h0 hh|exact h1 hh|exact h2 hh|exact h3 hh|exact h4 hh|exact h5 hh|exact h6 hh|exact h7 hh|exact h8 hh|exact h10 hh|exact h11 hh|exact h12 hh|exact h14 hh|exact h15 hh|exact h16 hh)|apply C1)
  |j+18,hop=>exact absurd hop a8
 rintro L ⟨f',g',ob'⟩ ⟨hg,ho,k3,k8,k9,h0,h1,h2,h3,h4,h5,h6,h7,h8,h10,h11,h12,h14,h15,h16,hc⟩ hall
 simp only at hg ho k3 k8 k9 h0 h1 h2 h3 h4 h5 h6 h7 h8 h10 h11 h12 h14 h15 h16 hc
 subst hg
 rw[hall 9 c8,hall 13 c8,hall 17 c8] at hc
 simp only[A4] at hc
 clear hall h0 h1 h2 h3 h4 h5 h6 h7 h8 h10 h11 h12 h14 h15 h16
 have ho1:=ho
 simp only[go_sem,k3,k9,hc]
 refine oB (B:=1000) ae mixed aa j0 j0 (fun L s=>s.gen=g'∧(∀i,i≠1012→s.obj i=ob' i)∧s.f 3=.one (.ptr 1012 (g' 1012) 0)∧s.f 9=.one (.clo (170+1000000) [.ptr 1012 (g' 1012) 0])∧(L 0=true→s.f 75=.one (.ptr 1012 (g' 1012) 0))∧(L 1=true→s.f 76=.one (.ptr 1012 (g' 1012) 0))∧(L 2=true→s.f 77=.one (.ptr 1012 (g' 1012) 0))∧(L 3=true→s.f 78=.one (.clo (170+1000000) [.ptr 1012 (g' 1012) 0]))∧(L 4=true→s.f 79=.one (.clo (170+1000000) [.ptr 1012 (g' 1012) 0]))∧(L 5=true→s.f 80=.one (.clo (170+1000000) [.ptr 1012 (g' 1012) 0]))∧(L 6=true→s.f 81=.one (.ptr 1012 (g' 1012) 0))∧(L 7=true→s.f 82=.one (.ptr 1012 (g' 1012) 1))∧(L 8=true→s.f 83=.one (.ptr 1012 (g' 1012) 8))∧(L 10=true→s.f 84=.one (.ptr 1012 (g' 1012) 0))∧(L 11=true→s.f 85=.one (.ptr 1012 (g' 1012) 1))∧(L 12=true→s.f 86=.one (.ptr 1012 (g' 1012) 9))∧(L 14=true→s.f 87=.one (.ptr 1012 (g' 1012) 0))∧(L 15=true→s.f 88=.one (.ptr 1012 (g' 1012) 1))∧(L 16=true→s.f 89=.one (.ptr 1012 (g' 1012) 10))∧s.obj 1012=some [.mp 1010 (g' 1010) 208,.d .nilf,.d (.fn 169),.d (.fn 169),.clo (171+1000000) [.ptr 1012 (g' 1012) 0],.clo (172+1000000) [.ptr 1012 (g' 1012) 0],.d (.fn 169),.clo (173+1000000) [.ptr 1012 (g' 1012) 0],if L 9=true then .clo (170+1000000) [.ptr 1012 (g' 1012) 0] else .d .nilf,if L 13=true then .clo (170+1000000) [.ptr 1012 (g' 1012) 0] else .d .nilf,if L 17=true then .clo (170+1000000) [.ptr 1012 (g' 1012) 0] else .d .nilf]) ?_ ?_ ?_
 ·exact⟨rfl,fun i hi=>nu,by simp only[go_sem,k3,k9],by simp only[go_sem,k3,k9],fun h=>by simp at h,fun h=>by simp at h,fun h=>by simp at h,fun h=>by simp at h,fun h=>by simp at h,fun h=>by simp at h,fun h=>by simp at h,fun h=>by simp at h,fun h=>by simp at h,fun h=>by simp at h,fun h=>by simp at h,fun h=>by simp at h,fun h=>by simp at h,fun h=>by simp at h,fun h=>by simp at h,by simp only[go_sem,hc,B7]⟩
 ·rintro L ⟨f2,g2,ob2⟩ i op ⟨hg,ho,k3,k9,h0,h1,h2,h3,h4,h5,h6,h7,h8,h10,h11,h12,h14,h15,h16,hc⟩ hop hL hdep hid
  simp only at hg ho k3 k9 h0 h1 h2 h3 h4 h5 h6 h7 h8 h10 h11 h12 h14 h15 h16 hc
  subst hg
  match i,hop with
  |0,hop=>
    simp only[w8,u7,s9,u2] at hop;subst hop
    simp only[go_sem,k3,k9,hc]
    repeat' (first|assumption|rfl|(intro i hi;(try simp only[upd]);(try rw[if_neg hi]);exact ho i hi)|(intro hh;first|exact h0 hh|exact h1 hh|exact h2 hh|exact h3 hh|exact h4 hh|exact h5 hh|exact h6 hh|exact h7 hh|exact h8 hh|exact h10 hh|exact h11 hh|exact h12 hh|exact h14 hh|exact h15 hh|exact h16 hh)|apply C1)
  |1,hop=>
    simp only[w8,u7,s9,u2] at hop;subst hop
    simp only[go_sem,k3,k9,hc]
    repeat' (first|assumption|rfl|(intro i hi;(try simp only[upd]);(try rw[if_neg hi]);exact ho i hi)|(intro hh;first|exact h0 hh|exact h1 hh|exact h2 hh|exact h3 hh|exact h4 hh|exact h5 hh|exact h6 hh|exact h7 hh|exact h8 hh|exact h10 hh|exact h11 hh|exact h12 hh|exact h14 hh|exact h15 hh|exact h16 hh)|apply C1)
  |2,hop=>
    simp only[w8,u7,s9,u2] at hop;subst hop
    simp only[go_sem,k3,k9,hc]
    repeat' (first|assumption|rfl|(intro i hi;(try simp only[upd]);(try rw[if_neg hi]);exact ho i hi)|(intro hh;first|exact h0 hh|exact h1 hh|exact h2 hh|exact h3 hh|exact h4 hh|exact h5 hh|exact h6 hh|exact h7 hh|exact h8 hh|exact h10 hh|exact h11 hh|exact h12 hh|exact h14 hh|exact h15 hh|exact h16 hh)|apply C1)
  |3,hop=>
    simp only[w8,u7,s9,u2] at hop;subst hop
    simp only[go_sem,k3,k9,hc]
    repeat' (first|assumption|rfl|(intro i hi;(try simp only[upd]);(try rw[if_neg hi]);exact ho i hi)|(intro hh;first|exact h0 hh|exact h1 hh|exact h2 hh|exact h3 hh|exact h4 hh|exact h5 hh|exact h6 hh|exact h7 hh|exact h8 hh|exact h10 hh|exact h11 hh|exact h12 hh|exact h14 hh|exact h15 hh|exact h16 hh)|apply C1)
  |4,hop=>
    simp only[w8,u7,s9,u2] at hop;subst hop
    simp only[go_sem,k3,k9,hc]
    repeat' (first|assumption|rfl|(intro i hi;(try simp only[upd]);(try rw[if_neg hi]);exact ho i hi)|(intro hh;first|exact h0 hh|exact h1 hh|exact h2 hh|exact h3 hh|exact h4 hh|exact h5 hh|exact h6 hh|exact h7 hh|exact h8 hh|exact h10 hh|exact h11 hh|exact h12 hh|exact h14 hh|exact h15 hh|exact h16 hh)|apply C1)
  |5,hop=>
    simp only[w8,u7,s9,u2] at hop;subst hop
    simp only[go_sem,k3,k9,hc]
    repeat' (first|assumption|rfl|(intro i hi;(try simp only[upd]);(try rw[if_neg hi]);exact ho i hi)|(intro hh;first|exact h0 hh|exact h1 hh|exact h2 hh|exact h3 hh|exact h4 hh|exact h5 hh|exact h6 hh|exact h7 hh|exact h8 hh|exact h10 hh|exact h11 hh|exact h12 hh|exact h14 hh|exact h15 hh|exact h16 hh)|apply C1)
  |6,hop=>
    simp only[w8,u7,s9,u2] at hop;subst hop
    have d0:L 0=true:=hdep ⟨0,.data⟩ a8 rfl
    simp only[go_sem,h0 d0,k3,k9,hc]
    repeat' (first|assumption|rfl|(intro i hi;(try simp only[upd]);(try rw[if_neg hi]);exact ho i hi)|(intro hh;first|exact h0 hh|exact h1 hh|exact h2 hh|exact h3 hh|exact h4 hh|exact h5 hh|exact h6 hh|exact h7 hh|exact h8 hh|exact h10 hh|exact h11 hh|exact h12 hh|exact h14 hh|exact h15 hh|exact h16 hh)|apply C1)
  |7,hop=>
    simp only[w8,u7,s9,u2] at hop;subst hop
    have d6:L 6=true:=hdep ⟨6,.data⟩ a8 rfl
    simp only[go_sem,h6 d6,k3,k9,hc]
    repeat' (first|assumption|rfl|(intro i hi;(try simp only[upd]);(try rw[if_neg hi]);exact ho i hi)|(intro hh;first|exact h0 hh|exact h1 hh|exact h2 hh|exact h3 hh|exact h4 hh|exact h5 hh|exact h6 hh|exact h7 hh|exact h8 hh|exact h10 hh|exact h11 hh|exact h12 hh|exact h14 hh|exact h15 hh|exact h16 hh)|apply C1)
  |8,hop=>
    simp only[w8,u7,s9,u2] at hop;subst hop
    have d7:L 7=true:=hdep ⟨7,.data⟩ a8 rfl
    simp only[go_sem,h7 d7,k3,k9,hc]
    repeat' (first|assumption|rfl|(intro i hi;(try simp only[upd]);(try rw[if_neg hi]);exact ho i hi)|(intro hh;first|exact h0 hh|exact h1 hh|exact h2 hh|exact h3 hh|exact h4 hh|exact h5 hh|exact h6 hh|exact h7 hh|exact h8 hh|exact h10 hh|exact h11 hh|exact h12 hh|exact h14 hh|exact h15 hh|exact h16 hh)|apply C1)
  |9,hop=>
    simp only[w8,u7,s9,u2] at hop;subst hop
    have d8:L 8=true:=hdep ⟨8,.data⟩ a8 rfl
    have d3:L 3=true:=hdep ⟨3,.data⟩ a8 rfl
    simp only[go_sem,h8 d8,h3 d3,k3,k9,hc]
    repeat' (first|assumption|rfl|(intro i hi;(try simp only[upd]);(try rw[if_neg hi]);exact ho i hi)|(intro hh;first|exact h0 hh|exact h1 hh|exact h2 hh|exact h3 hh|exact h4 hh|exact h5 hh|exact h6 hh|exact h7 hh|exact h8 hh|exact h10 hh|exact h11 hh|exact h12 hh|exact h14 hh|exact h15 hh|exact h16 hh)|apply C1)
  |10,hop=>
    simp only[w8,u7,s9,u2] at hop;subst hop
    have d1:L 1=true:=hdep ⟨1,.data⟩ a8 rfl
    simp only[go_sem,h1 d1,k3,k9,hc]
    repeat' (first|assumption|rfl|(intro i hi;(try simp only[upd]);(try rw[if_neg hi]);exact ho i hi)|(intro hh;first|exact h0 hh|exact h1 hh|exact h2 hh|exact h3 hh|exact h4 hh|exact h5 hh|exact h6 hh|exact h7 hh|exact h8 hh|exact h10 hh|exact h11 hh|exact h12 hh|exact h14 hh|exact h15 hh|exact h16 hh)|apply C1)
  |11,hop=>
    simp only[w8,u7,s9,u2] at hop;subst hop
    have d10:L 10=true:=hdep ⟨10,.data⟩ a8 rfl
    simp only[go_sem,h10 d10,k3,k9,hc]
    repeat' (first|assumption|rfl|(intro i hi;(try simp only[upd]);(try rw[if_neg hi]);exact ho i hi)|(intro hh;first|exact h0 hh|exact h1 hh|exact h2 hh|exact h3 hh|exact h4 hh|exact h5 hh|exact h6 hh|exact h7 hh|exact h8 hh|exact h10 hh|exact h11 hh|exact h12 hh|exact h14 hh|exact h15 hh|exact h16 hh)|apply C1)
  |12,hop=>
    simp only[w8,u7,s9,u2] at hop;subst hop
    have d11:L 11=true:=hdep ⟨11,.data⟩ a8 rfl
    simp only[go_sem,h11 d11,k3,k9,hc]
    repeat' (first|assumption|rfl|(intro i hi;(try simp only[upd]);(try rw[if_neg hi]);exact ho i hi)|(intro hh;first|exact h0 hh|exact h1 hh|exact h2 hh|exact h3 hh|exact h4 hh|exact h5 hh|exact h6 hh|exact h7 hh|exact h8 hh|exact h10 hh|exact h11 hh|exact h12 hh|exact h14 hh|exact h15 hh|exact h16 hh)|apply C1)
  |13,hop=>
    simp only[w8,u7,s9,u2] at hop;subst hop
    have d12:L 12=true:=hdep ⟨12,.data⟩ a8 rfl
    have d4:L 4=true:=hdep ⟨4,.data⟩ a8 rfl
    simp only[go_sem,h12 d12,h4 d4,k3,k9,hc]
    repeat' (first|assumption|rfl|(intro i hi;(try simp only[upd]);(try rw[if_neg hi]);exact ho i hi)|(intro hh;first|exact h0 hh|exact h1 hh|exact h2 hh|exact h3 hh|exact h4 hh|exact h5 hh|exact h6 hh|exact h7 hh|exact h8 hh|exact h10 hh|exact h11 hh|exact h12 hh|exact h14 hh|exact h15 hh|exact h16 hh)|apply C1)
  |14,hop=>
    simp only[w8,u7,s9,u2] at hop;subst hop
    have d2:L 2=true:=hdep ⟨2,.data⟩ a8 rfl
    simp only[go_sem,h2 d2,k3,k9,hc]
    repeat' (first|assumption|rfl|(intro i hi;(try simp only[upd]);(try rw[if_neg hi]);exact ho i hi)|(intro hh;first|exact h0 hh|exact h1 hh|exact h2 hh|exact h3 hh|exact h4 hh|exact h5 hh|exact h6 hh|exact h7 hh|exact h8 hh|exact h10 hh|exact h11 hh|exact h12 hh|exact h14 hh|exact h15 hh|exact h16 hh)|apply C1)
  |15,hop=>
    simp only[w8,u7,s9,u2] at hop;subst hop
    have d14:L 14=true:=hdep ⟨14,.data⟩ a8 rfl
    simp only[go_sem,h14 d14,k3,k9,hc]
    repeat' (first|assumption|rfl|(intro i hi;(try simp only[upd]);(try rw[if_neg hi]);exact ho i hi)|(intro hh;first|exact h0 hh|exact h1 hh|exact h2 hh|exact h3 hh|exact h4 hh|exact h5 hh|exact h6 hh|exact h7 hh|exact h8 hh|exact h10 hh|exact h11 hh|exact h12 hh|exact h14 hh|exact h15 hh|exact h16 hh)|apply C1)
  |16,hop=>
    simp only[w8,u7,s9,u2] at hop;subst hop
    have d15:L 15=true:=hdep ⟨15,.data⟩ a8 rfl
    simp only[go_sem,h15 d15,k3,k9,hc]
    repeat' (first|assumption|rfl|(intro i hi;(try simp only[upd]);(try rw[if_neg hi]);exact ho i hi)|(intro hh;first|exact h0 hh|exact h1 hh|exact h2 hh|exact h3 hh|exact h4 hh|exact h5 hh|exact h6 hh|exact h7 hh|exact h8 hh|exact h10 hh|exact h11 hh|exact h12 hh|exact h14 hh|exact h15 hh|exact h16 hh)|apply C1)
  |17,hop=>
    simp only[w8,u7,s9,u2] at hop;subst hop
    have d16:L 16=true:=hdep ⟨16,.data⟩ a8 rfl
    have d5:L 5=true:=hdep ⟨5,.data⟩ a8 rfl
    simp only[go_sem,h16 d16,h5 d5,k3,k9,hc]
    repeat' (first|assumption|rfl|(intro i hi;(try simp only[upd]);(try rw[if_neg hi]);exact ho i hi)|(intro hh;first|exact h0 hh|exact h1 hh|exact h2 hh|exact h3 hh|exact h4 hh|exact h5 hh|exact h6 hh|exact h7 hh|exact h8 hh|exact h10 hh|exact h11 hh|exact h12 hh|exact h14 hh|exact h15 hh|exact h16 hh)|apply C1)
  |j+18,hop=>exact absurd hop a8
 rintro L ⟨f2,g2,ob2⟩ ⟨hg,ho,k3,k9,h0,h1,h2,h3,h4,h5,h6,h7,h8,h10,h11,h12,h14,h15,h16,hc⟩ hall
 simp only at hg ho k3 k9 h0 h1 h2 h3 h4 h5 h6 h7 h8 h10 h11 h12 h14 h15 h16 hc
 subst hg
 rw[hall 9 c8,hall 13 c8,hall 17 c8] at hc
 simp only[A4] at hc
 clear hall h0 h1 h2 h3 h4 h5 h6 h7 h8 h10 h11 h12 h14 h15 h16
 simp only[go_sem]
 refine⟨_,ah.refl _,?_⟩
 simp only[go_sem,k3]
 refine⟨_,_,rfl,⟨hc,⟨M,(ho 1010 c8).trans ?_,mM⟩,rfl,rfl⟩,fun i hi=>⟨(fr i hi).1,?_⟩⟩
 ·(try simp only[upd]);(repeat rw[if_neg (by omega)])
  exact(ho1 1010 c8).trans oM
 ·rw[ho i a7]
  (try simp only[upd]);(repeat rw[if_neg (by omega)])
  rw[ho1 i a7]
  exact(fr i hi).2
end
end
section
attribute [local congr] Go.Am.ite_cc
open Go Go.Am Go.Asm
open Go.Src (Ex Stm szE bC szS bt cT cq nx cn iG dE)
theorem FG {o:bF} (p:Src.Prog) (hsz:szP p≤1000000000):bj Tryz.prog 3 o 85 [ep p] (· = iv .i64 (nx p:Nat)):=by
 refine ap 0 3 o ae mixed Tryz.func85 rfl b9 [.tmp 2] rfl c9 c9 (by simp[Tryz.ntmps85]) fun b₀ β0 s0 w0 g=>?_
 obtain⟨z,hz⟩:∃z,nx p=z:=⟨_,rfl⟩
 rw[hz]
 have hszp:=hsz
 unfold szP at hsz
 unfold nx at hz
 have hpV:ep p=.agg [.d (.sl (p.vars.map fun s=>[.str s])),.d (.sl (p.arrays.map arD)),.d (.sl (p.funcs.map fnD))]:=rfl
 rw[hpV]
 simp only[go_sem]
 refine bp ab rfl (by simp only[go_sem];rw[←hpV];exact FF p hszp) ?_ ?_
 ·exact fun _ _ _ h=>h.elim
 rintro r g1 ob1 ⟨gr,gm,rfl,E,fr⟩
 have e1:=fr 1 (.inl c8)
 simp[upd] at e1
 have hfr:∀j,1100≤j→ob1 j=none:=fun j hj=>by rw[(fr j (.inr a7)).2];simp only[upd];rw[if_neg a7]
 clear fr
 simp only[go_sem,e1.1,e1.2,j6]
 refine ak (fun m st=>∃k:Nat,m+k=p.funcs.length∧(p.funcs.take k).all (fun f=>cT p.funcs f.body)=true∧st.f 1=.one (.ptr 1 (st.gen 1) 0)∧st.f 3=.one (.ptr 1012 gr 0)∧st.f 11=.one (.d (.sl (p.funcs.map fnD)))∧st.f 12=iv .i64 p.funcs.length∧st.f 13=iv .i64 k∧
   st.obj 1=some (gt p)∧uK p.funcs gr gm st.gen st.obj∧∀j,1100≤j→st.obj j=none) p.funcs.length ?_ ?_
 ·refine⟨0,rfl,a8,?_⟩
  simp only[go_sem,e1.1,e1.2]
  exact⟨rfl,E,hfr⟩
 clear e1 hfr E
 rintro m f g1 ob1 ⟨k,hk,hall,q1,q3,q11,q12,q13,o1,E,hfr⟩
 simp only at q1 q3 q11 q12 q13 o1 E hfr
 have hw:=am (k:=k) a7
 by_cases hlt:k<p.funcs.length
 ·have hki:(k:Int)<(p.funcs.length:Int):=a7
  have hk0:(0:Int)≤(k:Int):=a7
  obtain⟨x,he⟩:=getq hlt
  have hszf:=mr (p:=p) (l8 he)
  unfold szP at hszf
  have hfD:fnD x=[.str x.name,.sl (x.params.map fun s=>[.str s]),.sl (x.locals.map fun s=>[.str s]),.bool x.word,.sl (x.body.map smD)]:=rfl
  have hkn:=xT (fs:=p.funcs) (gr:=gr) (gm:=gm) (bt x.body) x.body (l4 _) a7
  obtain⟨y,hy⟩:∃y,cT p.funcs x.body=y:=⟨_,rfl⟩
  rw[hy] at hkn
  simp only[go_sem,q3,q11,q12,q13,hki,hk0,he,hfD]
  refine bE ab rfl hkn (by simp only[go_sem];rfl) 2000 a7 (fun i hi=>nt (hfr i a7)) ⟨by simp[upd];exact E.or,by simp[upd];exact E.om,by simp[upd];exact E.gr,by simp[upd];exact E.gm⟩ ?_
  cases y
  ·rw[if_pos (Src.all_false (p:=fun f=>cT p.funcs f.body) he hy)] at hz
   subst hz
   simp only[go_sem]
  ·simp only[go_sem,q13,hw]
   refine ai (m-1) a7 ⟨k+1,a7,Src.OB hall he hy,?_⟩
   simp only[go_sem,q1,q3,q11,q12]
   exact⟨o1,⟨by simp[upd];exact E.or,by simp[upd];exact E.om,by simp[upd];exact E.gr,by simp[upd];exact E.gm⟩,fun j hj=>nt (hfr j hj)⟩
 have hki:¬(k:Int)<(p.funcs.length:Int):=a7
 obtain rfl:k=p.funcs.length:=a7
 rw[l6 (l4 _)] at hall
 rw[if_neg (by rw[hall];simp)] at hz
 have o1':=o1
 unfold gt iO at o1
 simp only[l7,v7] at o1
 simp only[go_sem,q1,q12,q13,hki,o1,j6]
 refine ak (fun m st=>∃k:Nat,m+k=p.funcs.length∧(p.funcs.take k).all (fun f=>cq p.funcs f.word f.body)=true∧st.f 3=.one (.ptr 1012 gr 0)∧st.f 24=.one (.d (.sl (p.funcs.map fnD)))∧st.f 25=iv .i64 p.funcs.length∧st.f 26=iv .i64 k∧
   uK p.funcs gr gm st.gen st.obj∧∀j,1100≤j→st.obj j=none) p.funcs.length ?_ ?_
 ·refine⟨0,rfl,a8,?_⟩
  simp only[go_sem,q3]
  exact⟨E,hfr⟩
 clear q1 q3 q11 q12 q13 o1 o1' E hfr hlt hki hk hw
 rintro m f g1 ob1 ⟨k,hk,hall2,q3,q11,q12,q13,E,hfr⟩
 simp only at q3 q11 q12 q13 E hfr
 have hw:=am (k:=k) a7
 by_cases hlt:k<p.funcs.length
 ·have hki:(k:Int)<(p.funcs.length:Int):=a7
  have hk0:(0:Int)≤(k:Int):=a7
  obtain⟨x,he⟩:=getq hlt
  have hszf:=mr (p:=p) (l8 he)
  unfold szP at hszf
  have hfD:fnD x=[.str x.name,.sl (x.params.map fun s=>[.str s]),.sl (x.locals.map fun s=>[.str s]),.bool x.word,.sl (x.body.map smD)]:=rfl
  have hfV:fnV x=.agg [.d (.str x.name),.d (.sl (x.params.map fun s=>[.str s])),.d (.sl (x.locals.map fun s=>[.str s])),.d (.bool x.word),.d (.sl (x.body.map smD))]:=rfl
  have hkn:=xU (fs:=p.funcs) (gr:=gr) (gm:=gm) x (bt x.body) x.body (l4 _) a7
  obtain⟨y,hy⟩:∃y,cq p.funcs x.word x.body=y:=⟨_,rfl⟩
  rw[hy,hfV] at hkn
  simp only[go_sem,q3,q11,q12,q13,hki,hk0,he,hfD]
  refine bE ab rfl hkn (by simp only[go_sem];rfl) 2000 a7 (fun i hi=>nt (hfr i a7)) ⟨by simp[upd];exact E.or,by simp[upd];exact E.om,by simp[upd];exact E.gr,by simp[upd];exact E.gm⟩ ?_
  cases y
  ·rw[if_pos (Src.all_false (p:=fun f=>cq p.funcs f.word f.body) he hy)] at hz
   subst hz
   simp only[go_sem]
  ·simp only[go_sem,q13,hw]
   refine ai (m-1) a7 ⟨k+1,a7,Src.OB hall2 he hy,?_⟩
   simp only[go_sem,q3,q11,q12]
   exact⟨⟨by simp[upd];exact E.or,by simp[upd];exact E.om,by simp[upd];exact E.gr,by simp[upd];exact E.gm⟩,fun j hj=>nt (hfr j hj)⟩
 have hki:¬(k:Int)<(p.funcs.length:Int):=a7
 obtain rfl:k=p.funcs.length:=a7
 rw[l6 (l4 _)] at hall2
 rw[if_neg (by rw[hall2];simp)] at hz
 subst hz
 simp only[go_sem,q12,q13,hki]
theorem FH {o:bF} (ho:gv o) (p:Src.Prog) (hsz:szP p≤1000000000):bj Tryz.prog 3 o 55 [ep p] (· = iv .i64 (cn p:Nat)):=by
 refine ap 0 3 o ae mixed Tryz.func55 rfl b9 [.tmp 2] rfl c9 c9 (by simp[Tryz.ntmps55]) fun b₀ β0 s0 w0 g=>?_
 obtain⟨z,hz⟩:∃z,cn p=z:=⟨_,rfl⟩
 rw[hz]
 unfold cn at hz
 have hpV:ep p=.agg [.d (.sl (p.vars.map fun s=>[.str s])),.d (.sl (p.arrays.map arD)),.d (.sl (p.funcs.map fnD))]:=rfl
 have hR:=zf ho p hsz
 have hT:=FG (o:=o) p hsz
 rw[hpV] at hR hT ⊢
 simp only[go_sem]
 refine aj ab (fun s β ds w h=>h.1.2) rfl (by simp only[go_sem];exact hR) (by simp only[go_sem];rfl) ?_
 rintro _ rfl
 cases hr:dE p
 ·rw[if_pos hr] at hz
  subst hz
  simp only[go_sem]
 rw[if_neg (by rw[hr];simp)] at hz
 have hlen:1≤p.funcs.length:=by
  unfold dE at hr
  simp at hr
  exact hr.1.1.1
 have hS:=FD (o:=o) p hlen hsz
 rw[hpV] at hS
 simp only[go_sem]
 refine aj ab (fun s β ds w h=>h.1.2) rfl (by simp only[go_sem];exact hS) (by simp only[go_sem];rfl) ?_
 rintro _ rfl
 by_cases hs:iG p=0
 ·rw[if_neg (by simp[hs])] at hz
  simp only[go_sem,hs]
  refine aj ab (fun s β ds w h=>h.1.2) rfl (by simp only[go_sem];exact hT) (by simp only[go_sem];rfl) ?_
  rintro _ rfl
  rw[hz]
  simp only[go_sem]
 ·rw[if_pos hs] at hz
  have hs2:¬((iG p:Nat):Int)=0:=a7
  rw[hz] at hs2 ⊢
  simp only[go_sem,hs2]
end
end Go.Proofs.YtlglgadejgdpcaaGreatDoor
namespace Go.Lower
section
structure Ins where
 op:Int
 a:Int
 b:Int
 n:Int
inductive Ex where
 |mk (kind op num slot size:Int) (kids:List Ex)
inductive Stm where
 |mk (kind slot size:Int) (e:List Ex) (th el:List Stm)
abbrev Sig:=List (Int×Bool)
def within (w a n:Int):Prop:=0≤a∧0≤n∧a≤w∧n≤w-a
def callee (ps:Sig) (f:Nat) (g:Int) (args:Nat) (word:Bool):Prop:=∃k:Nat,g=(k:Int)∧k<f∧ps[k]? = some ((args:Int),word)
def okE (w:Int) (ps:Sig) (f:Nat) (lv:Int) (kind op num slot size:Int) (n:Nat):Prop:=
 lv≤24∧(kind=1∨num=0)∧(kind=6∨op=0)∧(kind=3∨size=0)∧(kind=2∨kind=3∨kind=4∨slot=0)∧
 (((kind=1∨kind=5)∧n=0)∨(kind=2∧within w slot 1∧n=0)∨(kind=3∧1≤size∧size≤4096∧within w slot size∧n=1)∨
  (kind=4∧callee ps f slot n true)∨(kind=6∧4≤op∧op≤15∧n=2)∨(kind=7∧n=1)∨((kind=8∨kind=9)∧n=2))
mutual
def rE (w:Int) (ps:Sig) (f:Nat) (lv:Int):Ex→Prop
 |.mk kind op num slot size kids=>okE w ps f lv kind op num slot size kids.length∧rEs w ps f (lv+1) kids
def rEs (w:Int) (ps:Sig) (f:Nat) (lv:Int):List Ex→Prop
 |[]=>True
 |e::l=>rE w ps f lv e∧rEs w ps f lv l
end
def okS (w:Int) (ps:Sig) (f:Nat) (word:Bool) (lv:Int) (kind slot size:Int) (n nt ne:Nat):Prop:=
 lv≤24∧(kind=2∨size=0)∧(kind=1∨kind=2∨kind=6∨slot=0)∧(kind=4∨ne=0)∧(kind=4∨kind=5∨nt=0)∧
 ((kind=1∧within w slot 1∧n=1)∨(kind=2∧1≤size∧size≤4096∧within w slot size∧n=2)∨((kind=3∨kind=4∨kind=5)∧n=1)∨
  (kind=6∧callee ps f slot n false)∨(kind=7∧(n=0∨(word=true∧n=1))))
mutual
def rS (w:Int) (ps:Sig) (f:Nat) (word:Bool) (lv:Int):Stm→Prop
 |.mk kind slot size e th el=>okS w ps f word lv kind slot size e.length th.length el.length∧rEs w ps f (lv+1) e∧rSs w ps f word (lv+1) th∧rSs w ps f word (lv+1) el
def rSs (w:Int) (ps:Sig) (f:Nat) (word:Bool) (lv:Int):List Stm→Prop
 |[]=>True
 |e::l=>rS w ps f word lv e∧rSs w ps f word lv l
end
abbrev Code:=List (Ins×Int)
def one (kind op num slot size:Int) (d:Int):Code:=
 if kind=1 then [(⟨1,0,0,num⟩,d)] else if kind=2 then [(⟨2,slot,0,0⟩,d)] else if kind=3 then [(⟨4,slot,size,0⟩,d)] else if kind=4 then [(⟨10,slot,0,0⟩,d)]
 else if kind=5 then [(⟨12,0,0,0⟩,d)] else if kind=6 then [(⟨6,op,0,0⟩,d)] else if kind=7 then [(⟨7,0,0,0⟩,d)] else []
def iR (kind d:Int):Code:=if kind=8 then [(⟨7,0,0,0⟩,d+1)] else []
def mb (at':Nat) (d kind:Int) (c0:Code) (c1:Nat→Code):Code:=
 let r:=at'+c0.length+(iR kind d).length
 c0++(iR kind d++((⟨9,(r+3:Nat),0,0⟩,d+1)::(⟨1,0,0,if kind=8 then 0 else 1⟩,d)::(⟨8,(r+3+(c1 (r+3)).length+2:Nat),0,0⟩,d+1)::(c1 (r+3)++[(⟨7,0,0,0⟩,d+1),(⟨7,0,0,0⟩,d+1)])))
mutual
def cE (at':Nat) (d:Int):Ex→Code
 |.mk kind op num slot size kids=>
   if kind=8∨kind=9 then cAO at' d kind kids
   else cEs at' d kids++one kind op num slot size (d+kids.length)
def cEs (at':Nat) (d:Int):List Ex→Code
 |[]=>[]
 |e::l=>cE at' d e++cEs (at'+(cE at' d e).length) (d+1) l
def cAO (at':Nat) (d kind:Int):List Ex→Code
 |[]=>[]
 |e::l=>mb at' d kind (cE at' d e) (fun r=>mG r d l)
def mG (at':Nat) (d:Int):List Ex→Code
 |[]=>[]
 |e::_=>cE at' d e
end
def takes (ps:Sig) (word:Bool) (x:Ins):Option (Int×Int):=
 if x.op=1∨x.op=2∨x.op=12 then some (0,1) else if x.op=3∨x.op=9∨x.op=13 then some (1,0) else if x.op=4∨x.op=7 then some (1,1)
 else if x.op=5 then some (2,0) else if x.op=6 then some (2,1) else if x.op=8 then some (0,0)
 else if x.op=10 then(if x.a<0 then none else(ps[x.a.toNat]?).map fun p=>(p.1,if p.2 then 1 else 0))
 else if x.op=11 then some (if word then(1,0) else(0,0)) else none
def next (x:Ins) (at':Nat):List Int:=if x.op=8 then [x.a] else if x.op=9 then [((at'+1:Nat):Int),x.a] else if x.op=11 then [] else [((at'+1:Nat):Int)]
def OkI (ps:Sig) (word:Bool) (T:Nat→Option Int) (at':Nat) (x:Ins) (d:Int):Prop:=
 ∃t p,takes ps word x=some (t,p)∧0≤t∧t≤d∧(x.op=11→d=t)∧∀k∈next x at',∃k':Nat,k=(k':Int)∧T k'=some (d-t+p)
def Seg (T:Nat→Option Int):Nat→Code→Prop
 |_,[]=>True
 |at',(_,d)::c=>T at'=some d∧Seg T (at'+1) c
def Good (ps:Sig) (word:Bool) (T:Nat→Option Int):Nat→Code→Prop
 |_,[]=>True
 |at',(x,d)::c=>OkI ps word T at' x d∧Good ps word T (at'+1) c
theorem fA {T:Nat→Option Int}:∀{a b:Code}{at':Nat},Seg T at' (a++b)↔Seg T at' a∧Seg T (at'+a.length) b
 |[],b,at'=>by simp[Seg]
 |(x,d)::a,b,at'=>by simp only[z6,Seg,fA (a:=a),j7,and_assoc];rw[show at'+(a.length+1)=at'+1+a.length by omega]
theorem er {ps:Sig}{word:Bool}{T:Nat→Option Int}:∀{a b:Code}{at':Nat},Good ps word T at' (a++b)↔Good ps word T at' a∧Good ps word T (at'+a.length) b
 |[],b,at'=>by simp[Good]
 |(x,d)::a,b,at'=>by simp only[z6,Good,er (a:=a),j7,and_assoc];rw[show at'+(a.length+1)=at'+1+a.length by omega]
end
end Go.Lower
namespace Go.Src
section
open Go.Asm (Str)
abbrev Pl:=List (Str×Int×Int)
def ik:Pl→Str→Option (Int×Int)
 |[],_=>none
 |t::l,s=>if t.1=s then some t.2 else ik l s
def cA (o i:Pl) (s:Str):Int×Int:=match ik i s with|some x=>x|none=>(ik o s).getD (0,0)
mutual
def ft (o i:Pl):Ex→Lower.Ex
 |.mk kind op num name kids=>.mk kind op num (cA o i name).1 (cA o i name).2 (cU o i kids)
def cU (o i:Pl):List Ex→List Lower.Ex
 |[]=>[]
 |e::l=>ft o i e::cU o i l
end
theorem jx (o i:Pl):∀l:List Ex,cU o i l=l.map (ft o i)
 |[]=>by simp[cU]
 |e::l=>by simp[cU,jx o i l]
mutual
def coreS (o i:Pl):Stm→Lower.Stm
 |.mk kind name e th el=>.mk kind (cA o i name).1 (cA o i name).2 (cU o i e) (cB o i th) (cB o i el)
def cB (o i:Pl):List Stm→List Lower.Stm
 |[]=>[]
 |s::l=>coreS o i s::cB o i l
end
theorem jy (o i:Pl):∀l:List Stm,cB o i l=l.map (coreS o i)
 |[]=>by simp[cB]
 |e::l=>by simp[cB,jy o i l]
structure CFn where
 params:Int
 slots:Int
 first:Int
 word:Bool
 body:List Lower.Stm
def gV:List Str→Pl→Int→Pl×Int
 |[],m,w=>(m,w)
 |n::l,m,w=>gV l ((n,w,0)::m) (w+1)
def gA:List (Str×Int)→Pl→Int→Pl×Int
 |[],m,w=>(m,w)
 |a::l,m,w=>gA l ((a.1,w,a.2)::m) (w+a.2)
def gF:Nat→List Fn→Pl→Pl
 |_,[],m=>m
 |i,f::l,m=>gF (i+1) l ((f.name,(i:Int),0)::m)
def aN (p:Prog):Pl×Int:=
 (gF 0 p.funcs (gA p.arrays (gV p.vars [] 0).1 (gV p.vars [] 0).2).1,(gA p.arrays (gV p.vars [] 0).1 (gV p.vars [] 0).2).2)
def lP (w:Int):Nat→List Str→Pl→Pl
 |_,[],m=>m
 |i,n::l,m=>lP w (i+1) l ((n,w+i,0)::m)
def mf (o:Pl) (f:Fn) (w:Int):CFn:=
 ⟨f.params.length,f.params.length+f.locals.length,w,f.word,cB o (lP (w+f.params.length) 0 f.locals (lP w 0 f.params [])) f.body⟩
def cK (o:Pl):List Fn→Int→List CFn×Int
 |[],w=>([],w)
 |f::l,w=>(mf o f w::(cK o l (w+(f.params.length+f.locals.length))).1,(cK o l (w+(f.params.length+f.locals.length))).2)
structure Core where
 words:Int
 funcs:List CFn
def aq (p:Prog):Core:=⟨(cK (aN p).1 p.funcs (aN p).2).2,(cK (aN p).1 p.funcs (aN p).2).1⟩
def gO (p:Prog):Core×Nat:=
 if cn p≠0 then(⟨0,[]⟩,cn p) else if 32768<(aq p).words then(⟨0,[]⟩,2) else(aq p,0)
end
end Go.Src

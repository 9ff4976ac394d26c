/- A part of the proof; no conditions. -/
import Derived.Test.YtbojbioflppbdaaGreatDoorPart13
set_option linter.unusedSimpArgs false
set_option linter.unusedVariables false
set_option maxHeartbeats 64000000
set_option maxRecDepth 100000
namespace Go.Proofs.YtbojbioflppbdaaGreatDoor
section
attribute [local congr] Go.Am.ite_cc
open Go Go.Am Go.Asm
open Go.Src (Ex Stm szE bG szS bB cr kE kF eq iU dm)
section
def wk (M:List C) (fs:List Src.Fn):Prop:=∀s:Str,mget M (.str s)=(cr fs s).map fun f=>.d (.iptr (fnD f))
def AM (gr gm:Nat):List C:=[.mp 1010 gm 208,.d .nilf,.d (.fn 138),.d (.fn 138),.clo (140+1000000) [.ptr 1012 gr 0],.clo (141+1000000) [.ptr 1012 gr 0],.d (.fn 138),.clo (142+1000000) [.ptr 1012 gr 0],.clo (139+1000000) [.ptr 1012 gr 0],.clo (139+1000000) [.ptr 1012 gr 0],.clo (139+1000000) [.ptr 1012 gr 0]]
structure uV (fs:List Src.Fn) (gr gm:Nat) (g:Nat→Nat) (ob:Obs):Prop where
 or:ob 1012=some (AM gr gm)
 om:∃M,ob 1010=some M∧wk M fs
 gr:g 1012=gr
 gm:g 1010=gm
variable {kind op num:Int}{name:Str}{kids:List Ex}{fs:List Src.Fn}{K:St→Prop}{args:Array Operand}{tys:Array TypeId}{xs:List AV}{gr gm:Nat}
theorem uV.mono{gr gm B:Nat}{g g':Nat→Nat}{ob ob':Obs} (h:uV fs gr gm g ob) (hB:2000≤B) (hs:∀i,i<B→g' i=g i∧ob' i=ob i):uV fs gr gm g' ob' where
 or:=by rw[(hs 1012 a6).2];exact h.or
 om:=by rw[(hs 1010 a6).2];exact h.om
 gr:=by rw[(hs 1012 a6).1];exact h.gr
 gm:=by rw[(hs 1010 a6).1];exact h.gm
def iX (fs:List Src.Fn) (gr gm:Nat) (f:FuncId) (xs:List AV) (r:AV):Prop:=∀(B:Nat) (g:Nat→Nat) (ob:Obs),2000≤B→(∀i,B≤i→ob i=none)→uV fs gr gm g ob→
 eJ Tryz.prog f (.one (.ptr 1012 gr 0)::xs) g ob (fun r' g' ob'=>g'=g∧ob'=ob∧r'=r) (fun _ _ _=>False)
section
variable {b₀:Bs}{rd:Option Nat}{Φ:St→Am.Loc→List Deferred→World→Prop}
theorem bK {Ψ:fP}{B0:Nat} (hΦ:aW b₀ Φ) {o:Oper}{s:St}{k:Box K}{f:FuncId} (ho:o.op=.call ⟨.value (.func f),args,tys⟩){r:AV}
  (hr:iX fs gr gm f xs r) (hx:args.toList.map s.ev=.one (.ptr 1012 gr 0)::xs) (Bc:Nat) (hB:2000≤Bc) (hfree:∀i,Bc≤i→s.obj i=none) (E:uV fs gr gm s.gen s.obj) (hk:K (s.put o.dst r)):bi (spF Tryz.prog rd b₀ Φ B0 Ψ) o s k:=by
 refine bu (R:=fun r' g' ob'=>g'=s.gen∧ob'=s.obj∧r'=r) (Ψ0:=fun _ _ _=>False) hΦ ho (by rw[hx];exact hr Bc s.gen s.obj hB hfree E) (fun _ _ _ h=>h.elim) ?_
 rintro _ g' ob' ⟨rfl,rfl,rfl⟩
 exact hk
theorem jr {Ψ:fP}{B0:Nat} (hΦ:aW b₀ Φ) {o:Oper}{s:St}{k:Box K}{t:Nat} (ho:o.op=.call ⟨.value (.tmp t),args,tys⟩) {f:FuncId}{r:AV} (hf:s.f t=.one (.clo (f+1000000) [.ptr 1012 gr 0]))
  (hr:iX fs gr gm f xs r) (hx:args.toList.map s.ev=xs) (Bc:Nat) (hB:2000≤Bc) (hfree:∀i,Bc≤i→s.obj i=none) (E:uV fs gr gm s.gen s.obj) (hk:K (s.put o.dst r)):bi (spF Tryz.prog rd b₀ Φ B0 Ψ) o s k:=by
 refine xJ (R:=fun r' g' ob'=>g'=s.gen∧ob'=s.obj∧r'=r) (Ψ0:=fun _ _ _=>False) hΦ ho hf (by rw[hx];exact hr Bc s.gen s.obj hB hfree E) (fun _ _ _ h=>h.elim) ?_
 rintro _ g' ob' ⟨rfl,rfl,rfl⟩
 exact hk
end
theorem yc (e:Ex):aR Tryz.prog 138 [exV e] (· = iv .i64 1):=by
 obtain⟨kind,op,num,name,kids⟩:=e
 refine az ac mixed Tryz.func138 rfl b9 [2] rfl c8 (by simp[Tryz.ntmps138]) fun g=>?_
 unfold exV
 simp only[exD,l5,w7]
 simp only[go_sem]
section
variable {fs:List Src.Fn}{gr gm:Nat}
theorem yd (h:iX fs gr gm 144 [jg kids,iv .i64 2] (bv (eq fs 2 kids))):iX fs gr gm 139 [exV (.mk kind op num name kids)] (iv .i64 (if eq fs 2 kids then 2 else 0)):=by
 intro B g ob hB hf E
 refine al B [] ac mixed Tryz.func139 rfl b9 [.tmp 4] rfl c8 c8 (by simp[Tryz.ntmps139]) a7 hf fun b₀ β0 s0 w0=>?_
 unfold exV
 simp only[exD,bh,l5,w7]
 simp only[go_sem]
 refine bK aa rfl h (by simp only[go_sem];rfl) (B+20) a6 (fun i hi=>nt (hf i a6)) (E.mono hB fun i hi=>⟨nu,nu⟩) ?_
 simp only[go_sem]
 cases eq fs 2 kids
 ·simp only[go_sem]
  refine⟨_,ag.refl _,?_⟩
  simp only[go_sem]
  exact aY.nil (fun i hi=>⟨nu,nu⟩) (rs':=[iv .i64 0]) ⟨_,_,rfl,.one (.d _),rfl⟩ ⟨rfl,rfl,rfl⟩
 ·simp only[go_sem]
  refine⟨_,ag.refl _,?_⟩
  simp only[go_sem]
  exact aY.nil (fun i hi=>⟨nu,nu⟩) (rs':=[iv .i64 2]) ⟨_,_,rfl,.one (.d _),rfl⟩ ⟨rfl,rfl,rfl⟩
theorem Gk (h:iX fs gr gm 144 [jg kids,iv .i64 1] (bv (eq fs 1 kids))):iX fs gr gm 140 [exV (.mk kind op num name kids)] (iv .i64 (if eq fs 1 kids then 1 else 0)):=by
 intro B g ob hB hf E
 refine al B [] ac mixed Tryz.func140 rfl b9 [.tmp 4] rfl c8 c8 (by simp[Tryz.ntmps140]) a7 hf fun b₀ β0 s0 w0=>?_
 unfold exV
 simp only[exD,bh,l5,w7]
 simp only[go_sem]
 refine bK aa rfl h (by simp only[go_sem];rfl) (B+20) a6 (fun i hi=>nt (hf i a6)) (E.mono hB fun i hi=>⟨nu,nu⟩) ?_
 simp only[go_sem]
 cases eq fs 1 kids
 ·simp only[go_sem]
  refine⟨_,ag.refl _,?_⟩
  simp only[go_sem]
  exact aY.nil (fun i hi=>⟨nu,nu⟩) (rs':=[iv .i64 0]) ⟨_,_,rfl,.one (.d _),rfl⟩ ⟨rfl,rfl,rfl⟩
 ·simp only[go_sem]
  refine⟨_,ag.refl _,?_⟩
  simp only[go_sem]
  exact aY.nil (fun i hi=>⟨nu,nu⟩) (rs':=[iv .i64 1]) ⟨_,_,rfl,.one (.d _),rfl⟩ ⟨rfl,rfl,rfl⟩
theorem Rf (h:iX fs gr gm 144 [jg kids,iv .i64 1] (bv (eq fs 1 kids))):iX fs gr gm 142 [exV (.mk kind op num name kids)] (iv .i64 (if eq fs 1 kids then(if op=14∨op=15 then 2 else 1) else 0)):=by
 intro B g ob hB hf E
 refine al B [] ac mixed Tryz.func142 rfl b9 [.tmp 4] rfl c8 c8 (by simp[Tryz.ntmps142]) a7 hf fun b₀ β0 s0 w0=>?_
 unfold exV
 simp only[exD,bh,l5,w7]
 simp only[go_sem]
 refine bK aa rfl h (by simp only[go_sem];rfl) (B+20) a6 (fun i hi=>nt (hf i a6)) (E.mono hB fun i hi=>⟨nu,nu⟩) ?_
 simp only[go_sem]
 cases eq fs 1 kids
 ·simp only[go_sem]
  refine⟨_,ag.refl _,?_⟩
  simp only[go_sem]
  exact aY.nil (fun i hi=>⟨nu,nu⟩) (rs':=[iv .i64 0]) ⟨_,_,rfl,.one (.d _),rfl⟩ ⟨rfl,rfl,rfl⟩
 by_cases h1:op=14
 ·rw[if_pos rfl,if_pos (.inl h1)]
  simp only[go_sem,s5 h1]
  refine⟨_,ag.refl _,?_⟩
  simp only[go_sem]
  exact aY.nil (fun i hi=>⟨nu,nu⟩) (rs':=[iv .i64 2]) ⟨_,_,rfl,.one (.d _),rfl⟩ ⟨rfl,rfl,rfl⟩
 by_cases h2:op=15
 ·rw[if_pos rfl,if_pos (.inr h2)]
  simp only[go_sem,h1,s5 h2]
  refine⟨_,ag.refl _,?_⟩
  simp only[go_sem]
  exact aY.nil (fun i hi=>⟨nu,nu⟩) (rs':=[iv .i64 2]) ⟨_,_,rfl,.one (.d _),rfl⟩ ⟨rfl,rfl,rfl⟩
 ·rw[if_pos rfl,if_neg a6]
  simp only[go_sem,h1,h2]
  refine⟨_,ag.refl _,?_⟩
  simp only[go_sem]
  exact aY.nil (fun i hi=>⟨nu,nu⟩) (rs':=[iv .i64 1]) ⟨_,_,rfl,.one (.d _),rfl⟩ ⟨rfl,rfl,rfl⟩
theorem Kc (h:iX fs gr gm 144 [jg kids,iv .i64 1] (bv (eq fs 1 kids))):iX fs gr gm 141 [exV (.mk kind op num name kids)] (iv .i64 (if kE fs name && eq fs 1 kids then 1 else 0)):=by
 intro B g ob hB hf E
 refine al B [] ac mixed Tryz.func141 rfl b9 [.tmp 4] rfl c8 c8 (by simp[Tryz.ntmps141]) a7 hf fun b₀ β0 s0 w0=>?_
 have E1:=E
 obtain⟨or,⟨M,om,mM⟩,hgr,hgm⟩:=E1
 have n1:∀k,(1012=B+k)=False:=fun k=>by simp;omega
 have n2:∀k,(1010=B+k)=False:=fun k=>by simp;omega
 have mo1:=mM name
 unfold exV
 unfold AM at or
 unfold kE
 simp only[exD,bh,l5,w7]
 simp only[go_sem]
 refine aU c9 ?_
 cases hff:cr fs name with
 |none=>
   rw[hff] at mo1
   simp only[G3] at mo1
   simp only[go_sem,n1,n2,or,hgr,hgm,om,mo1,C6]
   simp only[y8,B5,A6]
   refine⟨_,ag.refl _,?_⟩
   simp only[go_sem]
   exact aY.nil (fun i hi=>⟨nu,nu⟩) (rs':=[iv .i64 0]) ⟨_,_,rfl,.one (.d _),rfl⟩ ⟨rfl,rfl,rfl⟩
 |some x=>
   obtain⟨nm,ps,ls,wd,body⟩:=x
   rw[hff] at mo1
   simp only[w8,fnD] at mo1
   cases wd
   ·simp only[go_sem,n1,n2,or,hgr,hgm,om,mo1,B3]
    simp only[y8,B5,A6]
    refine⟨_,ag.refl _,?_⟩
    simp only[go_sem]
    exact aY.nil (fun i hi=>⟨nu,nu⟩) (rs':=[iv .i64 0]) ⟨_,_,rfl,.one (.d _),rfl⟩ ⟨rfl,rfl,rfl⟩
   ·simp only[go_sem,n1,n2,or,hgr,hgm,om,mo1,B3]
    refine bK aa rfl h (by simp only[go_sem];rfl) (B+20) a6 (fun i hi=>nt (hf i a6)) (E.mono hB fun i hi=>⟨nu,nu⟩) ?_
    simp only[go_sem]
    cases eq fs 1 kids
    ·simp only[go_sem]
     refine⟨_,ag.refl _,?_⟩
     simp only[go_sem]
     exact aY.nil (fun i hi=>⟨nu,nu⟩) (rs':=[iv .i64 0]) ⟨_,_,rfl,.one (.d _),rfl⟩ ⟨rfl,rfl,rfl⟩
    ·simp only[go_sem]
     refine⟨_,ag.refl _,?_⟩
     simp only[go_sem]
     exact aY.nil (fun i hi=>⟨nu,nu⟩) (rs':=[iv .i64 1]) ⟨_,_,rfl,.one (.d _),rfl⟩ ⟨rfl,rfl,rfl⟩
end
end
section
section
variable {fs:List Src.Fn}{gr gm:Nat}
theorem Dm {kind op num:Int}{name:Str}{kids:List Ex} (h:∀t:Int,iX fs gr gm 144 [jg kids,iv .i64 t] (bv (eq fs t kids))):iX fs gr gm 156 [exV (.mk kind op num name kids)] (iv .i64 (kF fs (.mk kind op num name kids))):=by
 intro B g ob hB hf E
 refine al B [] ac mixed Tryz.func156 rfl b9 [.tmp 4] rfl c8 c8 (by simp[Tryz.ntmps156]) a7 hf fun b₀ β0 s0 w0=>?_
 have E1:=E
 obtain⟨or,⟨M,om,mM⟩,hgr,hgm⟩:=E1
 have n1:∀k,(1012=B+k)=False:=fun k=>by simp;omega
 have hex:exV (.mk kind op num name kids)=.agg [.d (.int .i64 kind),.d (.int .i64 op),.d (.int .u32 num),.d (.str name),.d (.sl (kids.map exD))]:=by unfold exV;simp only[exD,bh,l5,w7]
 rw[hex]
 unfold AM at or
 obtain⟨z,hz⟩:∃z,kF fs (.mk kind op num name kids)=z:=⟨_,rfl⟩
 rw[hz]
 rw[kF] at hz
 by_cases h1:kind<1
 ·rw[if_pos (.inl h1)] at hz
  subst hz
  simp only[go_sem,s5 h1]
  refine⟨_,ag.refl _,?_⟩
  simp only[go_sem]
  exact aY.nil (fun i hi=>⟨nu,nu⟩) (rs':=[iv .i64 0]) ⟨_,_,rfl,.one (.d _),rfl⟩ ⟨rfl,rfl,rfl⟩
 by_cases h2:9<kind
 ·rw[if_pos (.inr h2)] at hz
  subst hz
  simp only[go_sem,h1,s5 h2]
  refine⟨_,ag.refl _,?_⟩
  simp only[go_sem]
  exact aY.nil (fun i hi=>⟨nu,nu⟩) (rs':=[iv .i64 0]) ⟨_,_,rfl,.one (.d _),rfl⟩ ⟨rfl,rfl,rfl⟩
 rw[if_neg a6] at hz
 simp only[go_sem,h1,h2]
 refine aU c9 ?_
 obtain h|h|h|h|h|h|h|h|h:kind=1∨kind=2∨kind=3∨kind=4∨kind=5∨kind=6∨kind=7∨kind=8∨kind=9:=a6
 all_goals subst h
 all_goals simp only[go_sem,n1,or,hgr]
 ·rw[if_pos a6] at hz
  subst hz
  refine oV aa rfl (f:=138) (by simp only[go_sem]) (by simp only[go_sem];rw[←hex];exact yc _) (by simp only[go_sem];rfl) ?_
  rintro _ rfl
  simp only[go_sem]
  refine⟨_,ag.refl _,?_⟩
  simp only[go_sem]
  exact aY.nil (fun i hi=>⟨nu,nu⟩) (rs':=[iv .i64 _]) ⟨_,_,rfl,.one (.d _),rfl⟩ ⟨rfl,rfl,rfl⟩
 ·rw[if_pos a6] at hz
  subst hz
  refine oV aa rfl (f:=138) (by simp only[go_sem]) (by simp only[go_sem];rw[←hex];exact yc _) (by simp only[go_sem];rfl) ?_
  rintro _ rfl
  simp only[go_sem]
  refine⟨_,ag.refl _,?_⟩
  simp only[go_sem]
  exact aY.nil (fun i hi=>⟨nu,nu⟩) (rs':=[iv .i64 _]) ⟨_,_,rfl,.one (.d _),rfl⟩ ⟨rfl,rfl,rfl⟩
 ·rw[if_neg a6,if_pos a6] at hz
  subst hz
  refine jr aa rfl (f:=140) (by simp only[go_sem]) (Gk (h 1)) (by simp only[go_sem];rw[←hex]) (B+30) a6 (fun i hi=>nt (hf i a6)) (E.mono hB fun i hi=>⟨nu,nu⟩) ?_
  simp only[go_sem]
  refine⟨_,ag.refl _,?_⟩
  simp only[go_sem]
  exact aY.nil (fun i hi=>⟨nu,nu⟩) (rs':=[iv .i64 _]) ⟨_,_,rfl,.one (.d _),rfl⟩ ⟨rfl,rfl,rfl⟩
 ·rw[if_neg a6,if_neg a6,if_pos a6] at hz
  subst hz
  refine jr aa rfl (f:=141) (by simp only[go_sem]) (Kc (h 1)) (by simp only[go_sem];rw[←hex]) (B+30) a6 (fun i hi=>nt (hf i a6)) (E.mono hB fun i hi=>⟨nu,nu⟩) ?_
  simp only[go_sem]
  refine⟨_,ag.refl _,?_⟩
  simp only[go_sem]
  exact aY.nil (fun i hi=>⟨nu,nu⟩) (rs':=[iv .i64 _]) ⟨_,_,rfl,.one (.d _),rfl⟩ ⟨rfl,rfl,rfl⟩
 ·rw[if_pos a6] at hz
  subst hz
  refine oV aa rfl (f:=138) (by simp only[go_sem]) (by simp only[go_sem];rw[←hex];exact yc _) (by simp only[go_sem];rfl) ?_
  rintro _ rfl
  simp only[go_sem]
  refine⟨_,ag.refl _,?_⟩
  simp only[go_sem]
  exact aY.nil (fun i hi=>⟨nu,nu⟩) (rs':=[iv .i64 _]) ⟨_,_,rfl,.one (.d _),rfl⟩ ⟨rfl,rfl,rfl⟩
 ·rw[if_neg a6,if_neg a6,if_neg a6,if_pos a6] at hz
  subst hz
  refine jr aa rfl (f:=142) (by simp only[go_sem]) (Rf (h 1)) (by simp only[go_sem];rw[←hex]) (B+30) a6 (fun i hi=>nt (hf i a6)) (E.mono hB fun i hi=>⟨nu,nu⟩) ?_
  simp only[go_sem]
  refine⟨_,ag.refl _,?_⟩
  simp only[go_sem]
  exact aY.nil (fun i hi=>⟨nu,nu⟩) (rs':=[iv .i64 _]) ⟨_,_,rfl,.one (.d _),rfl⟩ ⟨rfl,rfl,rfl⟩
 ·rw[if_neg a6,if_neg a6,if_neg a6,if_neg a6] at hz
  subst hz
  refine jr aa rfl (f:=139) (by simp only[go_sem]) (yd (h 2)) (by simp only[go_sem];rw[←hex]) (B+30) a6 (fun i hi=>nt (hf i a6)) (E.mono hB fun i hi=>⟨nu,nu⟩) ?_
  simp only[go_sem]
  refine⟨_,ag.refl _,?_⟩
  simp only[go_sem]
  exact aY.nil (fun i hi=>⟨nu,nu⟩) (rs':=[iv .i64 _]) ⟨_,_,rfl,.one (.d _),rfl⟩ ⟨rfl,rfl,rfl⟩
 ·rw[if_neg a6,if_neg a6,if_neg a6,if_neg a6] at hz
  subst hz
  refine jr aa rfl (f:=139) (by simp only[go_sem]) (yd (h 2)) (by simp only[go_sem];rw[←hex]) (B+30) a6 (fun i hi=>nt (hf i a6)) (E.mono hB fun i hi=>⟨nu,nu⟩) ?_
  simp only[go_sem]
  refine⟨_,ag.refl _,?_⟩
  simp only[go_sem]
  exact aY.nil (fun i hi=>⟨nu,nu⟩) (rs':=[iv .i64 _]) ⟨_,_,rfl,.one (.d _),rfl⟩ ⟨rfl,rfl,rfl⟩
 ·rw[if_neg a6,if_neg a6,if_neg a6,if_neg a6] at hz
  subst hz
  refine jr aa rfl (f:=139) (by simp only[go_sem]) (yd (h 2)) (by simp only[go_sem];rw[←hex]) (B+30) a6 (fun i hi=>nt (hf i a6)) (E.mono hB fun i hi=>⟨nu,nu⟩) ?_
  simp only[go_sem]
  refine⟨_,ag.refl _,?_⟩
  simp only[go_sem]
  exact aY.nil (fun i hi=>⟨nu,nu⟩) (rs':=[iv .i64 _]) ⟨_,_,rfl,.one (.d _),rfl⟩ ⟨rfl,rfl,rfl⟩
theorem Ow:∀(N:Nat) (l:List Ex) (t:Int),bG l≤N→N≤1000000000→iX fs gr gm 144 [jg l,iv .i64 t] (bv (eq fs t l)):=by
 intro N
 induction N using Nat.strongRecOn with
 |ind N ih=>
 intro l t hszl hN B g ob hB hf E
 refine al B [] ac mixed Tryz.func144 rfl b9 [.tmp 6] rfl c8 c8 (by simp[Tryz.ntmps144]) a7 hf fun b₀ β0 s0 w0=>?_
 obtain⟨z,hz⟩:∃z,eq fs t l=z:=⟨_,rfl⟩
 rw[hz]
 have hll:=Src.Ez l
 unfold jg
 simp only[go_sem,j5]
 refine ap (fun m st=>∃k:Nat,m+k=l.length∧eq fs t (l.drop k)=z∧st.f 0=.one (.ptr 1012 gr 0)∧st.f 2=iv .i64 t∧st.f 9=.one (.d (.sl (l.map exD)))∧st.f 10=iv .i64 l.length∧st.f 11=iv .i64 k∧(∀j,j<B→st.gen j=g j∧st.obj j=ob j)∧(∀j,B+21≤j→st.obj j=none)) l.length ?_ ?_
 ·refine⟨0,rfl,by rw[B6];exact hz,?_⟩
  simp only[go_sem]
  exact fun j hj=>hf j a6
 rintro m f g1 ob1 ⟨k,hk,hza,q0,q2,q9,q10,q11,fr,hfr⟩
 simp only at q0 q2 q9 q10 q11 fr hfr
 have hw:=ai (k:=k) a6
 by_cases hlt:k<l.length
 case neg=>
  have hki:¬(k:Int)<(l.length:Int):=a6
  obtain rfl:k=l.length:=a6
  rw[E5,eq] at hza
  subst hza
  simp only[go_sem,q10,q11,hki]
  refine⟨_,ag.refl _,?_⟩
  simp only[go_sem]
  exact aY.nil fr (rs':=[bv true]) ⟨_,_,rfl,.one (.d _),rfl⟩ ⟨rfl,rfl,rfl⟩
 have hki:(k:Int)<(l.length:Int):=a6
 have hk0:(0:Int)≤(k:Int):=a6
 obtain⟨e,he⟩:=getq hlt
 have hsze:=Src.HE (l4 he)
 have hdr:l.drop k=e::l.drop (k+1):=by rw[z7 hlt,(l0.1 he).2]
 rw[hdr,eq] at hza
 obtain⟨kind,op,num,name,kids⟩:=e
 rw[szE] at hsze
 have hty:=Dm (fs:=fs) (gr:=gr) (gm:=gm) (kind:=kind) (op:=op) (num:=num) (name:=name) (kids:=kids) fun t=>ih (bG kids) a6 kids t (j9 _) a6
 obtain⟨y,hy⟩:∃y,kF fs (.mk kind op num name kids)=y:=⟨_,rfl⟩
 rw[hy] at hza hty
 have hE:exD (.mk kind op num name kids)=[.int .i64 kind,.int .i64 op,.int .u32 num,.str name,.sl (kids.map exD)]:=by simp only[exD,bh]
 simp only[go_sem,q0,q2,q9,q10,q11,hki,hk0,he,hE]
 refine bK aa rfl hty (by simp only[go_sem,exV,hE,l5,w7]) (B+21) a6 (fun i hi=>nt (hfr i a6)) ((E.mono hB fr).mono hB fun i hi=>⟨nu,nu⟩) ?_
 by_cases hyt:y=t
 ·rw[E8 hyt,w9] at hza
  simp only[go_sem,q2,s5 hyt,q11,hw]
  refine ah (m-1) a6 ⟨k+1,a6,hza,?_⟩
  simp only[go_sem,q0,q2,q9,q10]
  exact⟨fun j hj=>⟨nt ((fr j hj).1),nt ((fr j hj).2)⟩,fun j hj=>nt (hfr j hj)⟩
 ·rw[y9 hyt,y8] at hza
  subst hza
  simp only[go_sem,q2,hyt]
  refine⟨_,ag.refl _,?_⟩
  simp only[go_sem]
  exact aY.nil (fun i hi=>⟨nt ((fr i hi).1),nt ((fr i hi).2)⟩) (rs':=[bv false]) ⟨_,_,rfl,.one (.d _),rfl⟩ ⟨rfl,rfl,rfl⟩
end
end
end
section
attribute [local congr] Go.Am.ite_cc
open Go Go.Am Go.Asm
open Go.Src (Ex Stm szE bG szS bB cr kE kF eq iU dm vo dn)
section
section
variable {fs:List Src.Fn}{gr gm:Nat}
theorem zz:∀(N:Nat) (e:Ex),szE e≤N→N≤1000000000→iX fs gr gm 143 [exV e] (bv (iU fs e)):=by
 intro N
 induction N using Nat.strongRecOn with
 |ind N ih=>
 intro e hsze hN B g ob hB hf E
 refine al B [] ac mixed Tryz.func143 rfl b9 [.tmp 4] rfl c8 c8 (by simp[Tryz.ntmps143]) a7 hf fun b₀ β0 s0 w0=>?_
 have E1:=E
 obtain⟨or,⟨M,om,mM⟩,hgr,hgm⟩:=E1
 unfold AM at or
 have n1:∀k,(1012=B+k)=False:=fun k=>by simp;omega
 have n2:∀k,(1010=B+k)=False:=fun k=>by simp;omega
 obtain⟨kind,op,num,name,kids⟩:=e
 obtain⟨z,hz⟩:∃z,iU fs (.mk kind op num name kids)=z:=⟨_,rfl⟩
 rw[hz]
 rw[iU] at hz
 rw[szE] at hsze
 have hll:=Src.Ez kids
 have mo1:=mM name
 have hex:exV (.mk kind op num name kids)=.agg [.d (.int .i64 kind),.d (.int .i64 op),.d (.int .u32 num),.d (.str name),.d (.sl (kids.map exD))]:=by unfold exV;simp only[exD,bh,l5,w7]
 rw[hex]
 by_cases h4:kind=4
 ·rw[if_pos h4] at hz
  simp only[go_sem,s5 h4]
  refine mC (B:=B) ac mixed aa [B+5] [([0],[0],[],false),([13],[0],[],false),([14],[0],[],false),([15],[0],[],false),([3],[0],[],false),([17],[0],[],false),([16,18],[0],[],false),([19],[0],[],false),([12],[0],[],false),([12],[0],[],false),([],[],[0],false),([5,20],[],[0],false),([21],[],[],true)] 1 rfl c9 rfl a7 ?_
  simp only[go_sem]
  cases hff:cr fs name with
  |none=>
    rw[hff] at mo1 hz
    simp only[G3] at mo1
    simp only[C6,y8] at hz
    subst hz
    iterate 10 (apply aG;· (intro fa ga oa K' hK;simp only[go_sem,n1,n2,or,hgr,hgm,om,mo1,C6] at hK ⊢;exact hK))
    (apply ce;· (intro fa ga oa K' hK;simp only[go_sem] at hK ⊢;exact hK))
    (apply ij;(focus simp);(focus (intro fa ga oa K' hK;simp only[go_sem] at hK ⊢;exact hK)))
    apply cj
    intro K' hK'
    simp only[go_sem]
    refine hK' _ ?_
    clear hK' K'
    simp only[go_sem]
    refine⟨_,ag.refl _,?_⟩
    simp only[go_sem]
    exact aY.nil (fun i hi=>⟨nu,nu⟩) (rs':=[bv false]) ⟨_,_,rfl,.one (.d _),rfl⟩ ⟨rfl,rfl,rfl⟩
  |some x=>
    obtain⟨nm,ps,ls,wd,body⟩:=x
    rw[hff] at mo1 hz
    simp only[w8,fnD] at mo1
    simp only[B3,w9] at hz
    iterate 10 (apply aG;· (intro fa ga oa K' hK;simp only[go_sem,n1,n2,or,hgr,hgm,om,mo1,B3] at hK ⊢;exact hK))
    (apply ce;· (intro fa ga oa K' hK;simp only[go_sem] at hK ⊢;exact hK))
    (apply ij;(focus simp);(focus (intro fa ga oa K' hK;simp only[go_sem] at hK ⊢;exact hK)))
    apply cj
    intro K' hK'
    simp only[go_sem]
    refine hK' _ ?_
    clear hK' K'
    simp only[go_sem,j5]
    refine ap (fun m st=>∃k:Nat,m+k=kids.length∧dm fs (kids.drop k)=z∧st.f 0=.one (.ptr 1012 gr 0)∧st.f 25=.one (.d (.sl (kids.map exD)))∧st.f 26=iv .i64 kids.length∧st.f 27=iv .i64 k∧(∀j,j<B→st.gen j=g j∧st.obj j=ob j)∧(∀j,B+36≤j→st.obj j=none)) kids.length ?_ ?_
    ·refine⟨0,rfl,by rw[B6];exact hz,?_⟩
     simp only[go_sem]
     exact⟨fun j hj=>⟨nu,nu⟩,fun j hj=>nt (hf j a6)⟩
    rintro m f g1 ob1 ⟨k,hk,hza,q0,q9,q10,q11,fr,hfr⟩
    simp only at q0 q9 q10 q11 fr hfr
    have hw:=ai (k:=k) a6
    by_cases hlt:k<kids.length
    case neg=>
     have hki:¬(k:Int)<(kids.length:Int):=a6
     obtain rfl:k=kids.length:=a6
     rw[E5,dm] at hza
     subst hza
     simp only[go_sem,q10,q11,hki]
     refine⟨_,ag.refl _,?_⟩
     simp only[go_sem]
     exact aY.nil fr (rs':=[bv true]) ⟨_,_,rfl,.one (.d _),rfl⟩ ⟨rfl,rfl,rfl⟩
    have hki:(k:Int)<(kids.length:Int):=a6
    have hk0:(0:Int)≤(k:Int):=a6
    obtain⟨e,he⟩:=getq hlt
    have hsz1:=Src.HE (l4 he)
    have hdr:kids.drop k=e::kids.drop (k+1):=by rw[z7 hlt,(l0.1 he).2]
    rw[hdr,dm] at hza
    have hih:=ih (szE e) a6 e (j9 _) a6
    obtain⟨y,hy⟩:∃y,iU fs e=y:=⟨_,rfl⟩
    rw[hy] at hza hih
    obtain⟨kd1,op1,num1,name1,kids1⟩:=e
    have hE:exD (.mk kd1 op1 num1 name1 kids1)=[.int .i64 kd1,.int .i64 op1,.int .u32 num1,.str name1,.sl (kids1.map exD)]:=by simp only[exD,bh]
    simp only[go_sem,q0,q9,q10,q11,hki,hk0,he,hE]
    refine bK aa rfl hih (by simp only[go_sem,exV,hE,l5,w7]) (B+36) a6 (fun i hi=>nt (hfr i a6)) ((E.mono hB fr).mono hB fun i hi=>⟨nu,nu⟩) ?_
    cases y
    ·rw[y8] at hza
     subst hza
     simp only[go_sem]
     refine⟨_,ag.refl _,?_⟩
     simp only[go_sem]
     exact aY.nil (fun i hi=>⟨nt ((fr i hi).1),nt ((fr i hi).2)⟩) (rs':=[bv false]) ⟨_,_,rfl,.one (.d _),rfl⟩ ⟨rfl,rfl,rfl⟩
    ·rw[w9] at hza
     simp only[go_sem,q11,hw]
     refine ah (m-1) a6 ⟨k+1,a6,hza,?_⟩
     simp only[go_sem,q0,q9,q10]
     exact⟨fun j hj=>⟨nt ((fr j hj).1),nt ((fr j hj).2)⟩,fun j hj=>nt (hfr j hj)⟩
 rw[if_neg h4,w9] at hz
 simp only[go_sem,h4,j5]
 refine ap (fun m st=>∃k:Nat,m+k=kids.length∧dm fs (kids.drop k)=z∧st.f 0=.one (.ptr 1012 gr 0)∧st.f 25=.one (.d (.sl (kids.map exD)))∧st.f 26=iv .i64 kids.length∧st.f 27=iv .i64 k∧(∀j,j<B→st.gen j=g j∧st.obj j=ob j)∧(∀j,B+36≤j→st.obj j=none)) kids.length ?_ ?_
 ·refine⟨0,rfl,by rw[B6];exact hz,?_⟩
  simp only[go_sem]
  first|exact fun j hj=>hf j (by omega)|exact⟨fun j hj=>⟨nu,nu⟩,fun j hj=>nt (hf j (by omega))⟩
 rintro m f g1 ob1 ⟨k,hk,hza,q0,q9,q10,q11,fr,hfr⟩
 simp only at q0 q9 q10 q11 fr hfr
 have hw:=ai (k:=k) a6
 by_cases hlt:k<kids.length
 case neg=>
  have hki:¬(k:Int)<(kids.length:Int):=a6
  obtain rfl:k=kids.length:=a6
  rw[E5,dm] at hza
  subst hza
  simp only[go_sem,q10,q11,hki]
  refine⟨_,ag.refl _,?_⟩
  simp only[go_sem]
  exact aY.nil fr (rs':=[bv true]) ⟨_,_,rfl,.one (.d _),rfl⟩ ⟨rfl,rfl,rfl⟩
 have hki:(k:Int)<(kids.length:Int):=a6
 have hk0:(0:Int)≤(k:Int):=a6
 obtain⟨e,he⟩:=getq hlt
 have hsz1:=Src.HE (l4 he)
 have hdr:kids.drop k=e::kids.drop (k+1):=by rw[z7 hlt,(l0.1 he).2]
 rw[hdr,dm] at hza
 have hih:=ih (szE e) a6 e (j9 _) a6
 obtain⟨y,hy⟩:∃y,iU fs e=y:=⟨_,rfl⟩
 rw[hy] at hza hih
 obtain⟨kd1,op1,num1,name1,kids1⟩:=e
 have hE:exD (.mk kd1 op1 num1 name1 kids1)=[.int .i64 kd1,.int .i64 op1,.int .u32 num1,.str name1,.sl (kids1.map exD)]:=by simp only[exD,bh]
 simp only[go_sem,q0,q9,q10,q11,hki,hk0,he,hE]
 refine bK aa rfl hih (by simp only[go_sem,exV,hE,l5,w7]) (B+36) a6 (fun i hi=>nt (hfr i a6)) ((E.mono hB fr).mono hB fun i hi=>⟨nu,nu⟩) ?_
 cases y
 ·rw[y8] at hza
  subst hza
  simp only[go_sem]
  refine⟨_,ag.refl _,?_⟩
  simp only[go_sem]
  exact aY.nil (fun i hi=>⟨nt ((fr i hi).1),nt ((fr i hi).2)⟩) (rs':=[bv false]) ⟨_,_,rfl,.one (.d _),rfl⟩ ⟨rfl,rfl,rfl⟩
 ·rw[w9] at hza
  simp only[go_sem,q11,hw]
  refine ah (m-1) a6 ⟨k+1,a6,hza,?_⟩
  simp only[go_sem,q0,q9,q10]
  exact⟨fun j hj=>⟨nt ((fr j hj).1),nt ((fr j hj).2)⟩,fun j hj=>nt (hfr j hj)⟩
end
end
section
section
variable {fs:List Src.Fn}{gr gm:Nat}
theorem yf:∀(N:Nat) (l:List Stm),bB l≤N→N≤1000000000→iX fs gr gm 93 [jz l] (bv (dn fs l)):=by
 intro N
 induction N using Nat.strongRecOn with
 |ind N ih=>
 intro l hszl hN B g ob hB hf E
 refine al B [] ac mixed Tryz.func93 rfl b9 [.tmp 4] rfl c8 c8 (by simp[Tryz.ntmps93]) a7 hf fun b₀ β0 s0 w0=>?_
 have n1:∀k,(1012=B+k)=False:=fun k=>by simp;omega
 have n2:∀k,(1010=B+k)=False:=fun k=>by simp;omega
 obtain⟨z,hz⟩:∃z,dn fs l=z:=⟨_,rfl⟩
 rw[hz]
 have hll:=Src.EA l
 unfold jz
 simp only[go_sem,j5]
 refine ap (fun m st=>∃k:Nat,m+k=l.length∧dn fs (l.drop k)=z∧st.f 0=.one (.ptr 1012 gr 0)∧st.f 11=.one (.d (.sl (l.map smD)))∧st.f 12=iv .i64 l.length∧st.f 13=iv .i64 k∧(∀j,j<B→st.gen j=g j∧st.obj j=ob j)∧(∀j,B+57≤j→st.obj j=none)) l.length ?_ ?_
 ·refine⟨0,rfl,by rw[B6];exact hz,?_⟩
  simp only[go_sem]
  exact fun j hj=>hf j a6
 rintro m f g1 ob1 ⟨k,hk,hza,q0,q9,q10,q11,fr,hfr⟩
 simp only at q0 q9 q10 q11 fr hfr
 have E1:=E.mono hB fr
 obtain⟨or,⟨M,om,mM⟩,hgr,hgm⟩:=E1
 unfold AM at or
 have hw:=ai (k:=k) a6
 by_cases hlt:k<l.length
 case neg=>
  have hki:¬(k:Int)<(l.length:Int):=a6
  obtain rfl:k=l.length:=a6
  rw[E5,dn] at hza
  subst hza
  simp only[go_sem,q10,q11,hki]
  refine⟨_,ag.refl _,?_⟩
  simp only[go_sem]
  exact aY.nil fr (rs':=[bv true]) ⟨_,_,rfl,.one (.d _),rfl⟩ ⟨rfl,rfl,rfl⟩
 have hki:(k:Int)<(l.length:Int):=a6
 have hk0:(0:Int)≤(k:Int):=a6
 obtain⟨e,he⟩:=getq hlt
 have hsze:=Src.HF (l4 he)
 have hdr:l.drop k=e::l.drop (k+1):=by rw[z7 hlt,(l0.1 he).2]
 rw[hdr,dn] at hza
 obtain⟨kind,name,es,th,el⟩:=e
 rw[vo] at hza
 rw[szS] at hsze
 have hle:=Src.Ez es
 have mo1:=mM name
 have hE:smD (.mk kind name es th el)=[.int .i64 kind,.str name,.sl (es.map exD),.sl (th.map smD),.sl (el.map smD)]:=by simp only[smD,bh,fD]
 have hth:=ih (bB th) a6 th (j9 _) a6
 have hel:=ih (bB el) a6 el (j9 _) a6
 obtain⟨yt,hyt⟩:∃y,dn fs th=y:=⟨_,rfl⟩
 obtain⟨ye,hye⟩:∃y,dn fs el=y:=⟨_,rfl⟩
 rw[hyt] at hza hth
 rw[hye] at hza hel
 by_cases h4:kind=6
 ·rw[if_pos h4] at hza
  simp only[go_sem,q0,q9,q10,q11,hki,hk0,he,hE,s5 h4]
  refine mC (B:=B) ac mixed aa [B+7] [([0],[0],[],false),([21],[0],[],false),([22],[0],[],false),([23],[0],[],false),([6],[0],[],false),([25],[0],[],false),([24,26],[0],[],false),([27],[0],[],false),([20],[0],[],false),([20],[0],[],false),([],[],[0],false),([7,28],[],[0],false),([29],[],[],true)] 1 rfl c9 rfl a7 ?_
  simp only[go_sem]
  cases hff:cr fs name with
  |none=>
    rw[hff] at mo1 hza
    simp only[G3] at mo1
    simp only[C6,y8] at hza
    subst hza
    iterate 10 (apply aG;· (intro fa ga oa K' hK;simp only[go_sem,q0,n1,n2,or,hgr,hgm,om,mo1,C6] at hK ⊢;exact hK))
    (apply ce;· (intro fa ga oa K' hK;simp only[go_sem] at hK ⊢;exact hK))
    (apply ij;(focus simp);(focus (intro fa ga oa K' hK;simp only[go_sem] at hK ⊢;exact hK)))
    apply cj
    intro K' hK'
    simp only[go_sem]
    refine hK' _ ?_
    clear hK' K'
    simp only[go_sem]
    refine⟨_,ag.refl _,?_⟩
    simp only[go_sem]
    exact aY.nil (fun i hi=>⟨nt ((fr i hi).1),nt ((fr i hi).2)⟩) (rs':=[bv false]) ⟨_,_,rfl,.one (.d _),rfl⟩ ⟨rfl,rfl,rfl⟩
  |some x=>
    obtain⟨nm,ps,ls,wd,body⟩:=x
    rw[hff] at mo1 hza
    simp only[w8,fnD] at mo1
    simp only[B3,w9] at hza
    iterate 10 (apply aG;· (intro fa ga oa K' hK;simp only[go_sem,q0,n1,n2,or,hgr,hgm,om,mo1,B3] at hK ⊢;exact hK))
    (apply ce;· (intro fa ga oa K' hK;simp only[go_sem] at hK ⊢;exact hK))
    (apply ij;(focus simp);(focus (intro fa ga oa K' hK;simp only[go_sem] at hK ⊢;exact hK)))
    apply cj
    intro K' hK'
    simp only[go_sem]
    refine hK' _ ?_
    clear hK' K'
    simp only[go_sem,n1,n2,j5]
    refine ap (fun m st=>∃n:Nat,m+n=es.length∧(dm fs (es.drop n)&&(yt&&ye)&&dn fs (l.drop (k+1)))=z∧st.f 0=.one (.ptr 1012 gr 0)∧st.f 6=.one (.ptr (B+6) (st.gen (B+6)) 0)∧st.f 11=.one (.d (.sl (l.map smD)))∧st.f 12=iv .i64 l.length∧st.f 13=iv .i64 k∧st.f 33=.one (.d (.sl (es.map exD)))∧st.f 34=iv .i64 es.length∧st.f 35=iv .i64 n∧
      st.obj (B+6)=some [.d (.int .i64 kind),.d (.str name),.d (.sl (es.map exD)),.d (.sl (th.map smD)),.d (.sl (el.map smD))]∧(∀j,j<B→st.gen j=g j∧st.obj j=ob j)∧(∀j,B+57≤j→st.obj j=none)) es.length ?_ ?_
    ·refine⟨0,rfl,by rw[B6];exact hza,?_⟩
     simp only[go_sem,q0,q9,q10,q11,n1,n2]
     exact⟨fun j hj=>⟨nt ((fr j hj).1),nt ((fr j hj).2)⟩,fun j hj=>nt (hfr j hj)⟩
    clear q0 q9 q10 q11 fr hfr or om mM mo1 hgr hgm
    rintro m2 f g1 ob1 ⟨n,hn,hzb,q0,q6,q9,q10,q11,q33,q34,q35,o6,fr,hfr⟩
    simp only at q0 q6 q9 q10 q11 q33 q34 q35 o6 fr hfr
    have hw2:=ai (k:=n) a6
    by_cases hlt2:n<es.length
    ·have hki2:(n:Int)<(es.length:Int):=a6
     have hk02:(0:Int)≤(n:Int):=a6
     obtain⟨x2,he2⟩:=getq hlt2
     have hsz2:=Src.HE (l4 he2)
     have hdr2:es.drop n=x2::es.drop (n+1):=by rw[z7 hlt2,(l0.1 he2).2]
     rw[hdr2,dm] at hzb
     have hkn:=zz (fs:=fs) (gr:=gr) (gm:=gm) (szE x2) x2 (j9 _) a6
     obtain⟨y,hy⟩:∃y,iU fs x2=y:=⟨_,rfl⟩
     rw[hy] at hzb hkn
     obtain⟨kd1,op1,num1,name1,kids1⟩:=x2
     have hE2:exD (.mk kd1 op1 num1 name1 kids1)=[.int .i64 kd1,.int .i64 op1,.int .u32 num1,.str name1,.sl (kids1.map exD)]:=by simp only[exD,bh]
     simp only[go_sem,q0,q33,q34,q35,hki2,hk02,he2,hE2]
     refine bK aa rfl hkn (by simp only[go_sem,exV,hE2,l5,w7]) (B+57) a6 (fun i hi=>nt (hfr i a6)) ((E.mono hB fr).mono hB fun i hi=>⟨nu,nu⟩) ?_
     cases y
     ·simp only[y8] at hzb
      subst hzb
      simp only[go_sem]
      refine⟨_,ag.refl _,?_⟩
      simp only[go_sem]
      exact aY.nil (fun i hi=>⟨nt ((fr i hi).1),nt ((fr i hi).2)⟩) (rs':=[bv false]) ⟨_,_,rfl,.one (.d _),rfl⟩ ⟨rfl,rfl,rfl⟩
     ·simp only[w9] at hzb
      simp only[go_sem,q35,hw2]
      refine ah (m2-1) a6 ⟨n+1,a6,hzb,?_⟩
      simp only[go_sem,q0,q6,q9,q10,q11,q33,q34,o6]
      exact⟨fun j hj=>⟨nt ((fr j hj).1),nt ((fr j hj).2)⟩,fun j hj=>nt (hfr j hj)⟩
    have hki2:¬(n:Int)<(es.length:Int):=a6
    obtain rfl:n=es.length:=a6
    rw[E5,dm,w9] at hzb
    simp only[go_sem,q0,q6,q34,q35,hki2,o6]
    refine bK aa rfl hth (by simp only[go_sem];rfl) (B+57) a6 (fun i hi=>nt (hfr i a6)) ((E.mono hB fr).mono hB fun i hi=>⟨nu,nu⟩) ?_
    cases yt
    ·simp only[y8] at hzb
     subst hzb
     simp only[go_sem]
     refine⟨_,ag.refl _,?_⟩
     simp only[go_sem]
     exact aY.nil (fun i hi=>⟨nt ((fr i hi).1),nt ((fr i hi).2)⟩) (rs':=[bv false]) ⟨_,_,rfl,.one (.d _),rfl⟩ ⟨rfl,rfl,rfl⟩
    simp only[go_sem,q0,q6,o6]
    refine bK aa rfl hel (by simp only[go_sem];rfl) (B+57) a6 (fun i hi=>nt (hfr i a6)) ((E.mono hB fr).mono hB fun i hi=>⟨nu,nu⟩) ?_
    cases ye
    ·simp only[y8,C0] at hzb
     subst hzb
     simp only[go_sem]
     refine⟨_,ag.refl _,?_⟩
     simp only[go_sem]
     exact aY.nil (fun i hi=>⟨nt ((fr i hi).1),nt ((fr i hi).2)⟩) (rs':=[bv false]) ⟨_,_,rfl,.one (.d _),rfl⟩ ⟨rfl,rfl,rfl⟩
    simp only[w9] at hzb
    simp only[go_sem,q11,hw]
    refine ah (m-1) a6 ⟨k+1,a6,hzb,?_⟩
    simp only[go_sem,q0,q9,q10]
    exact⟨fun j hj=>⟨nt ((fr j hj).1),nt ((fr j hj).2)⟩,fun j hj=>nt (hfr j hj)⟩
 rw[if_neg h4,w9] at hza
 simp only[go_sem,q0,q9,q10,q11,hki,hk0,he,hE,h4,j5]
 refine ap (fun m st=>∃n:Nat,m+n=es.length∧(dm fs (es.drop n)&&(yt&&ye)&&dn fs (l.drop (k+1)))=z∧st.f 0=.one (.ptr 1012 gr 0)∧st.f 6=.one (.ptr (B+6) (st.gen (B+6)) 0)∧st.f 11=.one (.d (.sl (l.map smD)))∧st.f 12=iv .i64 l.length∧st.f 13=iv .i64 k∧st.f 33=.one (.d (.sl (es.map exD)))∧st.f 34=iv .i64 es.length∧st.f 35=iv .i64 n∧
   st.obj (B+6)=some [.d (.int .i64 kind),.d (.str name),.d (.sl (es.map exD)),.d (.sl (th.map smD)),.d (.sl (el.map smD))]∧(∀j,j<B→st.gen j=g j∧st.obj j=ob j)∧(∀j,B+57≤j→st.obj j=none)) es.length ?_ ?_
 ·refine⟨0,rfl,by rw[B6];exact hza,?_⟩
  simp only[go_sem,q0,q9,q10,q11,n1,n2]
  exact⟨fun j hj=>⟨nt ((fr j hj).1),nt ((fr j hj).2)⟩,fun j hj=>nt (hfr j hj)⟩
 clear q0 q9 q10 q11 fr hfr or om mM mo1 hgr hgm
 rintro m2 f g1 ob1 ⟨n,hn,hzb,q0,q6,q9,q10,q11,q33,q34,q35,o6,fr,hfr⟩
 simp only at q0 q6 q9 q10 q11 q33 q34 q35 o6 fr hfr
 have hw2:=ai (k:=n) a6
 by_cases hlt2:n<es.length
 ·have hki2:(n:Int)<(es.length:Int):=a6
  have hk02:(0:Int)≤(n:Int):=a6
  obtain⟨x2,he2⟩:=getq hlt2
  have hsz2:=Src.HE (l4 he2)
  have hdr2:es.drop n=x2::es.drop (n+1):=by rw[z7 hlt2,(l0.1 he2).2]
  rw[hdr2,dm] at hzb
  have hkn:=zz (fs:=fs) (gr:=gr) (gm:=gm) (szE x2) x2 (j9 _) a6
  obtain⟨y,hy⟩:∃y,iU fs x2=y:=⟨_,rfl⟩
  rw[hy] at hzb hkn
  obtain⟨kd1,op1,num1,name1,kids1⟩:=x2
  have hE2:exD (.mk kd1 op1 num1 name1 kids1)=[.int .i64 kd1,.int .i64 op1,.int .u32 num1,.str name1,.sl (kids1.map exD)]:=by simp only[exD,bh]
  simp only[go_sem,q0,q33,q34,q35,hki2,hk02,he2,hE2]
  refine bK aa rfl hkn (by simp only[go_sem,exV,hE2,l5,w7]) (B+57) a6 (fun i hi=>nt (hfr i a6)) ((E.mono hB fr).mono hB fun i hi=>⟨nu,nu⟩) ?_
  cases y
  ·simp only[y8] at hzb
   subst hzb
   simp only[go_sem]
   refine⟨_,ag.refl _,?_⟩
   simp only[go_sem]
   exact aY.nil (fun i hi=>⟨nt ((fr i hi).1),nt ((fr i hi).2)⟩) (rs':=[bv false]) ⟨_,_,rfl,.one (.d _),rfl⟩ ⟨rfl,rfl,rfl⟩
  ·simp only[w9] at hzb
   simp only[go_sem,q35,hw2]
   refine ah (m2-1) a6 ⟨n+1,a6,hzb,?_⟩
   simp only[go_sem,q0,q6,q9,q10,q11,q33,q34,o6]
   exact⟨fun j hj=>⟨nt ((fr j hj).1),nt ((fr j hj).2)⟩,fun j hj=>nt (hfr j hj)⟩
 have hki2:¬(n:Int)<(es.length:Int):=a6
 obtain rfl:n=es.length:=a6
 rw[E5,dm,w9] at hzb
 simp only[go_sem,q0,q6,q34,q35,hki2,o6]
 refine bK aa rfl hth (by simp only[go_sem];rfl) (B+57) a6 (fun i hi=>nt (hfr i a6)) ((E.mono hB fr).mono hB fun i hi=>⟨nu,nu⟩) ?_
 cases yt
 ·simp only[y8] at hzb
  subst hzb
  simp only[go_sem]
  refine⟨_,ag.refl _,?_⟩
  simp only[go_sem]
  exact aY.nil (fun i hi=>⟨nt ((fr i hi).1),nt ((fr i hi).2)⟩) (rs':=[bv false]) ⟨_,_,rfl,.one (.d _),rfl⟩ ⟨rfl,rfl,rfl⟩
 simp only[go_sem,q0,q6,o6]
 refine bK aa rfl hel (by simp only[go_sem];rfl) (B+57) a6 (fun i hi=>nt (hfr i a6)) ((E.mono hB fr).mono hB fun i hi=>⟨nu,nu⟩) ?_
 cases ye
 ·simp only[y8,C0] at hzb
  subst hzb
  simp only[go_sem]
  refine⟨_,ag.refl _,?_⟩
  simp only[go_sem]
  exact aY.nil (fun i hi=>⟨nt ((fr i hi).1),nt ((fr i hi).2)⟩) (rs':=[bv false]) ⟨_,_,rfl,.one (.d _),rfl⟩ ⟨rfl,rfl,rfl⟩
 simp only[w9] at hzb
 simp only[go_sem,q11,hw]
 refine ah (m-1) a6 ⟨k+1,a6,hzb,?_⟩
 simp only[go_sem,q0,q9,q10]
 exact⟨fun j hj=>⟨nt ((fr j hj).1),nt ((fr j hj).2)⟩,fun j hj=>nt (hfr j hj)⟩
end
end
end
section
attribute [local congr] Go.Am.ite_cc
open Go Go.Am Go.Asm
open Go.Src (Ex Stm szE bG szS bB cr kE kF eq pM cK)
section
section
variable {fs:List Src.Fn}{gr gm:Nat}
theorem yg (F:Src.Fn):∀(N:Nat) (l:List Stm),bB l≤N→N≤1000000000→iX fs gr gm 94 [fnV F,jz l] (bv (cK fs F.word l)):=by
 obtain⟨fnm,fps,fls,w,fbody⟩:=F
 intro N
 induction N using Nat.strongRecOn with
 |ind N ih=>
 intro l hszl hN B g ob hB hf E
 refine al B [] ac mixed Tryz.func94 rfl b9 [.tmp 6] rfl c8 c8 (by simp[Tryz.ntmps94]) a7 hf fun b₀ β0 s0 w0=>?_
 have n1:∀k,(1012=B+k)=False:=fun k=>by simp;omega
 have n2:∀k,(1010=B+k)=False:=fun k=>by simp;omega
 have hfV:fnV ⟨fnm,fps,fls,w,fbody⟩=.agg [.d (.str fnm),.d (.sl (fps.map fun s=>[.str s])),.d (.sl (fls.map fun s=>[.str s])),.d (.bool w),.d (.sl (fbody.map smD))]:=rfl
 rw[hfV] at ih ⊢
 simp only at ih ⊢
 obtain⟨z,hz⟩:∃z,cK fs w l=z:=⟨_,rfl⟩
 rw[hz]
 have hll:=Src.EA l
 unfold jz
 simp only[go_sem,j5]
 refine ap (fun m st=>∃k:Nat,m+k=l.length∧cK fs w (l.drop k)=z∧st.f 0=.one (.ptr 1012 gr 0)∧st.f 4=.one (.ptr (B+4) (st.gen (B+4)) 0)∧st.f 10=.one (.d (.sl (l.map smD)))∧st.f 11=iv .i64 l.length∧st.f 12=iv .i64 k∧
   st.obj (B+4)=some [.d (.str fnm),.d (.sl (fps.map fun s=>[.str s])),.d (.sl (fls.map fun s=>[.str s])),.d (.bool w),.d (.sl (fbody.map smD))]∧(∀j,j<B→st.gen j=g j∧st.obj j=ob j)∧(∀j,B+65≤j→st.obj j=none)) l.length ?_ ?_
 ·refine⟨0,rfl,by rw[B6];exact hz,?_⟩
  simp only[go_sem]
  exact⟨fun j hj=>⟨nu,nu⟩,fun j hj=>nt (hf j a6)⟩
 rintro m f g1 ob1 ⟨k,hk,hza,q0,q4,q9,q10,q11,o4,fr,hfr⟩
 simp only at q0 q4 q9 q10 q11 o4 fr hfr
 have E1:=E.mono hB fr
 obtain⟨or,⟨M,om,mM⟩,hgr,hgm⟩:=E1
 unfold AM at or
 have hw:=ai (k:=k) a6
 by_cases hlt:k<l.length
 case neg=>
  have hki:¬(k:Int)<(l.length:Int):=a6
  obtain rfl:k=l.length:=a6
  rw[E5,cK] at hza
  subst hza
  simp only[go_sem,q10,q11,hki]
  refine⟨_,ag.refl _,?_⟩
  simp only[go_sem]
  exact aY.nil fr (rs':=[bv true]) ⟨_,_,rfl,.one (.d _),rfl⟩ ⟨rfl,rfl,rfl⟩
 have hki:(k:Int)<(l.length:Int):=a6
 have hk0:(0:Int)≤(k:Int):=a6
 obtain⟨e,he⟩:=getq hlt
 have hsze:=Src.HF (l4 he)
 have hdr:l.drop k=e::l.drop (k+1):=by rw[z7 hlt,(l0.1 he).2]
 rw[hdr,cK] at hza
 obtain⟨kind,name,es,th,el⟩:=e
 rw[pM] at hza
 rw[szS] at hsze
 have hle:=Src.Ez es
 have mo1:=mM name
 have hE:smD (.mk kind name es th el)=[.int .i64 kind,.str name,.sl (es.map exD),.sl (th.map smD),.sl (el.map smD)]:=by simp only[smD,bh,fD]
 have hth:=ih (bB th) a6 th (j9 _) a6
 have hel:=ih (bB el) a6 el (j9 _) a6
 have hes:=fun t=>Ow (fs:=fs) (gr:=gr) (gm:=gm) (bG es) es t (j9 _) a6
 obtain⟨yt,hyt⟩:∃y,cK fs w th=y:=⟨_,rfl⟩
 obtain⟨ye,hye⟩:∃y,cK fs w el=y:=⟨_,rfl⟩
 rw[hyt] at hza hth
 rw[hye] at hza hel
 simp only[go_sem,q0,q4,q9,q10,q11,hki,hk0,he,hE]
 by_cases k4:kind=4
 ·subst k4
  rw[if_pos a6] at hza
  simp only[show ((4:Int)==6)=false from rfl,show ((4:Int)==7)=false from rfl,y8,H9,w9] at hza
  try (simp only[go_sem,q0,q4,o4])
  refine bK aa rfl (hes 2) (by simp only[go_sem];rfl) (B+65) a6 (fun i hi=>nt (hfr i a6)) ((E.mono hB fr).mono hB fun i hi=>⟨nu,nu⟩) ?_
  cases hye2:eq fs 2 es
  ·rw[hye2] at hza
   simp only[y8,C0] at hza
   subst hza
   simp only[go_sem]
   refine⟨_,ag.refl _,?_⟩
   simp only[go_sem]
   exact aY.nil (fun i hi=>⟨nt ((fr i hi).1),nt ((fr i hi).2)⟩) (rs':=[bv false]) ⟨_,_,rfl,.one (.d _),rfl⟩ ⟨rfl,rfl,rfl⟩
  rw[hye2] at hza
  simp only[w9] at hza
  simp only[go_sem,q0,q4,o4]
  refine bK aa rfl hth (by simp only[go_sem];rfl) (B+65) a6 (fun i hi=>nt (hfr i a6)) ((E.mono hB fr).mono hB fun i hi=>⟨nu,nu⟩) ?_
  cases yt
  ·simp only[y8,C0] at hza
   subst hza
   simp only[go_sem]
   refine⟨_,ag.refl _,?_⟩
   simp only[go_sem]
   exact aY.nil (fun i hi=>⟨nt ((fr i hi).1),nt ((fr i hi).2)⟩) (rs':=[bv false]) ⟨_,_,rfl,.one (.d _),rfl⟩ ⟨rfl,rfl,rfl⟩
  simp only[go_sem,q0,q4,o4]
  refine bK aa rfl hel (by simp only[go_sem];rfl) (B+65) a6 (fun i hi=>nt (hfr i a6)) ((E.mono hB fr).mono hB fun i hi=>⟨nu,nu⟩) ?_
  cases ye
  ·simp only[y8,C0] at hza
   subst hza
   simp only[go_sem]
   refine⟨_,ag.refl _,?_⟩
   simp only[go_sem]
   exact aY.nil (fun i hi=>⟨nt ((fr i hi).1),nt ((fr i hi).2)⟩) (rs':=[bv false]) ⟨_,_,rfl,.one (.d _),rfl⟩ ⟨rfl,rfl,rfl⟩
  simp only[w9] at hza
  simp only[go_sem,q11,hw]
  refine ah (m-1) a6 ⟨k+1,a6,hza,?_⟩
  simp only[go_sem,q0,q4,q9,q10,o4]
  exact⟨fun j hj=>⟨nt ((fr j hj).1),nt ((fr j hj).2)⟩,fun j hj=>nt (hfr j hj)⟩
 by_cases k5:kind=5
 ·subst k5
  rw[if_pos a6] at hza
  simp only[show ((5:Int)==6)=false from rfl,show ((5:Int)==7)=false from rfl,y8,H9,w9] at hza
  try (simp only[go_sem,q0,q4,o4])
  refine bK aa rfl (hes 2) (by simp only[go_sem];rfl) (B+65) a6 (fun i hi=>nt (hfr i a6)) ((E.mono hB fr).mono hB fun i hi=>⟨nu,nu⟩) ?_
  cases hye2:eq fs 2 es
  ·rw[hye2] at hza
   simp only[y8,C0] at hza
   subst hza
   simp only[go_sem]
   refine⟨_,ag.refl _,?_⟩
   simp only[go_sem]
   exact aY.nil (fun i hi=>⟨nt ((fr i hi).1),nt ((fr i hi).2)⟩) (rs':=[bv false]) ⟨_,_,rfl,.one (.d _),rfl⟩ ⟨rfl,rfl,rfl⟩
  rw[hye2] at hza
  simp only[w9] at hza
  simp only[go_sem,q0,q4,o4]
  refine bK aa rfl hth (by simp only[go_sem];rfl) (B+65) a6 (fun i hi=>nt (hfr i a6)) ((E.mono hB fr).mono hB fun i hi=>⟨nu,nu⟩) ?_
  cases yt
  ·simp only[y8,C0] at hza
   subst hza
   simp only[go_sem]
   refine⟨_,ag.refl _,?_⟩
   simp only[go_sem]
   exact aY.nil (fun i hi=>⟨nt ((fr i hi).1),nt ((fr i hi).2)⟩) (rs':=[bv false]) ⟨_,_,rfl,.one (.d _),rfl⟩ ⟨rfl,rfl,rfl⟩
  simp only[go_sem,q0,q4,o4]
  refine bK aa rfl hel (by simp only[go_sem];rfl) (B+65) a6 (fun i hi=>nt (hfr i a6)) ((E.mono hB fr).mono hB fun i hi=>⟨nu,nu⟩) ?_
  cases ye
  ·simp only[y8,C0] at hza
   subst hza
   simp only[go_sem]
   refine⟨_,ag.refl _,?_⟩
   simp only[go_sem]
   exact aY.nil (fun i hi=>⟨nt ((fr i hi).1),nt ((fr i hi).2)⟩) (rs':=[bv false]) ⟨_,_,rfl,.one (.d _),rfl⟩ ⟨rfl,rfl,rfl⟩
  simp only[w9] at hza
  simp only[go_sem,q11,hw]
  refine ah (m-1) a6 ⟨k+1,a6,hza,?_⟩
  simp only[go_sem,q0,q4,q9,q10,o4]
  exact⟨fun j hj=>⟨nt ((fr j hj).1),nt ((fr j hj).2)⟩,fun j hj=>nt (hfr j hj)⟩
 rw[if_neg a6] at hza
 by_cases k6:kind=6
 ·subst k6
  simp only[show ((6:Int)==6)=true from rfl,show ((6:Int)==7)=false from rfl,y8,H9,w9,H8] at hza
  unfold kE at hza
  simp only[go_sem]
  refine aU c9 ?_
  cases hff:cr fs name with
  |none=>
    rw[hff] at mo1 hza
    simp only[G3] at mo1
    simp only[H9,w9] at hza
    simp only[go_sem,n1,n2,q0,or,hgr,hgm,om,mo1,C6]
    try (simp only[go_sem,q0,q4,o4])
    refine bK aa rfl (hes 1) (by simp only[go_sem];rfl) (B+65) a6 (fun i hi=>nt (hfr i a6)) ((E.mono hB fr).mono hB fun i hi=>⟨nu,nu⟩) ?_
    cases hye2:eq fs 1 es
    ·rw[hye2] at hza
     simp only[y8,C0] at hza
     subst hza
     simp only[go_sem]
     refine⟨_,ag.refl _,?_⟩
     simp only[go_sem]
     exact aY.nil (fun i hi=>⟨nt ((fr i hi).1),nt ((fr i hi).2)⟩) (rs':=[bv false]) ⟨_,_,rfl,.one (.d _),rfl⟩ ⟨rfl,rfl,rfl⟩
    rw[hye2] at hza
    simp only[w9] at hza
    simp only[go_sem,q0,q4,o4]
    refine bK aa rfl hth (by simp only[go_sem];rfl) (B+65) a6 (fun i hi=>nt (hfr i a6)) ((E.mono hB fr).mono hB fun i hi=>⟨nu,nu⟩) ?_
    cases yt
    ·simp only[y8,C0] at hza
     subst hza
     simp only[go_sem]
     refine⟨_,ag.refl _,?_⟩
     simp only[go_sem]
     exact aY.nil (fun i hi=>⟨nt ((fr i hi).1),nt ((fr i hi).2)⟩) (rs':=[bv false]) ⟨_,_,rfl,.one (.d _),rfl⟩ ⟨rfl,rfl,rfl⟩
    simp only[go_sem,q0,q4,o4]
    refine bK aa rfl hel (by simp only[go_sem];rfl) (B+65) a6 (fun i hi=>nt (hfr i a6)) ((E.mono hB fr).mono hB fun i hi=>⟨nu,nu⟩) ?_
    cases ye
    ·simp only[y8,C0] at hza
     subst hza
     simp only[go_sem]
     refine⟨_,ag.refl _,?_⟩
     simp only[go_sem]
     exact aY.nil (fun i hi=>⟨nt ((fr i hi).1),nt ((fr i hi).2)⟩) (rs':=[bv false]) ⟨_,_,rfl,.one (.d _),rfl⟩ ⟨rfl,rfl,rfl⟩
    simp only[w9] at hza
    simp only[go_sem,q11,hw]
    refine ah (m-1) a6 ⟨k+1,a6,hza,?_⟩
    simp only[go_sem,q0,q4,q9,q10,o4]
    exact⟨fun j hj=>⟨nt ((fr j hj).1),nt ((fr j hj).2)⟩,fun j hj=>nt (hfr j hj)⟩
  |some x=>
    obtain⟨nm,ps,ls,wd,body⟩:=x
    rw[hff] at mo1 hza
    simp only[w8,fnD] at mo1
    cases wd
    ·simp only[H9,w9] at hza
     simp only[go_sem,n1,n2,q0,or,hgr,hgm,om,mo1,B3]
     try (simp only[go_sem,q0,q4,o4])
     refine bK aa rfl (hes 1) (by simp only[go_sem];rfl) (B+65) a6 (fun i hi=>nt (hfr i a6)) ((E.mono hB fr).mono hB fun i hi=>⟨nu,nu⟩) ?_
     cases hye2:eq fs 1 es
     ·rw[hye2] at hza
      simp only[y8,C0] at hza
      subst hza
      simp only[go_sem]
      refine⟨_,ag.refl _,?_⟩
      simp only[go_sem]
      exact aY.nil (fun i hi=>⟨nt ((fr i hi).1),nt ((fr i hi).2)⟩) (rs':=[bv false]) ⟨_,_,rfl,.one (.d _),rfl⟩ ⟨rfl,rfl,rfl⟩
     rw[hye2] at hza
     simp only[w9] at hza
     simp only[go_sem,q0,q4,o4]
     refine bK aa rfl hth (by simp only[go_sem];rfl) (B+65) a6 (fun i hi=>nt (hfr i a6)) ((E.mono hB fr).mono hB fun i hi=>⟨nu,nu⟩) ?_
     cases yt
     ·simp only[y8,C0] at hza
      subst hza
      simp only[go_sem]
      refine⟨_,ag.refl _,?_⟩
      simp only[go_sem]
      exact aY.nil (fun i hi=>⟨nt ((fr i hi).1),nt ((fr i hi).2)⟩) (rs':=[bv false]) ⟨_,_,rfl,.one (.d _),rfl⟩ ⟨rfl,rfl,rfl⟩
     simp only[go_sem,q0,q4,o4]
     refine bK aa rfl hel (by simp only[go_sem];rfl) (B+65) a6 (fun i hi=>nt (hfr i a6)) ((E.mono hB fr).mono hB fun i hi=>⟨nu,nu⟩) ?_
     cases ye
     ·simp only[y8,C0] at hza
      subst hza
      simp only[go_sem]
      refine⟨_,ag.refl _,?_⟩
      simp only[go_sem]
      exact aY.nil (fun i hi=>⟨nt ((fr i hi).1),nt ((fr i hi).2)⟩) (rs':=[bv false]) ⟨_,_,rfl,.one (.d _),rfl⟩ ⟨rfl,rfl,rfl⟩
     simp only[w9] at hza
     simp only[go_sem,q11,hw]
     refine ah (m-1) a6 ⟨k+1,a6,hza,?_⟩
     simp only[go_sem,q0,q4,q9,q10,o4]
     exact⟨fun j hj=>⟨nt ((fr j hj).1),nt ((fr j hj).2)⟩,fun j hj=>nt (hfr j hj)⟩
    ·simp only[L4,y8] at hza
     subst hza
     simp only[go_sem,n1,n2,q0,or,hgr,hgm,om,mo1,B3]
     refine⟨_,ag.refl _,?_⟩
     simp only[go_sem]
     exact aY.nil (fun i hi=>⟨nt ((fr i hi).1),nt ((fr i hi).2)⟩) (rs':=[bv false]) ⟨_,_,rfl,.one (.d _),rfl⟩ ⟨rfl,rfl,rfl⟩
 rw[show (kind==6)=false by simp[k6]] at hza
 by_cases k7:kind=7
 ·subst k7
  simp only[show ((7:Int)==7)=true from rfl,y8,H9,w9] at hza
  by_cases hle0:0<es.length
  ·have hlei:(0:Int)<(es.length:Int):=a6
   rw[E8 hle0] at hza
   simp only[w9,Bool.not_not] at hza
   cases w
   ·simp only[y8] at hza
    subst hza
    simp only[go_sem,j5,hlei,q4,o4]
    refine⟨_,ag.refl _,?_⟩
    simp only[go_sem]
    exact aY.nil (fun i hi=>⟨nt ((fr i hi).1),nt ((fr i hi).2)⟩) (rs':=[bv false]) ⟨_,_,rfl,.one (.d _),rfl⟩ ⟨rfl,rfl,rfl⟩
   simp only[w9] at hza
   simp only[go_sem,j5,hlei,q4,o4]
   try (simp only[go_sem,q0,q4,o4])
   refine bK aa rfl (hes 1) (by simp only[go_sem];rfl) (B+65) a6 (fun i hi=>nt (hfr i a6)) ((E.mono hB fr).mono hB fun i hi=>⟨nu,nu⟩) ?_
   cases hye2:eq fs 1 es
   ·rw[hye2] at hza
    simp only[y8,C0] at hza
    subst hza
    simp only[go_sem]
    refine⟨_,ag.refl _,?_⟩
    simp only[go_sem]
    exact aY.nil (fun i hi=>⟨nt ((fr i hi).1),nt ((fr i hi).2)⟩) (rs':=[bv false]) ⟨_,_,rfl,.one (.d _),rfl⟩ ⟨rfl,rfl,rfl⟩
   rw[hye2] at hza
   simp only[w9] at hza
   simp only[go_sem,q0,q4,o4]
   refine bK aa rfl hth (by simp only[go_sem];rfl) (B+65) a6 (fun i hi=>nt (hfr i a6)) ((E.mono hB fr).mono hB fun i hi=>⟨nu,nu⟩) ?_
   cases yt
   ·simp only[y8,C0] at hza
    subst hza
    simp only[go_sem]
    refine⟨_,ag.refl _,?_⟩
    simp only[go_sem]
    exact aY.nil (fun i hi=>⟨nt ((fr i hi).1),nt ((fr i hi).2)⟩) (rs':=[bv false]) ⟨_,_,rfl,.one (.d _),rfl⟩ ⟨rfl,rfl,rfl⟩
   simp only[go_sem,q0,q4,o4]
   refine bK aa rfl hel (by simp only[go_sem];rfl) (B+65) a6 (fun i hi=>nt (hfr i a6)) ((E.mono hB fr).mono hB fun i hi=>⟨nu,nu⟩) ?_
   cases ye
   ·simp only[y8,C0] at hza
    subst hza
    simp only[go_sem]
    refine⟨_,ag.refl _,?_⟩
    simp only[go_sem]
    exact aY.nil (fun i hi=>⟨nt ((fr i hi).1),nt ((fr i hi).2)⟩) (rs':=[bv false]) ⟨_,_,rfl,.one (.d _),rfl⟩ ⟨rfl,rfl,rfl⟩
   simp only[w9] at hza
   simp only[go_sem,q11,hw]
   refine ah (m-1) a6 ⟨k+1,a6,hza,?_⟩
   simp only[go_sem,q0,q4,q9,q10,o4]
   exact⟨fun j hj=>⟨nt ((fr j hj).1),nt ((fr j hj).2)⟩,fun j hj=>nt (hfr j hj)⟩
  have hlei:¬(0:Int)<(es.length:Int):=a6
  rw[y9 hle0] at hza
  simp only[y8,H9,w9] at hza
  simp only[go_sem,j5,hlei,q4,o4]
  try (simp only[go_sem,q0,q4,o4])
  refine bK aa rfl (hes 1) (by simp only[go_sem];rfl) (B+65) a6 (fun i hi=>nt (hfr i a6)) ((E.mono hB fr).mono hB fun i hi=>⟨nu,nu⟩) ?_
  cases hye2:eq fs 1 es
  ·rw[hye2] at hza
   simp only[y8,C0] at hza
   subst hza
   simp only[go_sem]
   refine⟨_,ag.refl _,?_⟩
   simp only[go_sem]
   exact aY.nil (fun i hi=>⟨nt ((fr i hi).1),nt ((fr i hi).2)⟩) (rs':=[bv false]) ⟨_,_,rfl,.one (.d _),rfl⟩ ⟨rfl,rfl,rfl⟩
  rw[hye2] at hza
  simp only[w9] at hza
  simp only[go_sem,q0,q4,o4]
  refine bK aa rfl hth (by simp only[go_sem];rfl) (B+65) a6 (fun i hi=>nt (hfr i a6)) ((E.mono hB fr).mono hB fun i hi=>⟨nu,nu⟩) ?_
  cases yt
  ·simp only[y8,C0] at hza
   subst hza
   simp only[go_sem]
   refine⟨_,ag.refl _,?_⟩
   simp only[go_sem]
   exact aY.nil (fun i hi=>⟨nt ((fr i hi).1),nt ((fr i hi).2)⟩) (rs':=[bv false]) ⟨_,_,rfl,.one (.d _),rfl⟩ ⟨rfl,rfl,rfl⟩
  simp only[go_sem,q0,q4,o4]
  refine bK aa rfl hel (by simp only[go_sem];rfl) (B+65) a6 (fun i hi=>nt (hfr i a6)) ((E.mono hB fr).mono hB fun i hi=>⟨nu,nu⟩) ?_
  cases ye
  ·simp only[y8,C0] at hza
   subst hza
   simp only[go_sem]
   refine⟨_,ag.refl _,?_⟩
   simp only[go_sem]
   exact aY.nil (fun i hi=>⟨nt ((fr i hi).1),nt ((fr i hi).2)⟩) (rs':=[bv false]) ⟨_,_,rfl,.one (.d _),rfl⟩ ⟨rfl,rfl,rfl⟩
  simp only[w9] at hza
  simp only[go_sem,q11,hw]
  refine ah (m-1) a6 ⟨k+1,a6,hza,?_⟩
  simp only[go_sem,q0,q4,q9,q10,o4]
  exact⟨fun j hj=>⟨nt ((fr j hj).1),nt ((fr j hj).2)⟩,fun j hj=>nt (hfr j hj)⟩
 rw[show (kind==7)=false by simp[k7]] at hza
 simp only[y8,H9,w9] at hza
 simp only[go_sem,k4,k5,k6,k7]
 try (simp only[go_sem,q0,q4,o4])
 refine bK aa rfl (hes 1) (by simp only[go_sem];rfl) (B+65) a6 (fun i hi=>nt (hfr i a6)) ((E.mono hB fr).mono hB fun i hi=>⟨nu,nu⟩) ?_
 cases hye2:eq fs 1 es
 ·rw[hye2] at hza
  simp only[y8,C0] at hza
  subst hza
  simp only[go_sem]
  refine⟨_,ag.refl _,?_⟩
  simp only[go_sem]
  exact aY.nil (fun i hi=>⟨nt ((fr i hi).1),nt ((fr i hi).2)⟩) (rs':=[bv false]) ⟨_,_,rfl,.one (.d _),rfl⟩ ⟨rfl,rfl,rfl⟩
 rw[hye2] at hza
 simp only[w9] at hza
 simp only[go_sem,q0,q4,o4]
 refine bK aa rfl hth (by simp only[go_sem];rfl) (B+65) a6 (fun i hi=>nt (hfr i a6)) ((E.mono hB fr).mono hB fun i hi=>⟨nu,nu⟩) ?_
 cases yt
 ·simp only[y8,C0] at hza
  subst hza
  simp only[go_sem]
  refine⟨_,ag.refl _,?_⟩
  simp only[go_sem]
  exact aY.nil (fun i hi=>⟨nt ((fr i hi).1),nt ((fr i hi).2)⟩) (rs':=[bv false]) ⟨_,_,rfl,.one (.d _),rfl⟩ ⟨rfl,rfl,rfl⟩
 simp only[go_sem,q0,q4,o4]
 refine bK aa rfl hel (by simp only[go_sem];rfl) (B+65) a6 (fun i hi=>nt (hfr i a6)) ((E.mono hB fr).mono hB fun i hi=>⟨nu,nu⟩) ?_
 cases ye
 ·simp only[y8,C0] at hza
  subst hza
  simp only[go_sem]
  refine⟨_,ag.refl _,?_⟩
  simp only[go_sem]
  exact aY.nil (fun i hi=>⟨nt ((fr i hi).1),nt ((fr i hi).2)⟩) (rs':=[bv false]) ⟨_,_,rfl,.one (.d _),rfl⟩ ⟨rfl,rfl,rfl⟩
 simp only[w9] at hza
 simp only[go_sem,q11,hw]
 refine ah (m-1) a6 ⟨k+1,a6,hza,?_⟩
 simp only[go_sem,q0,q4,q9,q10,o4]
 exact⟨fun j hj=>⟨nt ((fr j hj).1),nt ((fr j hj).2)⟩,fun j hj=>nt (hfr j hj)⟩
end
end
section
variable {l:List Src.Fn}
theorem wk.put {M:List C}{f:Src.Fn} (h:wk M l) (hn:cr l f.name=none):wk (mset M (.str f.name) (.d (.iptr (fnD f)))) (l++[f]):=fun s=>by
 rw[mA,Src.KY]
 simp only[iV,cr]
 by_cases hs:f.name=s
 ·subst hs
  rw[hn]
  simp
 ·simp only[hs,J4,B5,A6]
  rw[h s]
  cases cr l s <;> rfl
theorem wk.old {M:List C}{f x:Src.Fn} (h:wk M l) (hn:cr l f.name=some x):wk M (l++[f]):=fun s=>by
 rw[h s,Src.KY]
 cases hf:cr l s with
 |some y=>rfl
 |none=>
   simp only[cr]
   rw[if_neg (by rintro rfl;rw[hn] at hf;cases hf)]
theorem Gl {g:Nat→Nat}{ob:Obs} (p:Src.Prog) (hsz:szP p≤1000000000) :
  eJ Tryz.prog 92 [eg p] g ob (fun r g' ob'=>∃gr gm,r=.one (.ptr 1012 gr 0)∧uV p.funcs gr gm g' ob'∧∀i,i<1000∨1100≤i→g' i=g i∧ob' i=ob i) (fun _ _ _=>False):=by
 refine ez 1000 ac mixed Tryz.func92 rfl b9 [.tmp 2] rfl c8 c8 (by simp[Tryz.ntmps92]) fun b₀ β0 s0 w0=>?_
 unfold szP at hsz
 have hpV:eg p=.agg [.d (.sl (p.vars.map fun s=>[.str s])),.d (.sl (p.arrays.map arD)),.d (.sl (p.funcs.map fnD))]:=rfl
 rw[hpV]
 simp only[go_sem,j5]
 refine ap (fun m st=>∃k:Nat,m+k=p.funcs.length∧st.f 3=.one (.ptr 1012 (st.gen 1012) 0)∧st.f 14=.one (.d (.sl (p.funcs.map fnD)))∧st.f 15=iv .i64 p.funcs.length∧st.f 16=iv .i64 k∧
   st.obj 1012=some [.mp 1010 (st.gen 1010) 208,.d .nilf,.d .nilf,.d .nilf,.d .nilf,.d .nilf,.d .nilf,.d .nilf,.d .nilf,.d .nilf,.d .nilf]∧(∃M,st.obj 1010=some M∧wk M (p.funcs.take k))∧(∀i,i<1000∨1100≤i→st.gen i=g i∧st.obj i=ob i)) p.funcs.length ?_ ?_
 ·refine⟨0,rfl,?_⟩
  simp only[go_sem]
  exact⟨⟨[],rfl,fun s=>rfl⟩,fun i hi=>⟨nu,nu⟩⟩
 rintro m f g1 ob1 ⟨k,hk,q3,q14,q15,q16,o12,⟨M,oM,mM⟩,fr⟩
 simp only at q3 q14 q15 q16 o12 oM fr
 have hw:=ai (k:=k) a6
 by_cases hlt:k<p.funcs.length
 ·have hki:(k:Int)<(p.funcs.length:Int):=a6
  have hk0:(0:Int)≤(k:Int):=a6
  obtain⟨x,he⟩:=getq hlt
  have hfD:fnD x=[.str x.name,.sl (x.params.map fun s=>[.str s]),.sl (x.locals.map fun s=>[.str s]),.bool x.word,.sl (x.body.map smD)]:=rfl
  have mo1:=mM x.name
  simp only[go_sem,q3,q14,q15,q16,hki,hk0,he,hfD]
  refine mC (B:=1000) ac mixed aa [1006] [([3],[0],[],false),([21],[0],[],false),([22],[0],[],false),([23],[0],[],false),([5],[0],[],false),([25],[0],[],false),([24,26],[0],[],false),([27],[0],[],false),([20],[0],[],false),([20],[0],[],false),([],[],[0],false),([6,28],[],[0],false),([29],[],[],true)] 1 rfl c9 rfl a7 ?_
  simp only[go_sem]
  cases hff:cr (p.funcs.take k) x.name with
  |none=>
    rw[hff] at mo1
    simp only[G3] at mo1
    iterate 10 (apply aG;· (intro fa ga oa K' hK;simp only[go_sem,q3,o12,oM,mo1,C6] at hK ⊢;exact hK))
    (apply ce;· (intro fa ga oa K' hK;simp only[go_sem] at hK ⊢;exact hK))
    (apply ij;(focus simp);(focus (intro fa ga oa K' hK;simp only[go_sem] at hK ⊢;exact hK)))
    apply cj
    intro K' hK'
    simp only[go_sem]
    refine hK' _ ?_
    clear hK' K'
    simp only[go_sem]
    refine aU c9 ?_
    simp only[go_sem,q3,o12,oM,q16,hw]
    refine ah (m-1) a6 ⟨k+1,a6,?_⟩
    have hT:p.funcs.take (k+1)=p.funcs.take k++[x]:=by rw[A4,he,H7]
    simp only[go_sem,q3,q14,q15,o12]
    exact⟨⟨_,rfl,by rw[hT];exact mM.put hff⟩,fun i hi=>⟨nt ((fr i hi).1),nt ((fr i hi).2)⟩⟩
  |some y=>
    obtain⟨nm,ps,ls,wd,body⟩:=y
    rw[hff] at mo1
    simp only[w8,fnD] at mo1
    iterate 10 (apply aG;· (intro fa ga oa K' hK;simp only[go_sem,q3,o12,oM,mo1,B3] at hK ⊢;exact hK))
    (apply ce;· (intro fa ga oa K' hK;simp only[go_sem] at hK ⊢;exact hK))
    (apply ij;(focus simp);(focus (intro fa ga oa K' hK;simp only[go_sem] at hK ⊢;exact hK)))
    apply cj
    intro K' hK'
    simp only[go_sem]
    refine hK' _ ?_
    clear hK' K'
    simp only[go_sem,q16,hw]
    refine ah (m-1) a6 ⟨k+1,a6,?_⟩
    have hT:p.funcs.take (k+1)=p.funcs.take k++[x]:=by rw[A4,he,H7]
    simp only[go_sem,q3,q14,q15,o12]
    exact⟨⟨M,oM,by rw[hT];exact mM.old hff⟩,fun i hi=>⟨nt ((fr i hi).1),nt ((fr i hi).2)⟩⟩
 have hki:¬(k:Int)<(p.funcs.length:Int):=a6
 obtain rfl:k=p.funcs.length:=a6
 rw[l6 (j9 _)] at mM
 simp only[go_sem,q3,q15,q16,hki,o12]
 refine oS (B:=1000) ac mixed aa c9 c9 (fun L s=>s.gen=g1∧(∀i,i≠1012→s.obj i=ob1 i)∧s.f 3=.one (.ptr 1012 (g1 1012) 0)∧s.f 8=.one (.d (.fn 138))∧s.f 9=.one (.clo (139+1000000) [.ptr 1012 (g1 1012) 0])∧(L 0=true→s.f 42=.one (.ptr 1012 (g1 1012) 0))∧(L 1=true→s.f 43=.one (.ptr 1012 (g1 1012) 0))∧(L 2=true→s.f 44=.one (.ptr 1012 (g1 1012) 0))∧(L 3=true→s.f 45=.one (.d (.fn 138)))∧(L 4=true→s.f 46=.one (.d (.fn 138)))∧(L 5=true→s.f 47=.one (.d (.fn 138)))∧(L 6=true→s.f 48=.one (.ptr 1012 (g1 1012) 0))∧(L 7=true→s.f 49=.one (.ptr 1012 (g1 1012) 1))∧(L 8=true→s.f 50=.one (.ptr 1012 (g1 1012) 2))∧(L 10=true→s.f 51=.one (.ptr 1012 (g1 1012) 0))∧(L 11=true→s.f 52=.one (.ptr 1012 (g1 1012) 1))∧(L 12=true→s.f 53=.one (.ptr 1012 (g1 1012) 3))∧(L 14=true→s.f 54=.one (.ptr 1012 (g1 1012) 0))∧(L 15=true→s.f 55=.one (.ptr 1012 (g1 1012) 1))∧(L 16=true→s.f 56=.one (.ptr 1012 (g1 1012) 6))∧s.obj 1012=some [.mp 1010 (g1 1010) 208,.d .nilf,if L 9=true then .d (.fn 138) else .d .nilf,if L 13=true then .d (.fn 138) else .d .nilf,.d .nilf,.d .nilf,if L 17=true then .d (.fn 138) else .d .nilf,.d .nilf,.d .nilf,.d .nilf,.d .nilf]) ?_ ?_ ?_
 ·exact⟨rfl,fun i hi=>rfl,by simp only[go_sem,q3],by simp only[go_sem,q3],by simp only[go_sem,q3],fun h=>by simp at h,fun h=>by simp at h,fun h=>by simp at h,fun h=>by simp at h,fun h=>by simp at h,fun h=>by simp at h,fun h=>by simp at h,fun h=>by simp at h,fun h=>by simp at h,fun h=>by simp at h,fun h=>by simp at h,fun h=>by simp at h,fun h=>by simp at h,fun h=>by simp at h,fun h=>by simp at h,by simp only[go_sem,o12,B5]⟩
 ·rintro L ⟨f',g',ob'⟩ i op ⟨hg,ho,k3,k8,k9,h0,h1,h2,h3,h4,h5,h6,h7,h8,h10,h11,h12,h14,h15,h16,hc⟩ hop hL hdep hid
  simp only at hg ho k3 k8 k9 h0 h1 h2 h3 h4 h5 h6 h7 h8 h10 h11 h12 h14 h15 h16 hc
  subst hg
  match i,hop with
  |0,hop=>
    simp only[x6,v8,l8,u7] at hop;subst hop
    simp only[go_sem,k3,k8,k9,hc]
    repeat' (first|assumption|rfl|(intro i hi;(try simp only[upd]);(try rw[if_neg hi]);exact ho i hi)|(intro hh;first|exact h0 hh|exact h1 hh|exact h2 hh|exact h3 hh|exact h4 hh|exact h5 hh|exact h6 hh|exact h7 hh|exact h8 hh|exact h10 hh|exact h11 hh|exact h12 hh|exact h14 hh|exact h15 hh|exact h16 hh)|apply C9)
  |1,hop=>
    simp only[x6,v8,l8,u7] at hop;subst hop
    simp only[go_sem,k3,k8,k9,hc]
    repeat' (first|assumption|rfl|(intro i hi;(try simp only[upd]);(try rw[if_neg hi]);exact ho i hi)|(intro hh;first|exact h0 hh|exact h1 hh|exact h2 hh|exact h3 hh|exact h4 hh|exact h5 hh|exact h6 hh|exact h7 hh|exact h8 hh|exact h10 hh|exact h11 hh|exact h12 hh|exact h14 hh|exact h15 hh|exact h16 hh)|apply C9)
  |2,hop=>
    simp only[x6,v8,l8,u7] at hop;subst hop
    simp only[go_sem,k3,k8,k9,hc]
    repeat' (first|assumption|rfl|(intro i hi;(try simp only[upd]);(try rw[if_neg hi]);exact ho i hi)|(intro hh;first|exact h0 hh|exact h1 hh|exact h2 hh|exact h3 hh|exact h4 hh|exact h5 hh|exact h6 hh|exact h7 hh|exact h8 hh|exact h10 hh|exact h11 hh|exact h12 hh|exact h14 hh|exact h15 hh|exact h16 hh)|apply C9)
  |3,hop=>
    simp only[x6,v8,l8,u7] at hop;subst hop
    simp only[go_sem,k3,k8,k9,hc]
    repeat' (first|assumption|rfl|(intro i hi;(try simp only[upd]);(try rw[if_neg hi]);exact ho i hi)|(intro hh;first|exact h0 hh|exact h1 hh|exact h2 hh|exact h3 hh|exact h4 hh|exact h5 hh|exact h6 hh|exact h7 hh|exact h8 hh|exact h10 hh|exact h11 hh|exact h12 hh|exact h14 hh|exact h15 hh|exact h16 hh)|apply C9)
  |4,hop=>
    simp only[x6,v8,l8,u7] at hop;subst hop
    simp only[go_sem,k3,k8,k9,hc]
    repeat' (first|assumption|rfl|(intro i hi;(try simp only[upd]);(try rw[if_neg hi]);exact ho i hi)|(intro hh;first|exact h0 hh|exact h1 hh|exact h2 hh|exact h3 hh|exact h4 hh|exact h5 hh|exact h6 hh|exact h7 hh|exact h8 hh|exact h10 hh|exact h11 hh|exact h12 hh|exact h14 hh|exact h15 hh|exact h16 hh)|apply C9)
  |5,hop=>
    simp only[x6,v8,l8,u7] at hop;subst hop
    simp only[go_sem,k3,k8,k9,hc]
    repeat' (first|assumption|rfl|(intro i hi;(try simp only[upd]);(try rw[if_neg hi]);exact ho i hi)|(intro hh;first|exact h0 hh|exact h1 hh|exact h2 hh|exact h3 hh|exact h4 hh|exact h5 hh|exact h6 hh|exact h7 hh|exact h8 hh|exact h10 hh|exact h11 hh|exact h12 hh|exact h14 hh|exact h15 hh|exact h16 hh)|apply C9)
  |6,hop=>
    simp only[x6,v8,l8,u7] at hop;subst hop
    have d0:L 0=true:=hdep ⟨0,.data⟩ a7 rfl
    simp only[go_sem,h0 d0,k3,k8,k9,hc]
    repeat' (first|assumption|rfl|(intro i hi;(try simp only[upd]);(try rw[if_neg hi]);exact ho i hi)|(intro hh;first|exact h0 hh|exact h1 hh|exact h2 hh|exact h3 hh|exact h4 hh|exact h5 hh|exact h6 hh|exact h7 hh|exact h8 hh|exact h10 hh|exact h11 hh|exact h12 hh|exact h14 hh|exact h15 hh|exact h16 hh)|apply C9)
  |7,hop=>
    simp only[x6,v8,l8,u7] at hop;subst hop
    have d6:L 6=true:=hdep ⟨6,.data⟩ a7 rfl
    simp only[go_sem,h6 d6,k3,k8,k9,hc]
    repeat' (first|assumption|rfl|(intro i hi;(try simp only[upd]);(try rw[if_neg hi]);exact ho i hi)|(intro hh;first|exact h0 hh|exact h1 hh|exact h2 hh|exact h3 hh|exact h4 hh|exact h5 hh|exact h6 hh|exact h7 hh|exact h8 hh|exact h10 hh|exact h11 hh|exact h12 hh|exact h14 hh|exact h15 hh|exact h16 hh)|apply C9)
  |8,hop=>
    simp only[x6,v8,l8,u7] at hop;subst hop
    have d7:L 7=true:=hdep ⟨7,.data⟩ a7 rfl
    simp only[go_sem,h7 d7,k3,k8,k9,hc]
    repeat' (first|assumption|rfl|(intro i hi;(try simp only[upd]);(try rw[if_neg hi]);exact ho i hi)|(intro hh;first|exact h0 hh|exact h1 hh|exact h2 hh|exact h3 hh|exact h4 hh|exact h5 hh|exact h6 hh|exact h7 hh|exact h8 hh|exact h10 hh|exact h11 hh|exact h12 hh|exact h14 hh|exact h15 hh|exact h16 hh)|apply C9)
  |9,hop=>
    simp only[x6,v8,l8,u7] at hop;subst hop
    have d8:L 8=true:=hdep ⟨8,.data⟩ a7 rfl
    have d3:L 3=true:=hdep ⟨3,.data⟩ a7 rfl
    simp only[go_sem,h8 d8,h3 d3,k3,k8,k9,hc]
    repeat' (first|assumption|rfl|(intro i hi;(try simp only[upd]);(try rw[if_neg hi]);exact ho i hi)|(intro hh;first|exact h0 hh|exact h1 hh|exact h2 hh|exact h3 hh|exact h4 hh|exact h5 hh|exact h6 hh|exact h7 hh|exact h8 hh|exact h10 hh|exact h11 hh|exact h12 hh|exact h14 hh|exact h15 hh|exact h16 hh)|apply C9)
  |10,hop=>
    simp only[x6,v8,l8,u7] at hop;subst hop
    have d1:L 1=true:=hdep ⟨1,.data⟩ a7 rfl
    simp only[go_sem,h1 d1,k3,k8,k9,hc]
    repeat' (first|assumption|rfl|(intro i hi;(try simp only[upd]);(try rw[if_neg hi]);exact ho i hi)|(intro hh;first|exact h0 hh|exact h1 hh|exact h2 hh|exact h3 hh|exact h4 hh|exact h5 hh|exact h6 hh|exact h7 hh|exact h8 hh|exact h10 hh|exact h11 hh|exact h12 hh|exact h14 hh|exact h15 hh|exact h16 hh)|apply C9)
  |11,hop=>
    simp only[x6,v8,l8,u7] at hop;subst hop
    have d10:L 10=true:=hdep ⟨10,.data⟩ a7 rfl
    simp only[go_sem,h10 d10,k3,k8,k9,hc]
    repeat' (first|assumption|rfl|(intro i hi;(try simp only[upd]);(try rw[if_neg hi]);exact ho i hi)|(intro hh;first|exact h0 hh|exact h1 hh|exact h2 hh|exact h3 hh|exact h4 hh|exact h5 hh|exact h6 hh|exact h7 hh|exact h8 hh|exact h10 hh|exact h11 hh|exact h12 hh|exact h14 hh|exact h15 hh|exact h16 hh)|apply C9)
  |12,hop=>
    simp only[x6,v8,l8,u7] at hop;subst hop
    have d11:L 11=true:=hdep ⟨11,.data⟩ a7 rfl
    simp only[go_sem,h11 d11,k3,k8,k9,hc]
    repeat' (first|assumption|rfl|(intro i hi;(try simp only[upd]);(try rw[if_neg hi]);exact ho i hi)|(intro hh;first|exact h0 hh|exact h1 hh|exact h2 hh|exact h3 hh|exact h4 hh|exact h5 hh|exact h6 hh|exact h7 hh|exact h8 hh|exact h10 hh|exact h11 hh|exact h12 hh|exact h14 hh|exact h15 hh|exact h16 hh)|apply C9)
  |13,hop=>
    simp only[x6,v8,l8,u7] at hop;subst hop
    have d12:L 12=true:=hdep ⟨12,.data⟩ a7 rfl
    have d4:L 4=true:=hdep ⟨4,.data⟩ a7 rfl
    simp only[go_sem,h12 d12,h4 d4,k3,k8,k9,hc]
    repeat' (first|assumption|rfl|(intro i hi;(try simp only[upd]);(try rw[if_neg hi]);exact ho i hi)|(intro hh;first|exact h0 hh|exact h1 hh|exact h2 hh|exact h3 hh|exact h4 hh|exact h5 hh|exact h6 hh|exact h7 hh|exact h8 hh|exact h10 hh|exact h11 hh|exact h12 hh|exact h14 hh|exact h15 hh|exact h16 hh)|apply C9)
  |14,hop=>
    simp only[x6,v8,l8,u7] at hop;subst hop
    have d2:L 2=true:=hdep ⟨2,.data⟩ a7 rfl
    simp only[go_sem,h2 d2,k3,k8,k9,hc]
    repeat' (first|assumption|rfl|(intro i hi;(try simp only[upd]);(try rw[if_neg hi]);exact ho i hi)|(intro hh;first|exact h0 hh|exact h1 hh|exact h2 hh|exact h3 hh|exact h4 hh|exact h5 hh|exact h6 hh|exact h7 hh|exact h8 hh|exact h10 hh|exact h11 hh|exact h12 hh|exact h14 hh|exact h15 hh|exact h16 hh)|apply C9)
  |15,hop=>
    simp only[x6,v8,l8,u7] at hop;subst hop
    have d14:L 14=true:=hdep ⟨14,.data⟩ a7 rfl
    simp only[go_sem,h14 d14,k3,k8,k9,hc]
    repeat' (first|assumption|rfl|(intro i hi;(try simp only[upd]);(try rw[if_neg hi]);exact ho i hi)|(intro hh;first|exact h0 hh|exact h1 hh|exact h2 hh|exact h3 hh|exact h4 hh|exact h5 hh|exact h6 hh|exact h7 hh|exact h8 hh|exact h10 hh|exact h11 hh|exact h12 hh|exact h14 hh|exact h15 hh|exact h16 hh)|apply C9)
  |16,hop=>
    simp only[x6,v8,l8,u7] at hop;subst hop
    have d15:L 15=true:=hdep ⟨15,.data⟩ a7 rfl
    simp only[go_sem,h15 d15,k3,k8,k9,hc]
    repeat' (first|assumption|rfl|(intro i hi;(try simp only[upd]);(try rw[if_neg hi]);exact ho i hi)|(intro hh;first|exact h0 hh|exact h1 hh|exact h2 hh|exact h3 hh|exact h4 hh|exact h5 hh|exact h6 hh|exact h7 hh|exact h8 hh|exact h10 hh|exact h11 hh|exact h12 hh|exact h14 hh|exact h15 hh|exact h16 hh)|apply C9)
  |17,hop=>
    simp only[x6,v8,l8,u7] at hop;subst hop
    have d16:L 16=true:=hdep ⟨16,.data⟩ a7 rfl
    have d5:L 5=true:=hdep ⟨5,.data⟩ a7 rfl
    simp only[go_sem,h16 d16,h5 d5,k3,k8,k9,hc]
    repeat' (first|assumption|rfl|(intro i hi;(try simp only[upd]);(try rw[if_neg hi]);exact ho i hi)|(intro hh;first|exact h0 hh|exact h1 hh|exact h2 hh|exact h3 hh|exact h4 hh|exact h5 hh|exact h6 hh|exact h7 hh|exact h8 hh|exact h10 hh|exact h11 hh|exact h12 hh|exact h14 hh|exact h15 hh|exact h16 hh)|apply C9)
  |j+18,hop=>exact absurd hop a7
 rintro L ⟨f',g',ob'⟩ ⟨hg,ho,k3,k8,k9,h0,h1,h2,h3,h4,h5,h6,h7,h8,h10,h11,h12,h14,h15,h16,hc⟩ hall
 simp only at hg ho k3 k8 k9 h0 h1 h2 h3 h4 h5 h6 h7 h8 h10 h11 h12 h14 h15 h16 hc
 subst hg
 rw[hall 9 a8,hall 13 a8,hall 17 a8] at hc
 simp only[A9] at hc
 clear hall h0 h1 h2 h3 h4 h5 h6 h7 h8 h10 h11 h12 h14 h15 h16
 have ho1:=ho
 simp only[go_sem,k3,k9,hc]
 refine oS (B:=1000) ac mixed aa c9 c9 (fun L s=>s.gen=g'∧(∀i,i≠1012→s.obj i=ob' i)∧s.f 3=.one (.ptr 1012 (g' 1012) 0)∧s.f 9=.one (.clo (139+1000000) [.ptr 1012 (g' 1012) 0])∧(L 0=true→s.f 75=.one (.ptr 1012 (g' 1012) 0))∧(L 1=true→s.f 76=.one (.ptr 1012 (g' 1012) 0))∧(L 2=true→s.f 77=.one (.ptr 1012 (g' 1012) 0))∧(L 3=true→s.f 78=.one (.clo (139+1000000) [.ptr 1012 (g' 1012) 0]))∧(L 4=true→s.f 79=.one (.clo (139+1000000) [.ptr 1012 (g' 1012) 0]))∧(L 5=true→s.f 80=.one (.clo (139+1000000) [.ptr 1012 (g' 1012) 0]))∧(L 6=true→s.f 81=.one (.ptr 1012 (g' 1012) 0))∧(L 7=true→s.f 82=.one (.ptr 1012 (g' 1012) 1))∧(L 8=true→s.f 83=.one (.ptr 1012 (g' 1012) 8))∧(L 10=true→s.f 84=.one (.ptr 1012 (g' 1012) 0))∧(L 11=true→s.f 85=.one (.ptr 1012 (g' 1012) 1))∧(L 12=true→s.f 86=.one (.ptr 1012 (g' 1012) 9))∧(L 14=true→s.f 87=.one (.ptr 1012 (g' 1012) 0))∧(L 15=true→s.f 88=.one (.ptr 1012 (g' 1012) 1))∧(L 16=true→s.f 89=.one (.ptr 1012 (g' 1012) 10))∧s.obj 1012=some [.mp 1010 (g' 1010) 208,.d .nilf,.d (.fn 138),.d (.fn 138),.clo (140+1000000) [.ptr 1012 (g' 1012) 0],.clo (141+1000000) [.ptr 1012 (g' 1012) 0],.d (.fn 138),.clo (142+1000000) [.ptr 1012 (g' 1012) 0],if L 9=true then .clo (139+1000000) [.ptr 1012 (g' 1012) 0] else .d .nilf,if L 13=true then .clo (139+1000000) [.ptr 1012 (g' 1012) 0] else .d .nilf,if L 17=true then .clo (139+1000000) [.ptr 1012 (g' 1012) 0] else .d .nilf]) ?_ ?_ ?_
 ·exact⟨rfl,fun i hi=>nu,by simp only[go_sem,k3,k9],by simp only[go_sem,k3,k9],fun h=>by simp at h,fun h=>by simp at h,fun h=>by simp at h,fun h=>by simp at h,fun h=>by simp at h,fun h=>by simp at h,fun h=>by simp at h,fun h=>by simp at h,fun h=>by simp at h,fun h=>by simp at h,fun h=>by simp at h,fun h=>by simp at h,fun h=>by simp at h,fun h=>by simp at h,fun h=>by simp at h,by simp only[go_sem,hc,B5]⟩
 ·rintro L ⟨f2,g2,ob2⟩ i op ⟨hg,ho,k3,k9,h0,h1,h2,h3,h4,h5,h6,h7,h8,h10,h11,h12,h14,h15,h16,hc⟩ hop hL hdep hid
  simp only at hg ho k3 k9 h0 h1 h2 h3 h4 h5 h6 h7 h8 h10 h11 h12 h14 h15 h16 hc
  subst hg
  match i,hop with
  |0,hop=>
    simp only[x6,v8,l8,u7] at hop;subst hop
    simp only[go_sem,k3,k9,hc]
    repeat' (first|assumption|rfl|(intro i hi;(try simp only[upd]);(try rw[if_neg hi]);exact ho i hi)|(intro hh;first|exact h0 hh|exact h1 hh|exact h2 hh|exact h3 hh|exact h4 hh|exact h5 hh|exact h6 hh|exact h7 hh|exact h8 hh|exact h10 hh|exact h11 hh|exact h12 hh|exact h14 hh|exact h15 hh|exact h16 hh)|apply C9)
  |1,hop=>
    simp only[x6,v8,l8,u7] at hop;subst hop
    simp only[go_sem,k3,k9,hc]
    repeat' (first|assumption|rfl|(intro i hi;(try simp only[upd]);(try rw[if_neg hi]);exact ho i hi)|(intro hh;first|exact h0 hh|exact h1 hh|exact h2 hh|exact h3 hh|exact h4 hh|exact h5 hh|exact h6 hh|exact h7 hh|exact h8 hh|exact h10 hh|exact h11 hh|exact h12 hh|exact h14 hh|exact h15 hh|exact h16 hh)|apply C9)
  |2,hop=>
    simp only[x6,v8,l8,u7] at hop;subst hop
    simp only[go_sem,k3,k9,hc]
    repeat' (first|assumption|rfl|(intro i hi;(try simp only[upd]);(try rw[if_neg hi]);exact ho i hi)|(intro hh;first|exact h0 hh|exact h1 hh|exact h2 hh|exact h3 hh|exact h4 hh|exact h5 hh|exact h6 hh|exact h7 hh|exact h8 hh|exact h10 hh|exact h11 hh|exact h12 hh|exact h14 hh|exact h15 hh|exact h16 hh)|apply C9)
  |3,hop=>
    simp only[x6,v8,l8,u7] at hop;subst hop
    simp only[go_sem,k3,k9,hc]
    repeat' (first|assumption|rfl|(intro i hi;(try simp only[upd]);(try rw[if_neg hi]);exact ho i hi)|(intro hh;first|exact h0 hh|exact h1 hh|exact h2 hh|exact h3 hh|exact h4 hh|exact h5 hh|exact h6 hh|exact h7 hh|exact h8 hh|exact h10 hh|exact h11 hh|exact h12 hh|exact h14 hh|exact h15 hh|exact h16 hh)|apply C9)
  |4,hop=>
    simp only[x6,v8,l8,u7] at hop;subst hop
    simp only[go_sem,k3,k9,hc]
    repeat' (first|assumption|rfl|(intro i hi;(try simp only[upd]);(try rw[if_neg hi]);exact ho i hi)|(intro hh;first|exact h0 hh|exact h1 hh|exact h2 hh|exact h3 hh|exact h4 hh|exact h5 hh|exact h6 hh|exact h7 hh|exact h8 hh|exact h10 hh|exact h11 hh|exact h12 hh|exact h14 hh|exact h15 hh|exact h16 hh)|apply C9)
  |5,hop=>
    simp only[x6,v8,l8,u7] at hop;subst hop
    simp only[go_sem,k3,k9,hc]
    repeat' (first|assumption|rfl|(intro i hi;(try simp only[upd]);(try rw[if_neg hi]);exact ho i hi)|(intro hh;first|exact h0 hh|exact h1 hh|exact h2 hh|exact h3 hh|exact h4 hh|exact h5 hh|exact h6 hh|exact h7 hh|exact h8 hh|exact h10 hh|exact h11 hh|exact h12 hh|exact h14 hh|exact h15 hh|exact h16 hh)|apply C9)
  |6,hop=>
    simp only[x6,v8,l8,u7] at hop;subst hop
    have d0:L 0=true:=hdep ⟨0,.data⟩ a7 rfl
    simp only[go_sem,h0 d0,k3,k9,hc]
    repeat' (first|assumption|rfl|(intro i hi;(try simp only[upd]);(try rw[if_neg hi]);exact ho i hi)|(intro hh;first|exact h0 hh|exact h1 hh|exact h2 hh|exact h3 hh|exact h4 hh|exact h5 hh|exact h6 hh|exact h7 hh|exact h8 hh|exact h10 hh|exact h11 hh|exact h12 hh|exact h14 hh|exact h15 hh|exact h16 hh)|apply C9)
  |7,hop=>
    simp only[x6,v8,l8,u7] at hop;subst hop
    have d6:L 6=true:=hdep ⟨6,.data⟩ a7 rfl
    simp only[go_sem,h6 d6,k3,k9,hc]
    repeat' (first|assumption|rfl|(intro i hi;(try simp only[upd]);(try rw[if_neg hi]);exact ho i hi)|(intro hh;first|exact h0 hh|exact h1 hh|exact h2 hh|exact h3 hh|exact h4 hh|exact h5 hh|exact h6 hh|exact h7 hh|exact h8 hh|exact h10 hh|exact h11 hh|exact h12 hh|exact h14 hh|exact h15 hh|exact h16 hh)|apply C9)
  |8,hop=>
    simp only[x6,v8,l8,u7] at hop;subst hop
    have d7:L 7=true:=hdep ⟨7,.data⟩ a7 rfl
    simp only[go_sem,h7 d7,k3,k9,hc]
    repeat' (first|assumption|rfl|(intro i hi;(try simp only[upd]);(try rw[if_neg hi]);exact ho i hi)|(intro hh;first|exact h0 hh|exact h1 hh|exact h2 hh|exact h3 hh|exact h4 hh|exact h5 hh|exact h6 hh|exact h7 hh|exact h8 hh|exact h10 hh|exact h11 hh|exact h12 hh|exact h14 hh|exact h15 hh|exact h16 hh)|apply C9)
  |9,hop=>
    simp only[x6,v8,l8,u7] at hop;subst hop
    have d8:L 8=true:=hdep ⟨8,.data⟩ a7 rfl
    have d3:L 3=true:=hdep ⟨3,.data⟩ a7 rfl
    simp only[go_sem,h8 d8,h3 d3,k3,k9,hc]
    repeat' (first|assumption|rfl|(intro i hi;(try simp only[upd]);(try rw[if_neg hi]);exact ho i hi)|(intro hh;first|exact h0 hh|exact h1 hh|exact h2 hh|exact h3 hh|exact h4 hh|exact h5 hh|exact h6 hh|exact h7 hh|exact h8 hh|exact h10 hh|exact h11 hh|exact h12 hh|exact h14 hh|exact h15 hh|exact h16 hh)|apply C9)
  |10,hop=>
    simp only[x6,v8,l8,u7] at hop;subst hop
    have d1:L 1=true:=hdep ⟨1,.data⟩ a7 rfl
    simp only[go_sem,h1 d1,k3,k9,hc]
    repeat' (first|assumption|rfl|(intro i hi;(try simp only[upd]);(try rw[if_neg hi]);exact ho i hi)|(intro hh;first|exact h0 hh|exact h1 hh|exact h2 hh|exact h3 hh|exact h4 hh|exact h5 hh|exact h6 hh|exact h7 hh|exact h8 hh|exact h10 hh|exact h11 hh|exact h12 hh|exact h14 hh|exact h15 hh|exact h16 hh)|apply C9)
  |11,hop=>
    simp only[x6,v8,l8,u7] at hop;subst hop
    have d10:L 10=true:=hdep ⟨10,.data⟩ a7 rfl
    simp only[go_sem,h10 d10,k3,k9,hc]
    repeat' (first|assumption|rfl|(intro i hi;(try simp only[upd]);(try rw[if_neg hi]);exact ho i hi)|(intro hh;first|exact h0 hh|exact h1 hh|exact h2 hh|exact h3 hh|exact h4 hh|exact h5 hh|exact h6 hh|exact h7 hh|exact h8 hh|exact h10 hh|exact h11 hh|exact h12 hh|exact h14 hh|exact h15 hh|exact h16 hh)|apply C9)
  |12,hop=>
    simp only[x6,v8,l8,u7] at hop;subst hop
    have d11:L 11=true:=hdep ⟨11,.data⟩ a7 rfl
    simp only[go_sem,h11 d11,k3,k9,hc]
    repeat' (first|assumption|rfl|(intro i hi;(try simp only[upd]);(try rw[if_neg hi]);exact ho i hi)|(intro hh;first|exact h0 hh|exact h1 hh|exact h2 hh|exact h3 hh|exact h4 hh|exact h5 hh|exact h6 hh|exact h7 hh|exact h8 hh|exact h10 hh|exact h11 hh|exact h12 hh|exact h14 hh|exact h15 hh|exact h16 hh)|apply C9)
  |13,hop=>
    simp only[x6,v8,l8,u7] at hop;subst hop
    have d12:L 12=true:=hdep ⟨12,.data⟩ a7 rfl
    have d4:L 4=true:=hdep ⟨4,.data⟩ a7 rfl
    simp only[go_sem,h12 d12,h4 d4,k3,k9,hc]
    repeat' (first|assumption|rfl|(intro i hi;(try simp only[upd]);(try rw[if_neg hi]);exact ho i hi)|(intro hh;first|exact h0 hh|exact h1 hh|exact h2 hh|exact h3 hh|exact h4 hh|exact h5 hh|exact h6 hh|exact h7 hh|exact h8 hh|exact h10 hh|exact h11 hh|exact h12 hh|exact h14 hh|exact h15 hh|exact h16 hh)|apply C9)
  |14,hop=>
    simp only[x6,v8,l8,u7] at hop;subst hop
    have d2:L 2=true:=hdep ⟨2,.data⟩ a7 rfl
    simp only[go_sem,h2 d2,k3,k9,hc]
    repeat' (first|assumption|rfl|(intro i hi;(try simp only[upd]);(try rw[if_neg hi]);exact ho i hi)|(intro hh;first|exact h0 hh|exact h1 hh|exact h2 hh|exact h3 hh|exact h4 hh|exact h5 hh|exact h6 hh|exact h7 hh|exact h8 hh|exact h10 hh|exact h11 hh|exact h12 hh|exact h14 hh|exact h15 hh|exact h16 hh)|apply C9)
  |15,hop=>
    simp only[x6,v8,l8,u7] at hop;subst hop
    have d14:L 14=true:=hdep ⟨14,.data⟩ a7 rfl
    simp only[go_sem,h14 d14,k3,k9,hc]
    repeat' (first|assumption|rfl|(intro i hi;(try simp only[upd]);(try rw[if_neg hi]);exact ho i hi)|(intro hh;first|exact h0 hh|exact h1 hh|exact h2 hh|exact h3 hh|exact h4 hh|exact h5 hh|exact h6 hh|exact h7 hh|exact h8 hh|exact h10 hh|exact h11 hh|exact h12 hh|exact h14 hh|exact h15 hh|exact h16 hh)|apply C9)
  |16,hop=>
    simp only[x6,v8,l8,u7] at hop;subst hop
    have d15:L 15=true:=hdep ⟨15,.data⟩ a7 rfl
    simp only[go_sem,h15 d15,k3,k9,hc]
    repeat' (first|assumption|rfl|(intro i hi;(try simp only[upd]);(try rw[if_neg hi]);exact ho i hi)|(intro hh;first|exact h0 hh|exact h1 hh|exact h2 hh|exact h3 hh|exact h4 hh|exact h5 hh|exact h6 hh|exact h7 hh|exact h8 hh|exact h10 hh|exact h11 hh|exact h12 hh|exact h14 hh|exact h15 hh|exact h16 hh)|apply C9)
  |17,hop=>
    simp only[x6,v8,l8,u7] at hop;subst hop
    have d16:L 16=true:=hdep ⟨16,.data⟩ a7 rfl
    have d5:L 5=true:=hdep ⟨5,.data⟩ a7 rfl
    simp only[go_sem,h16 d16,h5 d5,k3,k9,hc]
    repeat' (first|assumption|rfl|(intro i hi;(try simp only[upd]);(try rw[if_neg hi]);exact ho i hi)|(intro hh;first|exact h0 hh|exact h1 hh|exact h2 hh|exact h3 hh|exact h4 hh|exact h5 hh|exact h6 hh|exact h7 hh|exact h8 hh|exact h10 hh|exact h11 hh|exact h12 hh|exact h14 hh|exact h15 hh|exact h16 hh)|apply C9)
  |j+18,hop=>exact absurd hop a7
 rintro L ⟨f2,g2,ob2⟩ ⟨hg,ho,k3,k9,h0,h1,h2,h3,h4,h5,h6,h7,h8,h10,h11,h12,h14,h15,h16,hc⟩ hall
 simp only at hg ho k3 k9 h0 h1 h2 h3 h4 h5 h6 h7 h8 h10 h11 h12 h14 h15 h16 hc
 subst hg
 rw[hall 9 a8,hall 13 a8,hall 17 a8] at hc
 simp only[A9] at hc
 clear hall h0 h1 h2 h3 h4 h5 h6 h7 h8 h10 h11 h12 h14 h15 h16
 simp only[go_sem]
 refine⟨_,ag.refl _,?_⟩
 simp only[go_sem,k3]
 refine⟨_,_,rfl,⟨hc,⟨M,(ho 1010 a8).trans ?_,mM⟩,rfl,rfl⟩,fun i hi=>⟨(fr i hi).1,?_⟩⟩
 ·(try simp only[upd]);(repeat rw[if_neg (by omega)])
  exact(ho1 1010 a8).trans oM
 ·rw[ho i a6]
  (try simp only[upd]);(repeat rw[if_neg (by omega)])
  rw[ho1 i a6]
  exact(fr i hi).2
end
end
section
attribute [local congr] Go.Am.ite_cc
open Go Go.Am Go.Asm
open Go.Src (Ex Stm szE bG szS bB dn cK nG ct iT dZ)
theorem Gm {o:cN} (p:Src.Prog) (hsz:szP p≤1000000000):bR Tryz.prog 1 o 64 [eg p] (· = iv .i64 (nG p:Nat)):=by
 refine ax 0 1 o ac mixed Tryz.func64 rfl b9 [.tmp 2] rfl c8 c8 (by simp[Tryz.ntmps64]) fun b₀ β0 s0 w0 g=>?_
 obtain⟨z,hz⟩:∃z,nG p=z:=⟨_,rfl⟩
 rw[hz]
 have hszp:=hsz
 unfold szP at hsz
 unfold nG at hz
 have hpV:eg p=.agg [.d (.sl (p.vars.map fun s=>[.str s])),.d (.sl (p.arrays.map arD)),.d (.sl (p.funcs.map fnD))]:=rfl
 rw[hpV]
 simp only[go_sem]
 refine bu ab rfl (by simp only[go_sem];rw[←hpV];exact Gl p hszp) ?_ ?_
 ·exact fun _ _ _ h=>h.elim
 rintro r g1 ob1 ⟨gr,gm,rfl,E,fr⟩
 have e1:=fr 1 (.inl a8)
 simp[upd] at e1
 have hfr:∀j,1100≤j→ob1 j=none:=fun j hj=>by rw[(fr j (.inr a6)).2];simp only[upd];rw[if_neg a6]
 clear fr
 simp only[go_sem,e1.1,e1.2,j5]
 refine ap (fun m st=>∃k:Nat,m+k=p.funcs.length∧(p.funcs.take k).all (fun f=>dn p.funcs f.body)=true∧st.f 1=.one (.ptr 1 (st.gen 1) 0)∧st.f 3=.one (.ptr 1012 gr 0)∧st.f 11=.one (.d (.sl (p.funcs.map fnD)))∧st.f 12=iv .i64 p.funcs.length∧st.f 13=iv .i64 k∧
   st.obj 1=some (gL p)∧uV p.funcs gr gm st.gen st.obj∧∀j,1100≤j→st.obj j=none) p.funcs.length ?_ ?_
 ·refine⟨0,rfl,a7,?_⟩
  simp only[go_sem,e1.1,e1.2]
  exact⟨rfl,E,hfr⟩
 clear e1 hfr E
 rintro m f g1 ob1 ⟨k,hk,hall,q1,q3,q11,q12,q13,o1,E,hfr⟩
 simp only at q1 q3 q11 q12 q13 o1 E hfr
 have hw:=ai (k:=k) a6
 by_cases hlt:k<p.funcs.length
 ·have hki:(k:Int)<(p.funcs.length:Int):=a6
  have hk0:(0:Int)≤(k:Int):=a6
  obtain⟨x,he⟩:=getq hlt
  have hszf:=mH (p:=p) (l4 he)
  unfold szP at hszf
  have hfD:fnD x=[.str x.name,.sl (x.params.map fun s=>[.str s]),.sl (x.locals.map fun s=>[.str s]),.bool x.word,.sl (x.body.map smD)]:=rfl
  have hkn:=yf (fs:=p.funcs) (gr:=gr) (gm:=gm) (bB x.body) x.body (j9 _) a6
  obtain⟨y,hy⟩:∃y,dn p.funcs x.body=y:=⟨_,rfl⟩
  rw[hy] at hkn
  simp only[go_sem,q3,q11,q12,q13,hki,hk0,he,hfD]
  refine bK ab rfl hkn (by simp only[go_sem];rfl) 2000 a6 (fun i hi=>nt (hfr i a6)) ⟨by simp[upd];exact E.or,by simp[upd];exact E.om,by simp[upd];exact E.gr,by simp[upd];exact E.gm⟩ ?_
  cases y
  ·rw[if_pos (Src.all_false (p:=fun f=>dn p.funcs f.body) he hy)] at hz
   subst hz
   simp only[go_sem]
  ·simp only[go_sem,q13,hw]
   refine ah (m-1) a6 ⟨k+1,a6,Src.OZ hall he hy,?_⟩
   simp only[go_sem,q1,q3,q11,q12]
   exact⟨o1,⟨by simp[upd];exact E.or,by simp[upd];exact E.om,by simp[upd];exact E.gr,by simp[upd];exact E.gm⟩,fun j hj=>nt (hfr j hj)⟩
 have hki:¬(k:Int)<(p.funcs.length:Int):=a6
 obtain rfl:k=p.funcs.length:=a6
 rw[l6 (j9 _)] at hall
 rw[if_neg (by rw[hall];simp)] at hz
 have o1':=o1
 unfold gL gU at o1
 simp only[l5,w7] at o1
 simp only[go_sem,q1,q12,q13,hki,o1,j5]
 refine ap (fun m st=>∃k:Nat,m+k=p.funcs.length∧(p.funcs.take k).all (fun f=>cK p.funcs f.word f.body)=true∧st.f 3=.one (.ptr 1012 gr 0)∧st.f 24=.one (.d (.sl (p.funcs.map fnD)))∧st.f 25=iv .i64 p.funcs.length∧st.f 26=iv .i64 k∧
   uV p.funcs gr gm st.gen st.obj∧∀j,1100≤j→st.obj j=none) p.funcs.length ?_ ?_
 ·refine⟨0,rfl,a7,?_⟩
  simp only[go_sem,q3]
  exact⟨E,hfr⟩
 clear q1 q3 q11 q12 q13 o1 o1' E hfr hlt hki hk hw
 rintro m f g1 ob1 ⟨k,hk,hall2,q3,q11,q12,q13,E,hfr⟩
 simp only at q3 q11 q12 q13 E hfr
 have hw:=ai (k:=k) a6
 by_cases hlt:k<p.funcs.length
 ·have hki:(k:Int)<(p.funcs.length:Int):=a6
  have hk0:(0:Int)≤(k:Int):=a6
  obtain⟨x,he⟩:=getq hlt
  have hszf:=mH (p:=p) (l4 he)
  unfold szP at hszf
  have hfD:fnD x=[.str x.name,.sl (x.params.map fun s=>[.str s]),.sl (x.locals.map fun s=>[.str s]),.bool x.word,.sl (x.body.map smD)]:=rfl
  have hfV:fnV x=.agg [.d (.str x.name),.d (.sl (x.params.map fun s=>[.str s])),.d (.sl (x.locals.map fun s=>[.str s])),.d (.bool x.word),.d (.sl (x.body.map smD))]:=rfl
  have hkn:=yg (fs:=p.funcs) (gr:=gr) (gm:=gm) x (bB x.body) x.body (j9 _) a6
  obtain⟨y,hy⟩:∃y,cK p.funcs x.word x.body=y:=⟨_,rfl⟩
  rw[hy,hfV] at hkn
  simp only[go_sem,q3,q11,q12,q13,hki,hk0,he,hfD]
  refine bK ab rfl hkn (by simp only[go_sem];rfl) 2000 a6 (fun i hi=>nt (hfr i a6)) ⟨by simp[upd];exact E.or,by simp[upd];exact E.om,by simp[upd];exact E.gr,by simp[upd];exact E.gm⟩ ?_
  cases y
  ·rw[if_pos (Src.all_false (p:=fun f=>cK p.funcs f.word f.body) he hy)] at hz
   subst hz
   simp only[go_sem]
  ·simp only[go_sem,q13,hw]
   refine ah (m-1) a6 ⟨k+1,a6,Src.OZ hall2 he hy,?_⟩
   simp only[go_sem,q3,q11,q12]
   exact⟨⟨by simp[upd];exact E.or,by simp[upd];exact E.om,by simp[upd];exact E.gr,by simp[upd];exact E.gm⟩,fun j hj=>nt (hfr j hj)⟩
 have hki:¬(k:Int)<(p.funcs.length:Int):=a6
 obtain rfl:k=p.funcs.length:=a6
 rw[l6 (j9 _)] at hall2
 rw[if_neg (by rw[hall2];simp)] at hz
 subst hz
 simp only[go_sem,q12,q13,hki]
theorem Gn {o:cN} (ho:iK o) (p:Src.Prog) (hsz:szP p≤1000000000):bR Tryz.prog 1 o 44 [eg p] (· = iv .i64 (ct p:Nat)):=by
 refine ax 0 1 o ac mixed Tryz.func44 rfl b9 [.tmp 2] rfl c8 c8 (by simp[Tryz.ntmps44]) fun b₀ β0 s0 w0 g=>?_
 obtain⟨z,hz⟩:∃z,ct p=z:=⟨_,rfl⟩
 rw[hz]
 unfold ct at hz
 have hpV:eg p=.agg [.d (.sl (p.vars.map fun s=>[.str s])),.d (.sl (p.arrays.map arD)),.d (.sl (p.funcs.map fnD))]:=rfl
 have hR:=zx ho p hsz
 have hT:=Gm (o:=o) p hsz
 rw[hpV] at hR hT ⊢
 simp only[go_sem]
 refine am ab (fun s β ds w h=>h.1.2) rfl (by simp only[go_sem];exact hR) (by simp only[go_sem];rfl) ?_
 rintro _ rfl
 cases hr:dZ p
 ·rw[if_pos hr] at hz
  subst hz
  simp only[go_sem]
 rw[if_neg (by rw[hr];simp)] at hz
 have hlen:1≤p.funcs.length:=by
  unfold dZ at hr
  simp at hr
  exact hr.1.1.1
 have hS:=Gj (o:=o) p hlen hsz
 rw[hpV] at hS
 simp only[go_sem]
 refine am ab (fun s β ds w h=>h.1.2) rfl (by simp only[go_sem];exact hS) (by simp only[go_sem];rfl) ?_
 rintro _ rfl
 by_cases hs:iT p=0
 ·rw[if_neg (by simp[hs])] at hz
  simp only[go_sem,hs]
  refine am ab (fun s β ds w h=>h.1.2) rfl (by simp only[go_sem];exact hT) (by simp only[go_sem];rfl) ?_
  rintro _ rfl
  rw[hz]
  simp only[go_sem]
 ·rw[if_pos hs] at hz
  have hs2:¬((iT p:Nat):Int)=0:=a6
  rw[hz] at hs2 ⊢
  simp only[go_sem,hs2]
end
end Go.Proofs.YtbojbioflppbdaaGreatDoor
namespace Go.Lower
section
structure Ins where
 op:Int
 a:Int
 b:Int
 n:Int
inductive Ex where
 |mk (kind op num slot size:Int) (kids:List Ex)
inductive Stm where
 |mk (kind slot size:Int) (e:List Ex) (th el:List Stm)
abbrev Sig:=List (Int×Bool)
def within (w a n:Int):Prop:=0≤a∧0≤n∧a≤w∧n≤w-a
def callee (ps:Sig) (f:Nat) (g:Int) (args:Nat) (word:Bool):Prop:=∃k:Nat,g=(k:Int)∧k<f∧ps[k]? = some ((args:Int),word)
def okE (w:Int) (ps:Sig) (f:Nat) (lv:Int) (kind op num slot size:Int) (n:Nat):Prop:=
 lv≤24∧(kind=1∨num=0)∧(kind=6∨op=0)∧(kind=3∨size=0)∧(kind=2∨kind=3∨kind=4∨slot=0)∧
 (((kind=1∨kind=5)∧n=0)∨(kind=2∧within w slot 1∧n=0)∨(kind=3∧1≤size∧size≤4096∧within w slot size∧n=1)∨
  (kind=4∧callee ps f slot n true)∨(kind=6∧4≤op∧op≤15∧n=2)∨(kind=7∧n=1)∨((kind=8∨kind=9)∧n=2))
mutual
def rE (w:Int) (ps:Sig) (f:Nat) (lv:Int):Ex→Prop
 |.mk kind op num slot size kids=>okE w ps f lv kind op num slot size kids.length∧rEs w ps f (lv+1) kids
def rEs (w:Int) (ps:Sig) (f:Nat) (lv:Int):List Ex→Prop
 |[]=>True
 |e::l=>rE w ps f lv e∧rEs w ps f lv l
end
def okS (w:Int) (ps:Sig) (f:Nat) (word:Bool) (lv:Int) (kind slot size:Int) (n nt ne:Nat):Prop:=
 lv≤24∧(kind=2∨size=0)∧(kind=1∨kind=2∨kind=6∨slot=0)∧(kind=4∨ne=0)∧(kind=4∨kind=5∨nt=0)∧
 ((kind=1∧within w slot 1∧n=1)∨(kind=2∧1≤size∧size≤4096∧within w slot size∧n=2)∨((kind=3∨kind=4∨kind=5)∧n=1)∨
  (kind=6∧callee ps f slot n false)∨(kind=7∧(n=0∨(word=true∧n=1))))
mutual
def rS (w:Int) (ps:Sig) (f:Nat) (word:Bool) (lv:Int):Stm→Prop
 |.mk kind slot size e th el=>okS w ps f word lv kind slot size e.length th.length el.length∧rEs w ps f (lv+1) e∧rSs w ps f word (lv+1) th∧rSs w ps f word (lv+1) el
def rSs (w:Int) (ps:Sig) (f:Nat) (word:Bool) (lv:Int):List Stm→Prop
 |[]=>True
 |e::l=>rS w ps f word lv e∧rSs w ps f word lv l
end
abbrev Code:=List (Ins×Int)
def one (kind op num slot size:Int) (d:Int):Code:=
 if kind=1 then [(⟨1,0,0,num⟩,d)] else if kind=2 then [(⟨2,slot,0,0⟩,d)] else if kind=3 then [(⟨4,slot,size,0⟩,d)] else if kind=4 then [(⟨10,slot,0,0⟩,d)]
 else if kind=5 then [(⟨12,0,0,0⟩,d)] else if kind=6 then [(⟨6,op,0,0⟩,d)] else if kind=7 then [(⟨7,0,0,0⟩,d)] else []
def iY (kind d:Int):Code:=if kind=8 then [(⟨7,0,0,0⟩,d+1)] else []
def mw (at':Nat) (d kind:Int) (c0:Code) (c1:Nat→Code):Code:=
 let r:=at'+c0.length+(iY kind d).length
 c0++(iY kind d++((⟨9,(r+3:Nat),0,0⟩,d+1)::(⟨1,0,0,if kind=8 then 0 else 1⟩,d)::(⟨8,(r+3+(c1 (r+3)).length+2:Nat),0,0⟩,d+1)::(c1 (r+3)++[(⟨7,0,0,0⟩,d+1),(⟨7,0,0,0⟩,d+1)])))
mutual
def cE (at':Nat) (d:Int):Ex→Code
 |.mk kind op num slot size kids=>
   if kind=8∨kind=9 then cAO at' d kind kids
   else cEs at' d kids++one kind op num slot size (d+kids.length)
def cEs (at':Nat) (d:Int):List Ex→Code
 |[]=>[]
 |e::l=>cE at' d e++cEs (at'+(cE at' d e).length) (d+1) l
def cAO (at':Nat) (d kind:Int):List Ex→Code
 |[]=>[]
 |e::l=>mw at' d kind (cE at' d e) (fun r=>mW r d l)
def mW (at':Nat) (d:Int):List Ex→Code
 |[]=>[]
 |e::_=>cE at' d e
end
def takes (ps:Sig) (word:Bool) (x:Ins):Option (Int×Int):=
 if x.op=1∨x.op=2∨x.op=12 then some (0,1) else if x.op=3∨x.op=9∨x.op=13 then some (1,0) else if x.op=4∨x.op=7 then some (1,1)
 else if x.op=5 then some (2,0) else if x.op=6 then some (2,1) else if x.op=8 then some (0,0)
 else if x.op=10 then(if x.a<0 then none else(ps[x.a.toNat]?).map fun p=>(p.1,if p.2 then 1 else 0))
 else if x.op=11 then some (if word then(1,0) else(0,0)) else none
def next (x:Ins) (at':Nat):List Int:=if x.op=8 then [x.a] else if x.op=9 then [((at'+1:Nat):Int),x.a] else if x.op=11 then [] else [((at'+1:Nat):Int)]
def OkI (ps:Sig) (word:Bool) (T:Nat→Option Int) (at':Nat) (x:Ins) (d:Int):Prop:=
 ∃t p,takes ps word x=some (t,p)∧0≤t∧t≤d∧(x.op=11→d=t)∧∀k∈next x at',∃k':Nat,k=(k':Int)∧T k'=some (d-t+p)
def Seg (T:Nat→Option Int):Nat→Code→Prop
 |_,[]=>True
 |at',(_,d)::c=>T at'=some d∧Seg T (at'+1) c
def Good (ps:Sig) (word:Bool) (T:Nat→Option Int):Nat→Code→Prop
 |_,[]=>True
 |at',(x,d)::c=>OkI ps word T at' x d∧Good ps word T (at'+1) c
theorem fL {T:Nat→Option Int}:∀{a b:Code}{at':Nat},Seg T at' (a++b)↔Seg T at' a∧Seg T (at'+a.length) b
 |[],b,at'=>by simp[Seg]
 |(x,d)::a,b,at'=>by simp only[A0,Seg,fL (a:=a),j6,and_assoc];rw[show at'+(a.length+1)=at'+1+a.length by omega]
theorem eM {ps:Sig}{word:Bool}{T:Nat→Option Int}:∀{a b:Code}{at':Nat},Good ps word T at' (a++b)↔Good ps word T at' a∧Good ps word T (at'+a.length) b
 |[],b,at'=>by simp[Good]
 |(x,d)::a,b,at'=>by simp only[A0,Good,eM (a:=a),j6,and_assoc];rw[show at'+(a.length+1)=at'+1+a.length by omega]
end
end Go.Lower
namespace Go.Src
section
open Go.Asm (Str)
abbrev Pl:=List (Str×Int×Int)
def iw:Pl→Str→Option (Int×Int)
 |[],_=>none
 |t::l,s=>if t.1=s then some t.2 else iw l s
def cQ (o i:Pl) (s:Str):Int×Int:=match iw i s with|some x=>x|none=>(iw o s).getD (0,0)
mutual
def fG (o i:Pl):Ex→Lower.Ex
 |.mk kind op num name kids=>.mk kind op num (cQ o i name).1 (cQ o i name).2 (dq o i kids)
def dq (o i:Pl):List Ex→List Lower.Ex
 |[]=>[]
 |e::l=>fG o i e::dq o i l
end
theorem jI (o i:Pl):∀l:List Ex,dq o i l=l.map (fG o i)
 |[]=>by simp[dq]
 |e::l=>by simp[dq,jI o i l]
mutual
def coreS (o i:Pl):Stm→Lower.Stm
 |.mk kind name e th el=>.mk kind (cQ o i name).1 (cQ o i name).2 (dq o i e) (cR o i th) (cR o i el)
def cR (o i:Pl):List Stm→List Lower.Stm
 |[]=>[]
 |s::l=>coreS o i s::cR o i l
end
theorem jJ (o i:Pl):∀l:List Stm,cR o i l=l.map (coreS o i)
 |[]=>by simp[cR]
 |e::l=>by simp[cR,jJ o i l]
structure CFn where
 params:Int
 slots:Int
 first:Int
 word:Bool
 body:List Lower.Stm
def gV:List Str→Pl→Int→Pl×Int
 |[],m,w=>(m,w)
 |n::l,m,w=>gV l ((n,w,0)::m) (w+1)
def gA:List (Str×Int)→Pl→Int→Pl×Int
 |[],m,w=>(m,w)
 |a::l,m,w=>gA l ((a.1,w,a.2)::m) (w+a.2)
def gF:Nat→List Fn→Pl→Pl
 |_,[],m=>m
 |i,f::l,m=>gF (i+1) l ((f.name,(i:Int),0)::m)
def aV (p:Prog):Pl×Int:=
 (gF 0 p.funcs (gA p.arrays (gV p.vars [] 0).1 (gV p.vars [] 0).2).1,(gA p.arrays (gV p.vars [] 0).1 (gV p.vars [] 0).2).2)
def lP (w:Int):Nat→List Str→Pl→Pl
 |_,[],m=>m
 |i,n::l,m=>lP w (i+1) l ((n,w+i,0)::m)
def mz (o:Pl) (f:Fn) (w:Int):CFn:=
 ⟨f.params.length,f.params.length+f.locals.length,w,f.word,cR o (lP (w+f.params.length) 0 f.locals (lP w 0 f.params [])) f.body⟩
def da (o:Pl):List Fn→Int→List CFn×Int
 |[],w=>([],w)
 |f::l,w=>(mz o f w::(da o l (w+(f.params.length+f.locals.length))).1,(da o l (w+(f.params.length+f.locals.length))).2)
structure Core where
 words:Int
 funcs:List CFn
def ao (p:Prog):Core:=⟨(da (aV p).1 p.funcs (aV p).2).2,(da (aV p).1 p.funcs (aV p).2).1⟩
def gk (p:Prog):Core×Nat:=
 if ct p≠0 then(⟨0,[]⟩,ct p) else if 32768<(ao p).words then(⟨0,[]⟩,2) else(ao p,0)
end
end Go.Src

/- A part of the proof; no conditions. -/
import Derived.Test.YtgiigidgdhplfaaGreatDoorPart14
set_option linter.unusedSimpArgs false
set_option linter.unusedVariables false
set_option maxHeartbeats 64000000
set_option maxRecDepth 100000
namespace Go.Proofs.YtgiigidgdhplfaaGreatDoor
section
attribute [local congr] Go.Am.ite_cc
open Go Go.Am Go.Asm
open Go.Src (Ex Stm szE bF szS bu cl kG kH eb iU di)
section
def wP (M:List C) (fs:List Src.Fn):Prop:=∀s:Str,mget M (.str s)=(cl fs s).map fun f=>.d (.iptr (fnD f))
def BN (gr gm:Nat):List C:=[.mp 1010 gm 208,.d .nilf,.d (.fn 184),.d (.fn 184),.clo (186+1000000) [.ptr 1012 gr 0],.clo (187+1000000) [.ptr 1012 gr 0],.d (.fn 184),.clo (188+1000000) [.ptr 1012 gr 0],.clo (185+1000000) [.ptr 1012 gr 0],.clo (185+1000000) [.ptr 1012 gr 0],.clo (185+1000000) [.ptr 1012 gr 0]]
structure vz (fs:List Src.Fn) (gr gm:Nat) (g:Nat→Nat) (ob:Obs):Prop where
 or:ob 1012=some (BN gr gm)
 om:∃M,ob 1010=some M∧wP M fs
 gr:g 1012=gr
 gm:g 1010=gm
variable {kind op num:Int}{name:Str}{kids:List Ex}{fs:List Src.Fn}{K:St→Prop}{args:Array Operand}{tys:Array TypeId}{xs:List AV}{gr gm:Nat}
theorem vz.mono{gr gm B:Nat}{g g':Nat→Nat}{ob ob':Obs} (h:vz fs gr gm g ob) (hB:2000≤B) (hs:∀i,i<B→g' i=g i∧ob' i=ob i):vz fs gr gm g' ob' where
 or:=by rw[(hs 1012 a6).2];exact h.or
 om:=by rw[(hs 1010 a6).2];exact h.om
 gr:=by rw[(hs 1012 a6).1];exact h.gr
 gm:=by rw[(hs 1010 a6).1];exact h.gm
def iY (fs:List Src.Fn) (gr gm:Nat) (f:FuncId) (xs:List AV) (r:AV):Prop:=∀(B:Nat) (g:Nat→Nat) (ob:Obs),2000≤B→(∀i,B≤i→ob i=none)→vz fs gr gm g ob→
 cB Tryz.prog f (.one (.ptr 1012 gr 0)::xs) g ob (fun r' g' ob'=>g'=g∧ob'=ob∧r'=r) (fun _ _ _=>False)
section
variable {b₀:Bs}{rd:Option Nat}{Φ:St→Am.Loc→List Deferred→World→Prop}
theorem bI {Ψ:fj}{B0:Nat} (hΦ:aQ b₀ Φ) {o:Oper}{s:St}{k:Box K}{f:FuncId} (ho:o.op=.call ⟨.value (.func f),args,tys⟩){r:AV}
  (hr:iY fs gr gm f xs r) (hx:args.toList.map s.ev=.one (.ptr 1012 gr 0)::xs) (Bc:Nat) (hB:2000≤Bc) (hfree:∀i,Bc≤i→s.obj i=none) (E:vz fs gr gm s.gen s.obj) (hk:K (s.put o.dst r)):aR (spF Tryz.prog rd b₀ Φ B0 Ψ) o s k:=by
 refine bq (R:=fun r' g' ob'=>g'=s.gen∧ob'=s.obj∧r'=r) (Ψ0:=fun _ _ _=>False) hΦ ho (by rw[hx];exact hr Bc s.gen s.obj hB hfree E) (fun _ _ _ h=>h.elim) ?_
 rintro _ g' ob' ⟨rfl,rfl,rfl⟩
 exact hk
theorem jp {Ψ:fj}{B0:Nat} (hΦ:aQ b₀ Φ) {o:Oper}{s:St}{k:Box K}{t:Nat} (ho:o.op=.call ⟨.value (.tmp t),args,tys⟩) {f:FuncId}{r:AV} (hf:s.f t=.one (.clo (f+1000000) [.ptr 1012 gr 0]))
  (hr:iY fs gr gm f xs r) (hx:args.toList.map s.ev=xs) (Bc:Nat) (hB:2000≤Bc) (hfree:∀i,Bc≤i→s.obj i=none) (E:vz fs gr gm s.gen s.obj) (hk:K (s.put o.dst r)):aR (spF Tryz.prog rd b₀ Φ B0 Ψ) o s k:=by
 refine yu (R:=fun r' g' ob'=>g'=s.gen∧ob'=s.obj∧r'=r) (Ψ0:=fun _ _ _=>False) hΦ ho hf (by rw[hx];exact hr Bc s.gen s.obj hB hfree E) (fun _ _ _ h=>h.elim) ?_
 rintro _ g' ob' ⟨rfl,rfl,rfl⟩
 exact hk
end
theorem yN (e:Ex):aG Tryz.prog 184 [exV e] (· = iv .i64 1):=by
 obtain⟨kind,op,num,name,kids⟩:=e
 refine hdP Tryz.func184 rfl [2] fun g=>?_
 unfold exV
 simp only[exD,l7,v8]
 exact VU
section
variable {fs:List Src.Fn}{gr gm:Nat}
theorem yO (h:iY fs gr gm 190 [jd kids,iv .i64 2] (bv (eb fs 2 kids))):iY fs gr gm 185 [exV (.mk kind op num name kids)] (iv .i64 (if eb fs 2 kids then 2 else 0)):=by
 intro B g ob hB hf E
 refine hdM B [] Tryz.func185 rfl [.tmp 4] a7 hf fun b₀ β0 s0 w0=>?_
 unfold exV
 simp only[exD,aZ,l7,v8]
 simp only[go_sem]
 refine bI aa rfl h XX (B+20) a6 (fun i hi=>nt (hf i a6)) (E.mono hB fun i hi=>⟨nu,nu⟩) ?_
 simp only[go_sem]
 cases eb fs 2 kids
 ·simp only[go_sem]
  exact Ve
 ·simp only[go_sem]
  exact VY
theorem HR (h:iY fs gr gm 190 [jd kids,iv .i64 1] (bv (eb fs 1 kids))):iY fs gr gm 186 [exV (.mk kind op num name kids)] (iv .i64 (if eb fs 1 kids then 1 else 0)):=by
 intro B g ob hB hf E
 refine hdM B [] Tryz.func186 rfl [.tmp 4] a7 hf fun b₀ β0 s0 w0=>?_
 unfold exV
 simp only[exD,aZ,l7,v8]
 simp only[go_sem]
 exact VI
theorem Uf (h:iY fs gr gm 190 [jd kids,iv .i64 1] (bv (eb fs 1 kids))):iY fs gr gm 188 [exV (.mk kind op num name kids)] (iv .i64 (if eb fs 1 kids then(if op=14∨op=15 then 2 else 1) else 0)):=by
 intro B g ob hB hf E
 refine hdM B [] Tryz.func188 rfl [.tmp 4] a7 hf fun b₀ β0 s0 w0=>?_
 unfold exV
 simp only[exD,aZ,l7,v8]
 simp only[go_sem]
 refine bI aa rfl h XX (B+20) a6 (fun i hi=>nt (hf i a6)) (E.mono hB fun i hi=>⟨nu,nu⟩) ?_
 simp only[go_sem]
 cases eb fs 1 kids
 ·simp only[go_sem]
  exact Ve
 by_cases h1:op=14
 ·rw[if_pos rfl,if_pos (.inl h1)]
  simp only[go_sem,s5 h1]
  exact VY
 by_cases h2:op=15
 ·rw[if_pos rfl,if_pos (.inr h2)]
  simp only[go_sem,h1,s5 h2]
  exact VY
 ·rw[if_pos rfl,if_neg a6]
  simp only[go_sem,h1,h2]
  refine⟨_,ab.refl _,?_⟩
  simp only[go_sem]
  exact aT.nil (fun i hi=>⟨nu,nu⟩) (rs':=[iv .i64 1]) ⟨_,_,rfl,.one (.d _),rfl⟩ ⟨rfl,rfl,rfl⟩
theorem LY (h:iY fs gr gm 190 [jd kids,iv .i64 1] (bv (eb fs 1 kids))):iY fs gr gm 187 [exV (.mk kind op num name kids)] (iv .i64 (if kG fs name && eb fs 1 kids then 1 else 0)):=by
 intro B g ob hB hf E
 refine hdM B [] Tryz.func187 rfl [.tmp 4] a7 hf fun b₀ β0 s0 w0=>?_
 have E1:=E
 obtain⟨or,⟨M,om,mM⟩,hgr,hgm⟩:=E1
 have n1:∀k,(1012=B+k)=False:=fun k=>by simp;omega
 have n2:∀k,(1010=B+k)=False:=fun k=>by simp;omega
 have mo1:=mM name
 unfold exV
 unfold BN at or
 unfold kG
 simp only[exD,aZ,l7,v8]
 simp only[go_sem]
 refine aJ b9 ?_
 cases hff:cl fs name with
 |none=>
   rw[hff] at mo1
   simp only[G7] at mo1
   simp only[go_sem,n1,n2,or,hgr,hgm,om,mo1,C8]
   simp only[z6,B8,A4]
   exact Ve
 |some x=>
   obtain⟨nm,ps,ls,wd,body⟩:=x
   rw[hff] at mo1
   simp only[x8,fnD] at mo1
   cases wd
   ·simp only[go_sem,n1,n2,or,hgr,hgm,om,mo1,B3]
    simp only[z6,B8,A4]
    exact Ve
   ·simp only[go_sem,n1,n2,or,hgr,hgm,om,mo1,B3]
    exact VI
end
end
section
section
variable {fs:List Src.Fn}{gr gm:Nat}
theorem EB {kind op num:Int}{name:Str}{kids:List Ex} (h:∀t:Int,iY fs gr gm 190 [jd kids,iv .i64 t] (bv (eb fs t kids))):iY fs gr gm 205 [exV (.mk kind op num name kids)] (iv .i64 (kH fs (.mk kind op num name kids))):=by
 intro B g ob hB hf E
 refine hdM B [] Tryz.func205 rfl [.tmp 4] a7 hf fun b₀ β0 s0 w0=>?_
 have E1:=E
 obtain⟨or,⟨M,om,mM⟩,hgr,hgm⟩:=E1
 have n1:∀k,(1012=B+k)=False:=fun k=>by simp;omega
 have hex:exV (.mk kind op num name kids)=.agg [.d (.int .i64 kind),.d (.int .i64 op),.d (.int .u32 num),.d (.str name),.d (.sl (kids.map exD))]:=by unfold exV;simp only[exD,aZ,l7,v8]
 rw[hex]
 unfold BN at or
 obtain⟨z,hz⟩:∃z,kH fs (.mk kind op num name kids)=z:=⟨_,rfl⟩
 rw[hz]
 rw[kH] at hz
 by_cases h1:kind<1
 ·rw[if_pos (.inl h1)] at hz
  subst hz
  simp only[go_sem,s5 h1]
  exact Ve
 by_cases h2:9<kind
 ·rw[if_pos (.inr h2)] at hz
  subst hz
  simp only[go_sem,h1,s5 h2]
  exact Ve
 rw[if_neg a6] at hz
 simp only[go_sem,h1,h2]
 refine aJ b9 ?_
 obtain h|h|h|h|h|h|h|h|h:kind=1∨kind=2∨kind=3∨kind=4∨kind=5∨kind=6∨kind=7∨kind=8∨kind=9:=a6
 all_goals subst h
 all_goals simp only[go_sem,n1,or,hgr]
 ·rw[if_pos a6] at hz
  subst hz
  refine pd aa rfl (f:=184) XP YT XX ?_
  rintro _ rfl
  simp only[go_sem]
  refine⟨_,ab.refl _,?_⟩
  simp only[go_sem]
  exact aT.nil (fun i hi=>⟨nu,nu⟩) (rs':=[iv .i64 _]) ⟨_,_,rfl,.one (.d _),rfl⟩ ⟨rfl,rfl,rfl⟩
 ·rw[if_pos a6] at hz
  subst hz
  refine pd aa rfl (f:=184) XP YT XX ?_
  rintro _ rfl
  simp only[go_sem]
  refine⟨_,ab.refl _,?_⟩
  simp only[go_sem]
  exact aT.nil (fun i hi=>⟨nu,nu⟩) (rs':=[iv .i64 _]) ⟨_,_,rfl,.one (.d _),rfl⟩ ⟨rfl,rfl,rfl⟩
 ·rw[if_neg a6,if_pos a6] at hz
  subst hz
  refine jp aa rfl (f:=186) XP (HR (h 1)) Yt (B+30) a6 (fun i hi=>nt (hf i a6)) (E.mono hB fun i hi=>⟨nu,nu⟩) ?_
  simp only[go_sem]
  refine⟨_,ab.refl _,?_⟩
  simp only[go_sem]
  exact aT.nil (fun i hi=>⟨nu,nu⟩) (rs':=[iv .i64 _]) ⟨_,_,rfl,.one (.d _),rfl⟩ ⟨rfl,rfl,rfl⟩
 ·rw[if_neg a6,if_neg a6,if_pos a6] at hz
  subst hz
  refine jp aa rfl (f:=187) XP (LY (h 1)) Yt (B+30) a6 (fun i hi=>nt (hf i a6)) (E.mono hB fun i hi=>⟨nu,nu⟩) ?_
  simp only[go_sem]
  refine⟨_,ab.refl _,?_⟩
  simp only[go_sem]
  exact aT.nil (fun i hi=>⟨nu,nu⟩) (rs':=[iv .i64 _]) ⟨_,_,rfl,.one (.d _),rfl⟩ ⟨rfl,rfl,rfl⟩
 ·rw[if_pos a6] at hz
  subst hz
  refine pd aa rfl (f:=184) XP YT XX ?_
  rintro _ rfl
  simp only[go_sem]
  refine⟨_,ab.refl _,?_⟩
  simp only[go_sem]
  exact aT.nil (fun i hi=>⟨nu,nu⟩) (rs':=[iv .i64 _]) ⟨_,_,rfl,.one (.d _),rfl⟩ ⟨rfl,rfl,rfl⟩
 ·rw[if_neg a6,if_neg a6,if_neg a6,if_pos a6] at hz
  subst hz
  refine jp aa rfl (f:=188) XP (Uf (h 1)) Yt (B+30) a6 (fun i hi=>nt (hf i a6)) (E.mono hB fun i hi=>⟨nu,nu⟩) ?_
  simp only[go_sem]
  refine⟨_,ab.refl _,?_⟩
  simp only[go_sem]
  exact aT.nil (fun i hi=>⟨nu,nu⟩) (rs':=[iv .i64 _]) ⟨_,_,rfl,.one (.d _),rfl⟩ ⟨rfl,rfl,rfl⟩
 ·rw[if_neg a6,if_neg a6,if_neg a6,if_neg a6] at hz
  subst hz
  refine jp aa rfl (f:=185) XP (yO (h 2)) Yt (B+30) a6 (fun i hi=>nt (hf i a6)) (E.mono hB fun i hi=>⟨nu,nu⟩) ?_
  simp only[go_sem]
  refine⟨_,ab.refl _,?_⟩
  simp only[go_sem]
  exact aT.nil (fun i hi=>⟨nu,nu⟩) (rs':=[iv .i64 _]) ⟨_,_,rfl,.one (.d _),rfl⟩ ⟨rfl,rfl,rfl⟩
 ·rw[if_neg a6,if_neg a6,if_neg a6,if_neg a6] at hz
  subst hz
  refine jp aa rfl (f:=185) XP (yO (h 2)) Yt (B+30) a6 (fun i hi=>nt (hf i a6)) (E.mono hB fun i hi=>⟨nu,nu⟩) ?_
  simp only[go_sem]
  refine⟨_,ab.refl _,?_⟩
  simp only[go_sem]
  exact aT.nil (fun i hi=>⟨nu,nu⟩) (rs':=[iv .i64 _]) ⟨_,_,rfl,.one (.d _),rfl⟩ ⟨rfl,rfl,rfl⟩
 ·rw[if_neg a6,if_neg a6,if_neg a6,if_neg a6] at hz
  subst hz
  refine jp aa rfl (f:=185) XP (yO (h 2)) Yt (B+30) a6 (fun i hi=>nt (hf i a6)) (E.mono hB fun i hi=>⟨nu,nu⟩) ?_
  simp only[go_sem]
  refine⟨_,ab.refl _,?_⟩
  simp only[go_sem]
  exact aT.nil (fun i hi=>⟨nu,nu⟩) (rs':=[iv .i64 _]) ⟨_,_,rfl,.one (.d _),rfl⟩ ⟨rfl,rfl,rfl⟩
theorem Rp:∀(N:Nat) (l:List Ex) (t:Int),bF l≤N→N≤1000000000→iY fs gr gm 190 [jd l,iv .i64 t] (bv (eb fs t l)):=by
 intro N
 induction N using Nat.strongRecOn with
 |ind N ih=>
 intro l t hszl hN B g ob hB hf E
 refine hdM B [] Tryz.func190 rfl [.tmp 6] a7 hf fun b₀ β0 s0 w0=>?_
 obtain⟨z,hz⟩:∃z,eb fs t l=z:=⟨_,rfl⟩
 rw[hz]
 have hll:=Src.FZ l
 unfold jd
 simp only[go_sem,j5]
 refine ai (fun m st=>∃k:Nat,m+k=l.length∧eb fs t (l.drop k)=z∧st.f 0=.one (.ptr 1012 gr 0)∧st.f 2=iv .i64 t∧st.f 9=.one (.d (.sl (l.map exD)))∧st.f 10=iv .i64 l.length∧st.f 11=iv .i64 k∧(∀j,j<B→st.gen j=g j∧st.obj j=ob j)∧(∀j,B+21≤j→st.obj j=none)) l.length ?_ ?_
 ·exact XE
 rintro m f g1 ob1 ⟨k,hk,hza,q0,q2,q9,q10,q11,fr,hfr⟩
 simp only at q0 q2 q9 q10 q11 fr hfr
 have hw:=ah (k:=k) a6
 by_cases hlt:k<l.length
 case neg=>
  have hki:¬(k:Int)<(l.length:Int):=a6
  obtain rfl:k=l.length:=a6
  rw[E3,eb] at hza
  exact Vl
 have hki:(k:Int)<(l.length:Int):=a6
 have hk0:(0:Int)≤(k:Int):=a6
 obtain⟨e,he⟩:=getq hlt
 have hsze:=Src.Jq (l6 he)
 have hdr:l.drop k=e::l.drop (k+1):=by rw[A0 hlt,(l4.1 he).2]
 rw[hdr,eb] at hza
 obtain⟨kind,op,num,name,kids⟩:=e
 rw[szE] at hsze
 have hty:=EB (fs:=fs) (gr:=gr) (gm:=gm) (kind:=kind) (op:=op) (num:=num) (name:=name) (kids:=kids) fun t=>ih (bF kids) a6 kids t (l0 _) a6
 obtain⟨y,hy⟩:∃y,kH fs (.mk kind op num name kids)=y:=⟨_,rfl⟩
 rw[hy] at hza hty
 have hE:exD (.mk kind op num name kids)=[.int .i64 kind,.int .i64 op,.int .u32 num,.str name,.sl (kids.map exD)]:=by simp only[exD,aZ]
 simp only[go_sem,q0,q2,q9,q10,q11,hki,hk0,he,hE]
 refine bI aa rfl hty (by simp only[go_sem,exV,hE,l7,v8]) (B+21) a6 (fun i hi=>nt (hfr i a6)) ((E.mono hB fr).mono hB fun i hi=>⟨nu,nu⟩) ?_
 by_cases hyt:y=t
 ·rw[E0 hyt,w7] at hza
  simp only[go_sem,q2,s5 hyt,q11,hw]
  refine ae (m-1) a6 ⟨k+1,a6,hza,?_⟩
  simp only[go_sem,q0,q2,q9,q10]
  exact⟨fun j hj=>⟨nt ((fr j hj).1),nt ((fr j hj).2)⟩,fun j hj=>nt (hfr j hj)⟩
 ·rw[y9 hyt,z6] at hza
  subst hza
  simp only[go_sem,q2,hyt]
  exact VN
end
end
end
section
attribute [local congr] Go.Am.ite_cc
open Go Go.Am Go.Asm
open Go.Src (Ex Stm szE bF szS bu cl kG kH eb iU di vQ dj)
section
section
variable {fs:List Src.Fn}{gr gm:Nat}
theorem AA:∀(N:Nat) (e:Ex),szE e≤N→N≤1000000000→iY fs gr gm 189 [exV e] (bv (iU fs e)):=by
 intro N
 induction N using Nat.strongRecOn with
 |ind N ih=>
 intro e hsze hN B g ob hB hf E
 refine hdM B [] Tryz.func189 rfl [.tmp 4] a7 hf fun b₀ β0 s0 w0=>?_
 have E1:=E
 obtain⟨or,⟨M,om,mM⟩,hgr,hgm⟩:=E1
 unfold BN at or
 have n1:∀k,(1012=B+k)=False:=fun k=>by simp;omega
 have n2:∀k,(1010=B+k)=False:=fun k=>by simp;omega
 obtain⟨kind,op,num,name,kids⟩:=e
 obtain⟨z,hz⟩:∃z,iU fs (.mk kind op num name kids)=z:=⟨_,rfl⟩
 rw[hz]
 rw[iU] at hz
 rw[szE] at hsze
 have hll:=Src.FZ kids
 have mo1:=mM name
 have hex:exV (.mk kind op num name kids)=.agg [.d (.int .i64 kind),.d (.int .i64 op),.d (.int .u32 num),.d (.str name),.d (.sl (kids.map exD))]:=by unfold exV;simp only[exD,aZ,l7,v8]
 rw[hex]
 by_cases h4:kind=4
 ·rw[if_pos h4] at hz
  simp only[go_sem,s5 h4]
  refine kl (B:=B) aB mixed aa [B+5] [([0],[0],[],false),([13],[0],[],false),([14],[0],[],false),([15],[0],[],false),([3],[0],[],false),([17],[0],[],false),([16,18],[0],[],false),([19],[0],[],false),([12],[0],[],false),([12],[0],[],false),([],[],[0],false),([5,20],[],[0],false),([21],[],[],true)] 1 rfl b9 rfl a7 ?_
  simp only[go_sem]
  cases hff:cl fs name with
  |none=>
    rw[hff] at mo1 hz
    simp only[G7] at mo1
    simp only[C8,z6] at hz
    subst hz
    iterate 10 (apply aw;· (intro fa ga oa K' hK;simp only[go_sem,n1,n2,or,hgr,hgm,om,mo1,C8] at hK ⊢;exact hK))
    (apply bJ;· (intro fa ga oa K' hK;simp only[go_sem] at hK ⊢;exact hK))
    (apply ig;(focus simp);(focus (intro fa ga oa K' hK;simp only[go_sem] at hK ⊢;exact hK)))
    apply bG
    intro K' hK'
    simp only[go_sem]
    refine hK' _ ?_
    clear hK' K'
    simp only[go_sem]
    refine⟨_,ab.refl _,?_⟩
    simp only[go_sem]
    exact aT.nil (fun i hi=>⟨nu,nu⟩) (rs':=[bv false]) ⟨_,_,rfl,.one (.d _),rfl⟩ ⟨rfl,rfl,rfl⟩
  |some x=>
    obtain⟨nm,ps,ls,wd,body⟩:=x
    rw[hff] at mo1 hz
    simp only[x8,fnD] at mo1
    simp only[B3,w7] at hz
    iterate 10 (apply aw;· (intro fa ga oa K' hK;simp only[go_sem,n1,n2,or,hgr,hgm,om,mo1,B3] at hK ⊢;exact hK))
    (apply bJ;· (intro fa ga oa K' hK;simp only[go_sem] at hK ⊢;exact hK))
    (apply ig;(focus simp);(focus (intro fa ga oa K' hK;simp only[go_sem] at hK ⊢;exact hK)))
    apply bG
    intro K' hK'
    simp only[go_sem]
    refine hK' _ ?_
    clear hK' K'
    simp only[go_sem,j5]
    refine ai (fun m st=>∃k:Nat,m+k=kids.length∧di fs (kids.drop k)=z∧st.f 0=.one (.ptr 1012 gr 0)∧st.f 25=.one (.d (.sl (kids.map exD)))∧st.f 26=iv .i64 kids.length∧st.f 27=iv .i64 k∧(∀j,j<B→st.gen j=g j∧st.obj j=ob j)∧(∀j,B+36≤j→st.obj j=none)) kids.length ?_ ?_
    ·exact W5
    exact Xm
 rw[if_neg h4,w7] at hz
 simp only[go_sem,h4,j5]
 refine ai (fun m st=>∃k:Nat,m+k=kids.length∧di fs (kids.drop k)=z∧st.f 0=.one (.ptr 1012 gr 0)∧st.f 25=.one (.d (.sl (kids.map exD)))∧st.f 26=iv .i64 kids.length∧st.f 27=iv .i64 k∧(∀j,j<B→st.gen j=g j∧st.obj j=ob j)∧(∀j,B+36≤j→st.obj j=none)) kids.length ?_ ?_
 ·refine⟨0,rfl,by rw[C1];exact hz,?_⟩
  simp only[go_sem]
  first|exact fun j hj=>hf j (by omega)|exact⟨fun j hj=>⟨nu,nu⟩,fun j hj=>nt (hf j (by omega))⟩
 exact Xm
end
end
section
section
variable {fs:List Src.Fn}{gr gm:Nat}
theorem yP:∀(N:Nat) (l:List Stm),bu l≤N→N≤1000000000→iY fs gr gm 133 [jy l] (bv (dj fs l)):=by
 intro N
 induction N using Nat.strongRecOn with
 |ind N ih=>
 intro l hszl hN B g ob hB hf E
 refine hdM B [] Tryz.func133 rfl [.tmp 4] a7 hf fun b₀ β0 s0 w0=>?_
 have n1:∀k,(1012=B+k)=False:=fun k=>by simp;omega
 have n2:∀k,(1010=B+k)=False:=fun k=>by simp;omega
 obtain⟨z,hz⟩:∃z,dj fs l=z:=⟨_,rfl⟩
 rw[hz]
 have hll:=Src.Ga l
 unfold jy
 simp only[go_sem,j5]
 refine ai (fun m st=>∃k:Nat,m+k=l.length∧dj fs (l.drop k)=z∧st.f 0=.one (.ptr 1012 gr 0)∧st.f 11=.one (.d (.sl (l.map smD)))∧st.f 12=iv .i64 l.length∧st.f 13=iv .i64 k∧(∀j,j<B→st.gen j=g j∧st.obj j=ob j)∧(∀j,B+57≤j→st.obj j=none)) l.length ?_ ?_
 ·exact XE
 rintro m f g1 ob1 ⟨k,hk,hza,q0,q9,q10,q11,fr,hfr⟩
 simp only at q0 q9 q10 q11 fr hfr
 have E1:=E.mono hB fr
 obtain⟨or,⟨M,om,mM⟩,hgr,hgm⟩:=E1
 unfold BN at or
 have hw:=ah (k:=k) a6
 by_cases hlt:k<l.length
 case neg=>
  have hki:¬(k:Int)<(l.length:Int):=a6
  obtain rfl:k=l.length:=a6
  rw[E3,dj] at hza
  exact Vl
 have hki:(k:Int)<(l.length:Int):=a6
 have hk0:(0:Int)≤(k:Int):=a6
 obtain⟨e,he⟩:=getq hlt
 have hsze:=Src.Jr (l6 he)
 have hdr:l.drop k=e::l.drop (k+1):=by rw[A0 hlt,(l4.1 he).2]
 rw[hdr,dj] at hza
 obtain⟨kind,name,es,th,el⟩:=e
 rw[vQ] at hza
 rw[szS] at hsze
 have hle:=Src.FZ es
 have mo1:=mM name
 have hE:smD (.mk kind name es th el)=[.int .i64 kind,.str name,.sl (es.map exD),.sl (th.map smD),.sl (el.map smD)]:=by simp only[smD,aZ,ft]
 have hth:=ih (bu th) a6 th (l0 _) a6
 have hel:=ih (bu el) a6 el (l0 _) a6
 obtain⟨yt,hyt⟩:∃y,dj fs th=y:=⟨_,rfl⟩
 obtain⟨ye,hye⟩:∃y,dj fs el=y:=⟨_,rfl⟩
 rw[hyt] at hza hth
 rw[hye] at hza hel
 by_cases h4:kind=6
 ·rw[if_pos h4] at hza
  simp only[go_sem,q0,q9,q10,q11,hki,hk0,he,hE,s5 h4]
  refine kl (B:=B) aB mixed aa [B+7] [([0],[0],[],false),([21],[0],[],false),([22],[0],[],false),([23],[0],[],false),([6],[0],[],false),([25],[0],[],false),([24,26],[0],[],false),([27],[0],[],false),([20],[0],[],false),([20],[0],[],false),([],[],[0],false),([7,28],[],[0],false),([29],[],[],true)] 1 rfl b9 rfl a7 ?_
  simp only[go_sem]
  cases hff:cl fs name with
  |none=>
    rw[hff] at mo1 hza
    simp only[G7] at mo1
    simp only[C8,z6] at hza
    subst hza
    iterate 10 (apply aw;· (intro fa ga oa K' hK;simp only[go_sem,q0,n1,n2,or,hgr,hgm,om,mo1,C8] at hK ⊢;exact hK))
    (apply bJ;· (intro fa ga oa K' hK;simp only[go_sem] at hK ⊢;exact hK))
    (apply ig;(focus simp);(focus (intro fa ga oa K' hK;simp only[go_sem] at hK ⊢;exact hK)))
    apply bG
    intro K' hK'
    simp only[go_sem]
    refine hK' _ ?_
    clear hK' K'
    exact U5
  |some x=>
    obtain⟨nm,ps,ls,wd,body⟩:=x
    rw[hff] at mo1 hza
    simp only[x8,fnD] at mo1
    simp only[B3,w7] at hza
    iterate 10 (apply aw;· (intro fa ga oa K' hK;simp only[go_sem,q0,n1,n2,or,hgr,hgm,om,mo1,B3] at hK ⊢;exact hK))
    (apply bJ;· (intro fa ga oa K' hK;simp only[go_sem] at hK ⊢;exact hK))
    (apply ig;(focus simp);(focus (intro fa ga oa K' hK;simp only[go_sem] at hK ⊢;exact hK)))
    apply bG
    intro K' hK'
    simp only[go_sem]
    refine hK' _ ?_
    clear hK' K'
    simp only[go_sem,n1,n2,j5]
    exact Vu
 rw[if_neg h4,w7] at hza
 simp only[go_sem,q0,q9,q10,q11,hki,hk0,he,hE,h4,j5]
 exact Vu
end
end
end
section
attribute [local congr] Go.Am.ite_cc
open Go Go.Am Go.Asm
open Go.Src (Ex Stm szE bF szS bu cl kG kH eb pQ cJ)
section
section
variable {fs:List Src.Fn}{gr gm:Nat}
theorem yQ (F:Src.Fn):∀(N:Nat) (l:List Stm),bu l≤N→N≤1000000000→iY fs gr gm 134 [fnV F,jy l] (bv (cJ fs F.word l)):=by
 obtain⟨fnm,fps,fls,w,fbody⟩:=F
 intro N
 induction N using Nat.strongRecOn with
 |ind N ih=>
 intro l hszl hN B g ob hB hf E
 refine hdM B [] Tryz.func134 rfl [.tmp 6] a7 hf fun b₀ β0 s0 w0=>?_
 have n1:∀k,(1012=B+k)=False:=fun k=>by simp;omega
 have n2:∀k,(1010=B+k)=False:=fun k=>by simp;omega
 have hfV:fnV ⟨fnm,fps,fls,w,fbody⟩=.agg [.d (.str fnm),.d (.sl (fps.map fun s=>[.str s])),.d (.sl (fls.map fun s=>[.str s])),.d (.bool w),.d (.sl (fbody.map smD))]:=rfl
 rw[hfV] at ih ⊢
 simp only at ih ⊢
 obtain⟨z,hz⟩:∃z,cJ fs w l=z:=⟨_,rfl⟩
 rw[hz]
 have hll:=Src.Ga l
 unfold jy
 simp only[go_sem,j5]
 refine ai (fun m st=>∃k:Nat,m+k=l.length∧cJ fs w (l.drop k)=z∧st.f 0=.one (.ptr 1012 gr 0)∧st.f 4=.one (.ptr (B+4) (st.gen (B+4)) 0)∧st.f 10=.one (.d (.sl (l.map smD)))∧st.f 11=iv .i64 l.length∧st.f 12=iv .i64 k∧
   st.obj (B+4)=some [.d (.str fnm),.d (.sl (fps.map fun s=>[.str s])),.d (.sl (fls.map fun s=>[.str s])),.d (.bool w),.d (.sl (fbody.map smD))]∧(∀j,j<B→st.gen j=g j∧st.obj j=ob j)∧(∀j,B+65≤j→st.obj j=none)) l.length ?_ ?_
 ·exact W5
 rintro m f g1 ob1 ⟨k,hk,hza,q0,q4,q9,q10,q11,o4,fr,hfr⟩
 simp only at q0 q4 q9 q10 q11 o4 fr hfr
 have E1:=E.mono hB fr
 obtain⟨or,⟨M,om,mM⟩,hgr,hgm⟩:=E1
 unfold BN at or
 have hw:=ah (k:=k) a6
 by_cases hlt:k<l.length
 case neg=>
  have hki:¬(k:Int)<(l.length:Int):=a6
  obtain rfl:k=l.length:=a6
  rw[E3,cJ] at hza
  exact Vl
 have hki:(k:Int)<(l.length:Int):=a6
 have hk0:(0:Int)≤(k:Int):=a6
 obtain⟨e,he⟩:=getq hlt
 have hsze:=Src.Jr (l6 he)
 have hdr:l.drop k=e::l.drop (k+1):=by rw[A0 hlt,(l4.1 he).2]
 rw[hdr,cJ] at hza
 obtain⟨kind,name,es,th,el⟩:=e
 rw[pQ] at hza
 rw[szS] at hsze
 have hle:=Src.FZ es
 have mo1:=mM name
 have hE:smD (.mk kind name es th el)=[.int .i64 kind,.str name,.sl (es.map exD),.sl (th.map smD),.sl (el.map smD)]:=by simp only[smD,aZ,ft]
 have hth:=ih (bu th) a6 th (l0 _) a6
 have hel:=ih (bu el) a6 el (l0 _) a6
 have hes:=fun t=>Rp (fs:=fs) (gr:=gr) (gm:=gm) (bF es) es t (l0 _) a6
 obtain⟨yt,hyt⟩:∃y,cJ fs w th=y:=⟨_,rfl⟩
 obtain⟨ye,hye⟩:∃y,cJ fs w el=y:=⟨_,rfl⟩
 rw[hyt] at hza hth
 rw[hye] at hza hel
 simp only[go_sem,q0,q4,q9,q10,q11,hki,hk0,he,hE]
 by_cases k4:kind=4
 ·subst k4
  rw[if_pos a6] at hza
  simp only[show ((4:Int)==6)=false from rfl,show ((4:Int)==7)=false from rfl,z6,I4,w7] at hza
  try (simp only[go_sem,q0,q4,o4])
  exact VC
 by_cases k5:kind=5
 ·subst k5
  rw[if_pos a6] at hza
  simp only[show ((5:Int)==6)=false from rfl,show ((5:Int)==7)=false from rfl,z6,I4,w7] at hza
  try (simp only[go_sem,q0,q4,o4])
  exact VC
 rw[if_neg a6] at hza
 by_cases k6:kind=6
 ·subst k6
  simp only[show ((6:Int)==6)=true from rfl,show ((6:Int)==7)=false from rfl,z6,I4,w7,L0] at hza
  unfold kG at hza
  simp only[go_sem]
  refine aJ b9 ?_
  cases hff:cl fs name with
  |none=>
    rw[hff] at mo1 hza
    simp only[G7] at mo1
    simp only[I4,w7] at hza
    simp only[go_sem,n1,n2,q0,or,hgr,hgm,om,mo1,C8]
    try (simp only[go_sem,q0,q4,o4])
    exact U8
  |some x=>
    obtain⟨nm,ps,ls,wd,body⟩:=x
    rw[hff] at mo1 hza
    simp only[x8,fnD] at mo1
    cases wd
    ·simp only[I4,w7] at hza
     simp only[go_sem,n1,n2,q0,or,hgr,hgm,om,mo1,B3]
     try (simp only[go_sem,q0,q4,o4])
     exact U8
    ·simp only[Q6,z6] at hza
     subst hza
     simp only[go_sem,n1,n2,q0,or,hgr,hgm,om,mo1,B3]
     exact VN
 rw[show (kind==6)=false by simp[k6]] at hza
 by_cases k7:kind=7
 ·subst k7
  simp only[show ((7:Int)==7)=true from rfl,z6,I4,w7] at hza
  by_cases hle0:0<es.length
  ·have hlei:(0:Int)<(es.length:Int):=a6
   rw[E0 hle0] at hza
   simp only[w7,Bool.not_not] at hza
   cases w
   ·simp only[z6] at hza
    subst hza
    simp only[go_sem,j5,hlei,q4,o4]
    exact VN
   simp only[w7] at hza
   simp only[go_sem,j5,hlei,q4,o4]
   try (simp only[go_sem,q0,q4,o4])
   exact U8
  have hlei:¬(0:Int)<(es.length:Int):=a6
  rw[y9 hle0] at hza
  simp only[z6,I4,w7] at hza
  simp only[go_sem,j5,hlei,q4,o4]
  try (simp only[go_sem,q0,q4,o4])
  exact U8
 rw[show (kind==7)=false by simp[k7]] at hza
 simp only[z6,I4,w7] at hza
 simp only[go_sem,k4,k5,k6,k7]
 try (simp only[go_sem,q0,q4,o4])
 exact U8
end
end
section
variable {l:List Src.Fn}
theorem wP.put {M:List C}{f:Src.Fn} (h:wP M l) (hn:cl l f.name=none):wP (mset M (.str f.name) (.d (.iptr (fnD f)))) (l++[f]):=fun s=>by
 rw[mG,Src.Nq]
 simp only[iV,cl]
 by_cases hs:f.name=s
 ·subst hs
  rw[hn]
  simp
 ·simp only[hs,L8,B8,A4]
  rw[h s]
  cases cl l s <;> rfl
theorem wP.old {M:List C}{f x:Src.Fn} (h:wP M l) (hn:cl l f.name=some x):wP M (l++[f]):=fun s=>by
 rw[h s,Src.Nq]
 cases hf:cl l s with
 |some y=>rfl
 |none=>
   simp only[cl]
   rw[if_neg (by rintro rfl;rw[hn] at hf;cases hf)]
theorem r9 {P:Prop} (h:P:=by repeat' (first|assumption|rfl|(intro i hi;(try simp only[upd]);(try rw[if_neg hi]);exact ho i hi)|(intro hh;first|exact h0 hh|exact h1 hh|exact h2 hh|exact h3 hh|exact h4 hh|exact h5 hh|exact h6 hh|exact h7 hh|exact h8 hh|exact h10 hh|exact h11 hh|exact h12 hh|exact h14 hh|exact h15 hh|exact h16 hh)|apply And.intro)):P:=h
theorem HS {g:Nat→Nat}{ob:Obs} (p:Src.Prog) (hsz:szP p≤1000000000) :
  cB Tryz.prog 132 [eF p] g ob (fun r g' ob'=>∃gr gm,r=.one (.ptr 1012 gr 0)∧vz p.funcs gr gm g' ob'∧∀i,i<1000∨1100≤i→g' i=g i∧ob' i=ob i) (fun _ _ _=>False):=by
 refine hdX 1000 Tryz.func132 rfl [.tmp 2] fun b₀ β0 s0 w0=>?_
 unfold szP at hsz
 have hpV:eF p=.agg [.d (.sl (p.vars.map fun s=>[.str s])),.d (.sl (p.arrays.map arD)),.d (.sl (p.funcs.map fnD))]:=rfl
 rw[hpV]
 simp only[go_sem,j5]
 refine ai (fun m st=>∃k:Nat,m+k=p.funcs.length∧st.f 3=.one (.ptr 1012 (st.gen 1012) 0)∧st.f 14=.one (.d (.sl (p.funcs.map fnD)))∧st.f 15=iv .i64 p.funcs.length∧st.f 16=iv .i64 k∧
   st.obj 1012=some [.mp 1010 (st.gen 1010) 208,.d .nilf,.d .nilf,.d .nilf,.d .nilf,.d .nilf,.d .nilf,.d .nilf,.d .nilf,.d .nilf,.d .nilf]∧(∃M,st.obj 1010=some M∧wP M (p.funcs.take k))∧(∀i,i<1000∨1100≤i→st.gen i=g i∧st.obj i=ob i)) p.funcs.length ?_ ?_
 ·refine⟨0,rfl,?_⟩
  simp only[go_sem]
  exact⟨⟨[],rfl,fun s=>rfl⟩,fun i hi=>⟨nu,nu⟩⟩
 rintro m f g1 ob1 ⟨k,hk,q3,q14,q15,q16,o12,⟨M,oM,mM⟩,fr⟩
 simp only at q3 q14 q15 q16 o12 oM fr
 have hw:=ah (k:=k) a6
 by_cases hlt:k<p.funcs.length
 ·have hki:(k:Int)<(p.funcs.length:Int):=a6
  have hk0:(0:Int)≤(k:Int):=a6
  obtain⟨x,he⟩:=getq hlt
  have hfD:fnD x=[.str x.name,.sl (x.params.map fun s=>[.str s]),.sl (x.locals.map fun s=>[.str s]),.bool x.word,.sl (x.body.map smD)]:=rfl
  have mo1:=mM x.name
  simp only[go_sem,q3,q14,q15,q16,hki,hk0,he,hfD]
  refine kl (B:=1000) aB mixed aa [1006] [([3],[0],[],false),([21],[0],[],false),([22],[0],[],false),([23],[0],[],false),([5],[0],[],false),([25],[0],[],false),([24,26],[0],[],false),([27],[0],[],false),([20],[0],[],false),([20],[0],[],false),([],[],[0],false),([6,28],[],[0],false),([29],[],[],true)] 1 rfl b9 rfl a7 ?_
  simp only[go_sem]
  cases hff:cl (p.funcs.take k) x.name with
  |none=>
    rw[hff] at mo1
    simp only[G7] at mo1
    iterate 10 (apply aw;· (intro fa ga oa K' hK;simp only[go_sem,q3,o12,oM,mo1,C8] at hK ⊢;exact hK))
    (apply bJ;· (intro fa ga oa K' hK;simp only[go_sem] at hK ⊢;exact hK))
    (apply ig;(focus simp);(focus (intro fa ga oa K' hK;simp only[go_sem] at hK ⊢;exact hK)))
    apply bG
    intro K' hK'
    simp only[go_sem]
    refine hK' _ ?_
    clear hK' K'
    simp only[go_sem]
    refine aJ b9 ?_
    simp only[go_sem,q3,o12,oM,q16,hw]
    refine ae (m-1) a6 ⟨k+1,a6,?_⟩
    have hT:p.funcs.take (k+1)=p.funcs.take k++[x]:=by rw[A2,he,I1]
    simp only[go_sem,q3,q14,q15,o12]
    exact⟨⟨_,rfl,by rw[hT];exact mM.put hff⟩,fun i hi=>⟨nt ((fr i hi).1),nt ((fr i hi).2)⟩⟩
  |some y=>
    obtain⟨nm,ps,ls,wd,body⟩:=y
    rw[hff] at mo1
    simp only[x8,fnD] at mo1
    iterate 10 (apply aw;· (intro fa ga oa K' hK;simp only[go_sem,q3,o12,oM,mo1,B3] at hK ⊢;exact hK))
    (apply bJ;· (intro fa ga oa K' hK;simp only[go_sem] at hK ⊢;exact hK))
    (apply ig;(focus simp);(focus (intro fa ga oa K' hK;simp only[go_sem] at hK ⊢;exact hK)))
    apply bG
    intro K' hK'
    simp only[go_sem]
    refine hK' _ ?_
    clear hK' K'
    simp only[go_sem,q16,hw]
    refine ae (m-1) a6 ⟨k+1,a6,?_⟩
    have hT:p.funcs.take (k+1)=p.funcs.take k++[x]:=by rw[A2,he,I1]
    simp only[go_sem,q3,q14,q15,o12]
    exact⟨⟨M,oM,by rw[hT];exact mM.old hff⟩,fun i hi=>⟨nt ((fr i hi).1),nt ((fr i hi).2)⟩⟩
 have hki:¬(k:Int)<(p.funcs.length:Int):=a6
 obtain rfl:k=p.funcs.length:=a6
 rw[l5 (l0 _)] at mM
 simp only[go_sem,q3,q15,q16,hki,o12]
 refine oZ (B:=1000) aB mixed aa b9 b9 (fun L s=>s.gen=g1∧(∀i,i≠1012→s.obj i=ob1 i)∧s.f 3=.one (.ptr 1012 (g1 1012) 0)∧s.f 8=.one (.d (.fn 184))∧s.f 9=.one (.clo (185+1000000) [.ptr 1012 (g1 1012) 0])∧(L 0=true→s.f 42=.one (.ptr 1012 (g1 1012) 0))∧(L 1=true→s.f 43=.one (.ptr 1012 (g1 1012) 0))∧(L 2=true→s.f 44=.one (.ptr 1012 (g1 1012) 0))∧(L 3=true→s.f 45=.one (.d (.fn 184)))∧(L 4=true→s.f 46=.one (.d (.fn 184)))∧(L 5=true→s.f 47=.one (.d (.fn 184)))∧(L 6=true→s.f 48=.one (.ptr 1012 (g1 1012) 0))∧(L 7=true→s.f 49=.one (.ptr 1012 (g1 1012) 1))∧(L 8=true→s.f 50=.one (.ptr 1012 (g1 1012) 2))∧(L 10=true→s.f 51=.one (.ptr 1012 (g1 1012) 0))∧(L 11=true→s.f 52=.one (.ptr 1012 (g1 1012) 1))∧(L 12=true→s.f 53=.one (.ptr 1012 (g1 1012) 3))∧(L 14=true→s.f 54=.one (.ptr 1012 (g1 1012) 0))∧(L 15=true→s.f 55=.one (.ptr 1012 (g1 1012) 1))∧(L 16=true→s.f 56=.one (.ptr 1012 (g1 1012) 6))∧s.obj 1012=some [.mp 1010 (g1 1010) 208,.d .nilf,if L 9=true then .d (.fn 184) else .d .nilf,if L 13=true then .d (.fn 184) else .d .nilf,.d .nilf,.d .nilf,if L 17=true then .d (.fn 184) else .d .nilf,.d .nilf,.d .nilf,.d .nilf,.d .nilf]) ?_ ?_ ?_
 ·exact⟨rfl,fun i hi=>rfl,by simp only[go_sem,q3],by simp only[go_sem,q3],by simp only[go_sem,q3],fun h=>by simp at h,fun h=>by simp at h,fun h=>by simp at h,fun h=>by simp at h,fun h=>by simp at h,fun h=>by simp at h,fun h=>by simp at h,fun h=>by simp at h,fun h=>by simp at h,fun h=>by simp at h,fun h=>by simp at h,fun h=>by simp at h,fun h=>by simp at h,fun h=>by simp at h,fun h=>by simp at h,by simp only[go_sem,o12,B8]⟩
 ·rintro L ⟨f',g',ob'⟩ i op ⟨hg,ho,k3,k8,k9,h0,h1,h2,h3,h4,h5,h6,h7,h8,h10,h11,h12,h14,h15,h16,hc⟩ hop hL hdep hid
  simp only at hg ho k3 k8 k9 h0 h1 h2 h3 h4 h5 h6 h7 h8 h10 h11 h12 h14 h15 h16 hc
  subst hg
  match i,hop with
  |0,hop=>
    exact VH
  |1,hop=>
    exact VH
  |2,hop=>
    exact VH
  |3,hop=>
    exact VH
  |4,hop=>
    exact VH
  |5,hop=>
    exact VH
  |6,hop=>
    simp only[u7,s7,l9,s6] at hop;subst hop
    have d0:L 0=true:=hdep ⟨0,.data⟩ a7 rfl
    simp only[go_sem,h0 d0,k3,k8,k9,hc]
    exact r9
  |7,hop=>
    simp only[u7,s7,l9,s6] at hop;subst hop
    have d6:L 6=true:=hdep ⟨6,.data⟩ a7 rfl
    simp only[go_sem,h6 d6,k3,k8,k9,hc]
    exact r9
  |8,hop=>
    simp only[u7,s7,l9,s6] at hop;subst hop
    have d7:L 7=true:=hdep ⟨7,.data⟩ a7 rfl
    simp only[go_sem,h7 d7,k3,k8,k9,hc]
    exact r9
  |9,hop=>
    simp only[u7,s7,l9,s6] at hop;subst hop
    have d8:L 8=true:=hdep ⟨8,.data⟩ a7 rfl
    have d3:L 3=true:=hdep ⟨3,.data⟩ a7 rfl
    simp only[go_sem,h8 d8,h3 d3,k3,k8,k9,hc]
    exact r9
  |10,hop=>
    simp only[u7,s7,l9,s6] at hop;subst hop
    have d1:L 1=true:=hdep ⟨1,.data⟩ a7 rfl
    simp only[go_sem,h1 d1,k3,k8,k9,hc]
    exact r9
  |11,hop=>
    simp only[u7,s7,l9,s6] at hop;subst hop
    have d10:L 10=true:=hdep ⟨10,.data⟩ a7 rfl
    simp only[go_sem,h10 d10,k3,k8,k9,hc]
    exact r9
  |12,hop=>
    simp only[u7,s7,l9,s6] at hop;subst hop
    have d11:L 11=true:=hdep ⟨11,.data⟩ a7 rfl
    simp only[go_sem,h11 d11,k3,k8,k9,hc]
    exact r9
  |13,hop=>
    simp only[u7,s7,l9,s6] at hop;subst hop
    have d12:L 12=true:=hdep ⟨12,.data⟩ a7 rfl
    have d4:L 4=true:=hdep ⟨4,.data⟩ a7 rfl
    simp only[go_sem,h12 d12,h4 d4,k3,k8,k9,hc]
    exact r9
  |14,hop=>
    simp only[u7,s7,l9,s6] at hop;subst hop
    have d2:L 2=true:=hdep ⟨2,.data⟩ a7 rfl
    simp only[go_sem,h2 d2,k3,k8,k9,hc]
    exact r9
  |15,hop=>
    simp only[u7,s7,l9,s6] at hop;subst hop
    have d14:L 14=true:=hdep ⟨14,.data⟩ a7 rfl
    simp only[go_sem,h14 d14,k3,k8,k9,hc]
    exact r9
  |16,hop=>
    simp only[u7,s7,l9,s6] at hop;subst hop
    have d15:L 15=true:=hdep ⟨15,.data⟩ a7 rfl
    simp only[go_sem,h15 d15,k3,k8,k9,hc]
    exact r9
  |17,hop=>
    simp only[u7,s7,l9,s6] at hop;subst hop
    have d16:L 16=true:=hdep ⟨16,.data⟩ a7 rfl
    have d5:L 5=true:=hdep ⟨5,.data⟩ a7 rfl
    simp only[go_sem,h16 d16,h5 d5,k3,k8,k9,hc]
    exact r9
  |j+18,hop=>exact absurd hop a7
 rintro L ⟨f',g',ob'⟩ ⟨hg,ho,k3,k8,k9,h0,h1,h2,h3,h4,h5,h6,h7,h8,h10,h11,h12,h14,h15,h16,hc⟩ hall
 simp only at hg ho k3 k8 k9 h0 h1 h2 h3 h4 h5 h6 h7 h8 h10 h11 h12 h14 h15 h16 hc
 subst hg
 rw[hall 9 a8,hall 13 a8,hall 17 a8] at hc
 simp only[A5] at hc
 clear hall h0 h1 h2 h3 h4 h5 h6 h7 h8 h10 h11 h12 h14 h15 h16
 have ho1:=ho
 simp only[go_sem,k3,k9,hc]
 refine oZ (B:=1000) aB mixed aa b9 b9 (fun L s=>s.gen=g'∧(∀i,i≠1012→s.obj i=ob' i)∧s.f 3=.one (.ptr 1012 (g' 1012) 0)∧s.f 9=.one (.clo (185+1000000) [.ptr 1012 (g' 1012) 0])∧(L 0=true→s.f 75=.one (.ptr 1012 (g' 1012) 0))∧(L 1=true→s.f 76=.one (.ptr 1012 (g' 1012) 0))∧(L 2=true→s.f 77=.one (.ptr 1012 (g' 1012) 0))∧(L 3=true→s.f 78=.one (.clo (185+1000000) [.ptr 1012 (g' 1012) 0]))∧(L 4=true→s.f 79=.one (.clo (185+1000000) [.ptr 1012 (g' 1012) 0]))∧(L 5=true→s.f 80=.one (.clo (185+1000000) [.ptr 1012 (g' 1012) 0]))∧(L 6=true→s.f 81=.one (.ptr 1012 (g' 1012) 0))∧(L 7=true→s.f 82=.one (.ptr 1012 (g' 1012) 1))∧(L 8=true→s.f 83=.one (.ptr 1012 (g' 1012) 8))∧(L 10=true→s.f 84=.one (.ptr 1012 (g' 1012) 0))∧(L 11=true→s.f 85=.one (.ptr 1012 (g' 1012) 1))∧(L 12=true→s.f 86=.one (.ptr 1012 (g' 1012) 9))∧(L 14=true→s.f 87=.one (.ptr 1012 (g' 1012) 0))∧(L 15=true→s.f 88=.one (.ptr 1012 (g' 1012) 1))∧(L 16=true→s.f 89=.one (.ptr 1012 (g' 1012) 10))∧s.obj 1012=some [.mp 1010 (g' 1010) 208,.d .nilf,.d (.fn 184),.d (.fn 184),.clo (186+1000000) [.ptr 1012 (g' 1012) 0],.clo (187+1000000) [.ptr 1012 (g' 1012) 0],.d (.fn 184),.clo (188+1000000) [.ptr 1012 (g' 1012) 0],if L 9=true then .clo (185+1000000) [.ptr 1012 (g' 1012) 0] else .d .nilf,if L 13=true then .clo (185+1000000) [.ptr 1012 (g' 1012) 0] else .d .nilf,if L 17=true then .clo (185+1000000) [.ptr 1012 (g' 1012) 0] else .d .nilf]) ?_ ?_ ?_
 ·exact⟨rfl,fun i hi=>nu,by simp only[go_sem,k3,k9],by simp only[go_sem,k3,k9],fun h=>by simp at h,fun h=>by simp at h,fun h=>by simp at h,fun h=>by simp at h,fun h=>by simp at h,fun h=>by simp at h,fun h=>by simp at h,fun h=>by simp at h,fun h=>by simp at h,fun h=>by simp at h,fun h=>by simp at h,fun h=>by simp at h,fun h=>by simp at h,fun h=>by simp at h,fun h=>by simp at h,by simp only[go_sem,hc,B8]⟩
 ·rintro L ⟨f2,g2,ob2⟩ i op ⟨hg,ho,k3,k9,h0,h1,h2,h3,h4,h5,h6,h7,h8,h10,h11,h12,h14,h15,h16,hc⟩ hop hL hdep hid
  simp only at hg ho k3 k9 h0 h1 h2 h3 h4 h5 h6 h7 h8 h10 h11 h12 h14 h15 h16 hc
  subst hg
  match i,hop with
  |0,hop=>
    exact VK
  |1,hop=>
    exact VK
  |2,hop=>
    exact VK
  |3,hop=>
    exact VK
  |4,hop=>
    exact VK
  |5,hop=>
    exact VK
  |6,hop=>
    simp only[u7,s7,l9,s6] at hop;subst hop
    have d0:L 0=true:=hdep ⟨0,.data⟩ a7 rfl
    simp only[go_sem,h0 d0,k3,k9,hc]
    exact r9
  |7,hop=>
    simp only[u7,s7,l9,s6] at hop;subst hop
    have d6:L 6=true:=hdep ⟨6,.data⟩ a7 rfl
    simp only[go_sem,h6 d6,k3,k9,hc]
    exact r9
  |8,hop=>
    simp only[u7,s7,l9,s6] at hop;subst hop
    have d7:L 7=true:=hdep ⟨7,.data⟩ a7 rfl
    simp only[go_sem,h7 d7,k3,k9,hc]
    exact r9
  |9,hop=>
    simp only[u7,s7,l9,s6] at hop;subst hop
    have d8:L 8=true:=hdep ⟨8,.data⟩ a7 rfl
    have d3:L 3=true:=hdep ⟨3,.data⟩ a7 rfl
    simp only[go_sem,h8 d8,h3 d3,k3,k9,hc]
    exact r9
  |10,hop=>
    simp only[u7,s7,l9,s6] at hop;subst hop
    have d1:L 1=true:=hdep ⟨1,.data⟩ a7 rfl
    simp only[go_sem,h1 d1,k3,k9,hc]
    exact r9
  |11,hop=>
    simp only[u7,s7,l9,s6] at hop;subst hop
    have d10:L 10=true:=hdep ⟨10,.data⟩ a7 rfl
    simp only[go_sem,h10 d10,k3,k9,hc]
    exact r9
  |12,hop=>
    simp only[u7,s7,l9,s6] at hop;subst hop
    have d11:L 11=true:=hdep ⟨11,.data⟩ a7 rfl
    simp only[go_sem,h11 d11,k3,k9,hc]
    exact r9
  |13,hop=>
    simp only[u7,s7,l9,s6] at hop;subst hop
    have d12:L 12=true:=hdep ⟨12,.data⟩ a7 rfl
    have d4:L 4=true:=hdep ⟨4,.data⟩ a7 rfl
    simp only[go_sem,h12 d12,h4 d4,k3,k9,hc]
    exact r9
  |14,hop=>
    simp only[u7,s7,l9,s6] at hop;subst hop
    have d2:L 2=true:=hdep ⟨2,.data⟩ a7 rfl
    simp only[go_sem,h2 d2,k3,k9,hc]
    exact r9
  |15,hop=>
    simp only[u7,s7,l9,s6] at hop;subst hop
    have d14:L 14=true:=hdep ⟨14,.data⟩ a7 rfl
    simp only[go_sem,h14 d14,k3,k9,hc]
    exact r9
  |16,hop=>
    simp only[u7,s7,l9,s6] at hop;subst hop
    have d15:L 15=true:=hdep ⟨15,.data⟩ a7 rfl
    simp only[go_sem,h15 d15,k3,k9,hc]
    exact r9
  |17,hop=>
    simp only[u7,s7,l9,s6] at hop;subst hop
    have d16:L 16=true:=hdep ⟨16,.data⟩ a7 rfl
    have d5:L 5=true:=hdep ⟨5,.data⟩ a7 rfl
    simp only[go_sem,h16 d16,h5 d5,k3,k9,hc]
    exact r9
  |j+18,hop=>exact absurd hop a7
 rintro L ⟨f2,g2,ob2⟩ ⟨hg,ho,k3,k9,h0,h1,h2,h3,h4,h5,h6,h7,h8,h10,h11,h12,h14,h15,h16,hc⟩ hall
 simp only at hg ho k3 k9 h0 h1 h2 h3 h4 h5 h6 h7 h8 h10 h11 h12 h14 h15 h16 hc
 subst hg
 rw[hall 9 a8,hall 13 a8,hall 17 a8] at hc
 simp only[A5] at hc
 clear hall h0 h1 h2 h3 h4 h5 h6 h7 h8 h10 h11 h12 h14 h15 h16
 simp only[go_sem]
 refine⟨_,ab.refl _,?_⟩
 simp only[go_sem,k3]
 refine⟨_,_,rfl,⟨hc,⟨M,(ho 1010 a8).trans ?_,mM⟩,rfl,rfl⟩,fun i hi=>⟨(fr i hi).1,?_⟩⟩
 ·(try simp only[upd]);(repeat rw[if_neg (by omega)])
  exact(ho1 1010 a8).trans oM
 ·rw[ho i a6]
  (try simp only[upd]);(repeat rw[if_neg (by omega)])
  rw[ho1 i a6]
  exact(fr i hi).2
end
end
section
attribute [local congr] Go.Am.ite_cc
open Go Go.Am Go.Asm
open Go.Src (Ex Stm szE bF szS bu dj cJ nO cC iT dS)
theorem HT {o:bE} (p:Src.Prog) (hsz:szP p≤1000000000):bi Tryz.prog 3 o 95 [eF p] (· = iv .i64 (nO p:Nat)):=by
 refine hdG Tryz.func95 rfl [.tmp 2] fun b₀ β0 s0 w0 g=>?_
 obtain⟨z,hz⟩:∃z,nO p=z:=⟨_,rfl⟩
 rw[hz]
 have hszp:=hsz
 unfold szP at hsz
 unfold nO at hz
 have hpV:eF p=.agg [.d (.sl (p.vars.map fun s=>[.str s])),.d (.sl (p.arrays.map arD)),.d (.sl (p.funcs.map fnD))]:=rfl
 rw[hpV]
 simp only[go_sem]
 refine bq ay rfl (by simp only[go_sem];rw[←hpV];exact HS p hszp) ?_ ?_
 ·exact Vm
 rintro r g1 ob1 ⟨gr,gm,rfl,E,fr⟩
 have e1:=fr 1 (.inl a8)
 simp[upd] at e1
 have hfr:∀j,1100≤j→ob1 j=none:=fun j hj=>by rw[(fr j (.inr a6)).2];simp only[upd];rw[if_neg a6]
 clear fr
 simp only[go_sem,e1.1,e1.2,j5]
 refine ai (fun m st=>∃k:Nat,m+k=p.funcs.length∧(p.funcs.take k).all (fun f=>dj p.funcs f.body)=true∧st.f 1=.one (.ptr 1 (st.gen 1) 0)∧st.f 3=.one (.ptr 1012 gr 0)∧st.f 11=.one (.d (.sl (p.funcs.map fnD)))∧st.f 12=iv .i64 p.funcs.length∧st.f 13=iv .i64 k∧
   st.obj 1=some (gw p)∧vz p.funcs gr gm st.gen st.obj∧∀j,1100≤j→st.obj j=none) p.funcs.length ?_ ?_
 ·refine⟨0,rfl,a7,?_⟩
  simp only[go_sem,e1.1,e1.2]
  exact⟨rfl,E,hfr⟩
 clear e1 hfr E
 rintro m f g1 ob1 ⟨k,hk,hall,q1,q3,q11,q12,q13,o1,E,hfr⟩
 simp only at q1 q3 q11 q12 q13 o1 E hfr
 have hw:=ah (k:=k) a6
 by_cases hlt:k<p.funcs.length
 ·have hki:(k:Int)<(p.funcs.length:Int):=a6
  have hk0:(0:Int)≤(k:Int):=a6
  obtain⟨x,he⟩:=getq hlt
  have hszf:=mO (p:=p) (l6 he)
  unfold szP at hszf
  have hfD:fnD x=[.str x.name,.sl (x.params.map fun s=>[.str s]),.sl (x.locals.map fun s=>[.str s]),.bool x.word,.sl (x.body.map smD)]:=rfl
  have hkn:=yP (fs:=p.funcs) (gr:=gr) (gm:=gm) (bu x.body) x.body (l0 _) a6
  obtain⟨y,hy⟩:∃y,dj p.funcs x.body=y:=⟨_,rfl⟩
  rw[hy] at hkn
  simp only[go_sem,q3,q11,q12,q13,hki,hk0,he,hfD]
  refine bI ay rfl hkn XX 2000 a6 (fun i hi=>nt (hfr i a6)) ⟨by simp[upd];exact E.or,by simp[upd];exact E.om,by simp[upd];exact E.gr,by simp[upd];exact E.gm⟩ ?_
  cases y
  ·rw[if_pos (Src.all_false (p:=fun f=>dj p.funcs f.body) he hy)] at hz
   subst hz
   exact VU
  ·simp only[go_sem,q13,hw]
   refine ae (m-1) a6 ⟨k+1,a6,Src.RO hall he hy,?_⟩
   simp only[go_sem,q1,q3,q11,q12]
   exact⟨o1,⟨by simp[upd];exact E.or,by simp[upd];exact E.om,by simp[upd];exact E.gr,by simp[upd];exact E.gm⟩,fun j hj=>nt (hfr j hj)⟩
 have hki:¬(k:Int)<(p.funcs.length:Int):=a6
 obtain rfl:k=p.funcs.length:=a6
 rw[l5 (l0 _)] at hall
 rw[if_neg (by rw[hall];simp)] at hz
 have o1':=o1
 unfold gw iX at o1
 simp only[l7,v8] at o1
 simp only[go_sem,q1,q12,q13,hki,o1,j5]
 refine ai (fun m st=>∃k:Nat,m+k=p.funcs.length∧(p.funcs.take k).all (fun f=>cJ p.funcs f.word f.body)=true∧st.f 3=.one (.ptr 1012 gr 0)∧st.f 24=.one (.d (.sl (p.funcs.map fnD)))∧st.f 25=iv .i64 p.funcs.length∧st.f 26=iv .i64 k∧
   vz p.funcs gr gm st.gen st.obj∧∀j,1100≤j→st.obj j=none) p.funcs.length ?_ ?_
 ·refine⟨0,rfl,a7,?_⟩
  simp only[go_sem,q3]
  exact⟨E,hfr⟩
 clear q1 q3 q11 q12 q13 o1 o1' E hfr hlt hki hk hw
 rintro m f g1 ob1 ⟨k,hk,hall2,q3,q11,q12,q13,E,hfr⟩
 simp only at q3 q11 q12 q13 E hfr
 have hw:=ah (k:=k) a6
 by_cases hlt:k<p.funcs.length
 ·have hki:(k:Int)<(p.funcs.length:Int):=a6
  have hk0:(0:Int)≤(k:Int):=a6
  obtain⟨x,he⟩:=getq hlt
  have hszf:=mO (p:=p) (l6 he)
  unfold szP at hszf
  have hfD:fnD x=[.str x.name,.sl (x.params.map fun s=>[.str s]),.sl (x.locals.map fun s=>[.str s]),.bool x.word,.sl (x.body.map smD)]:=rfl
  have hfV:fnV x=.agg [.d (.str x.name),.d (.sl (x.params.map fun s=>[.str s])),.d (.sl (x.locals.map fun s=>[.str s])),.d (.bool x.word),.d (.sl (x.body.map smD))]:=rfl
  have hkn:=yQ (fs:=p.funcs) (gr:=gr) (gm:=gm) x (bu x.body) x.body (l0 _) a6
  obtain⟨y,hy⟩:∃y,cJ p.funcs x.word x.body=y:=⟨_,rfl⟩
  rw[hy,hfV] at hkn
  simp only[go_sem,q3,q11,q12,q13,hki,hk0,he,hfD]
  refine bI ay rfl hkn XX 2000 a6 (fun i hi=>nt (hfr i a6)) ⟨by simp[upd];exact E.or,by simp[upd];exact E.om,by simp[upd];exact E.gr,by simp[upd];exact E.gm⟩ ?_
  cases y
  ·rw[if_pos (Src.all_false (p:=fun f=>cJ p.funcs f.word f.body) he hy)] at hz
   subst hz
   exact VU
  ·simp only[go_sem,q13,hw]
   refine ae (m-1) a6 ⟨k+1,a6,Src.RO hall2 he hy,?_⟩
   simp only[go_sem,q3,q11,q12]
   exact⟨⟨by simp[upd];exact E.or,by simp[upd];exact E.om,by simp[upd];exact E.gr,by simp[upd];exact E.gm⟩,fun j hj=>nt (hfr j hj)⟩
 have hki:¬(k:Int)<(p.funcs.length:Int):=a6
 obtain rfl:k=p.funcs.length:=a6
 rw[l5 (l0 _)] at hall2
 rw[if_neg (by rw[hall2];simp)] at hz
 subst hz
 simp only[go_sem,q12,q13,hki]
theorem HU {o:bE} (ho:gK o) (p:Src.Prog) (hsz:szP p≤1000000000):bi Tryz.prog 3 o 66 [eF p] (· = iv .i64 (cC p:Nat)):=by
 refine hdG Tryz.func66 rfl [.tmp 2] fun b₀ β0 s0 w0 g=>?_
 obtain⟨z,hz⟩:∃z,cC p=z:=⟨_,rfl⟩
 rw[hz]
 unfold cC at hz
 have hpV:eF p=.agg [.d (.sl (p.vars.map fun s=>[.str s])),.d (.sl (p.arrays.map arD)),.d (.sl (p.funcs.map fnD))]:=rfl
 have hR:=Ay ho p hsz
 have hT:=HT (o:=o) p hsz
 rw[hpV] at hR hT ⊢
 simp only[go_sem]
 refine cp rfl YA ?_
 rintro _ rfl
 cases hr:dS p
 ·rw[if_pos hr] at hz
  subst hz
  exact VU
 rw[if_neg (by rw[hr];simp)] at hz
 have hlen:1≤p.funcs.length:=by
  unfold dS at hr
  simp at hr
  exact hr.1.1.1
 have hS:=HQ (o:=o) p hlen hsz
 rw[hpV] at hS
 simp only[go_sem]
 refine cp rfl Y9 ?_
 rintro _ rfl
 by_cases hs:iT p=0
 ·rw[if_neg (by simp[hs])] at hz
  simp only[go_sem,hs]
  refine cp rfl Zb ?_
  rintro _ rfl
  rw[hz]
  exact VU
 ·rw[if_pos hs] at hz
  have hs2:¬((iT p:Nat):Int)=0:=a6
  rw[hz] at hs2 ⊢
  simp only[go_sem,hs2]
end
end Go.Proofs.YtgiigidgdhplfaaGreatDoor
namespace Go.Lower
section
structure Ins where
 op:Int
 a:Int
 b:Int
 n:Int
inductive Ex where
 |mk (kind op num slot size:Int) (kids:List Ex)
inductive Stm where
 |mk (kind slot size:Int) (e:List Ex) (th el:List Stm)
abbrev Sig:=List (Int×Bool)
def within (w a n:Int):Prop:=0≤a∧0≤n∧a≤w∧n≤w-a
def callee (ps:Sig) (f:Nat) (g:Int) (args:Nat) (word:Bool):Prop:=∃k:Nat,g=(k:Int)∧k<f∧ps[k]? = some ((args:Int),word)
def okE (w:Int) (ps:Sig) (f:Nat) (lv:Int) (kind op num slot size:Int) (n:Nat):Prop:=
 lv≤24∧(kind=1∨num=0)∧(kind=6∨op=0)∧(kind=3∨size=0)∧(kind=2∨kind=3∨kind=4∨slot=0)∧
 (((kind=1∨kind=5)∧n=0)∨(kind=2∧within w slot 1∧n=0)∨(kind=3∧1≤size∧size≤4096∧within w slot size∧n=1)∨
  (kind=4∧callee ps f slot n true)∨(kind=6∧4≤op∧op≤15∧n=2)∨(kind=7∧n=1)∨((kind=8∨kind=9)∧n=2))
mutual
def rE (w:Int) (ps:Sig) (f:Nat) (lv:Int):Ex→Prop
 |.mk kind op num slot size kids=>okE w ps f lv kind op num slot size kids.length∧rEs w ps f (lv+1) kids
def rEs (w:Int) (ps:Sig) (f:Nat) (lv:Int):List Ex→Prop
 |[]=>True
 |e::l=>rE w ps f lv e∧rEs w ps f lv l
end
def okS (w:Int) (ps:Sig) (f:Nat) (word:Bool) (lv:Int) (kind slot size:Int) (n nt ne:Nat):Prop:=
 lv≤24∧(kind=2∨size=0)∧(kind=1∨kind=2∨kind=6∨slot=0)∧(kind=4∨ne=0)∧(kind=4∨kind=5∨nt=0)∧
 ((kind=1∧within w slot 1∧n=1)∨(kind=2∧1≤size∧size≤4096∧within w slot size∧n=2)∨((kind=3∨kind=4∨kind=5)∧n=1)∨
  (kind=6∧callee ps f slot n false)∨(kind=7∧(n=0∨(word=true∧n=1))))
mutual
def rS (w:Int) (ps:Sig) (f:Nat) (word:Bool) (lv:Int):Stm→Prop
 |.mk kind slot size e th el=>okS w ps f word lv kind slot size e.length th.length el.length∧rEs w ps f (lv+1) e∧rSs w ps f word (lv+1) th∧rSs w ps f word (lv+1) el
def rSs (w:Int) (ps:Sig) (f:Nat) (word:Bool) (lv:Int):List Stm→Prop
 |[]=>True
 |e::l=>rS w ps f word lv e∧rSs w ps f word lv l
end
abbrev Code:=List (Ins×Int)
def one (kind op num slot size:Int) (d:Int):Code:=
 if kind=1 then [(⟨1,0,0,num⟩,d)] else if kind=2 then [(⟨2,slot,0,0⟩,d)] else if kind=3 then [(⟨4,slot,size,0⟩,d)] else if kind=4 then [(⟨10,slot,0,0⟩,d)]
 else if kind=5 then [(⟨12,0,0,0⟩,d)] else if kind=6 then [(⟨6,op,0,0⟩,d)] else if kind=7 then [(⟨7,0,0,0⟩,d)] else []
def iZ (kind d:Int):Code:=if kind=8 then [(⟨7,0,0,0⟩,d+1)] else []
def mD (at':Nat) (d kind:Int) (c0:Code) (c1:Nat→Code):Code:=
 let r:=at'+c0.length+(iZ kind d).length
 c0++(iZ kind d++((⟨9,(r+3:Nat),0,0⟩,d+1)::(⟨1,0,0,if kind=8 then 0 else 1⟩,d)::(⟨8,(r+3+(c1 (r+3)).length+2:Nat),0,0⟩,d+1)::(c1 (r+3)++[(⟨7,0,0,0⟩,d+1),(⟨7,0,0,0⟩,d+1)])))
mutual
def cE (at':Nat) (d:Int):Ex→Code
 |.mk kind op num slot size kids=>
   if kind=8∨kind=9 then cAO at' d kind kids
   else cEs at' d kids++one kind op num slot size (d+kids.length)
def cEs (at':Nat) (d:Int):List Ex→Code
 |[]=>[]
 |e::l=>cE at' d e++cEs (at'+(cE at' d e).length) (d+1) l
def cAO (at':Nat) (d kind:Int):List Ex→Code
 |[]=>[]
 |e::l=>mD at' d kind (cE at' d e) (fun r=>nd r d l)
def nd (at':Nat) (d:Int):List Ex→Code
 |[]=>[]
 |e::_=>cE at' d e
end
def takes (ps:Sig) (word:Bool) (x:Ins):Option (Int×Int):=
 if x.op=1∨x.op=2∨x.op=12 then some (0,1) else if x.op=3∨x.op=9∨x.op=13 then some (1,0) else if x.op=4∨x.op=7 then some (1,1)
 else if x.op=5 then some (2,0) else if x.op=6 then some (2,1) else if x.op=8 then some (0,0)
 else if x.op=10 then(if x.a<0 then none else(ps[x.a.toNat]?).map fun p=>(p.1,if p.2 then 1 else 0))
 else if x.op=11 then some (if word then(1,0) else(0,0)) else none
def next (x:Ins) (at':Nat):List Int:=if x.op=8 then [x.a] else if x.op=9 then [((at'+1:Nat):Int),x.a] else if x.op=11 then [] else [((at'+1:Nat):Int)]
def OkI (ps:Sig) (word:Bool) (T:Nat→Option Int) (at':Nat) (x:Ins) (d:Int):Prop:=
 ∃t p,takes ps word x=some (t,p)∧0≤t∧t≤d∧(x.op=11→d=t)∧∀k∈next x at',∃k':Nat,k=(k':Int)∧T k'=some (d-t+p)
def Seg (T:Nat→Option Int):Nat→Code→Prop
 |_,[]=>True
 |at',(_,d)::c=>T at'=some d∧Seg T (at'+1) c
def Good (ps:Sig) (word:Bool) (T:Nat→Option Int):Nat→Code→Prop
 |_,[]=>True
 |at',(x,d)::c=>OkI ps word T at' x d∧Good ps word T (at'+1) c
theorem fE {T:Nat→Option Int}:∀{a b:Code}{at':Nat},Seg T at' (a++b)↔Seg T at' a∧Seg T (at'+a.length) b
 |[],b,at'=>by simp[Seg]
 |(x,d)::a,b,at'=>by simp only[z8,Seg,fE (a:=a),j6,and_assoc];rw[show at'+(a.length+1)=at'+1+a.length by omega]
theorem eG {ps:Sig}{word:Bool}{T:Nat→Option Int}:∀{a b:Code}{at':Nat},Good ps word T at' (a++b)↔Good ps word T at' a∧Good ps word T (at'+a.length) b
 |[],b,at'=>by simp[Good]
 |(x,d)::a,b,at'=>by simp only[z8,Good,eG (a:=a),j6,and_assoc];rw[show at'+(a.length+1)=at'+1+a.length by omega]
end
end Go.Lower
namespace Go.Src
section
open Go.Asm (Str)
abbrev Pl:=List (Str×Int×Int)
def iw:Pl→Str→Option (Int×Int)
 |[],_=>none
 |t::l,s=>if t.1=s then some t.2 else iw l s
def cP (o i:Pl) (s:Str):Int×Int:=match iw i s with|some x=>x|none=>(iw o s).getD (0,0)
mutual
def fA (o i:Pl):Ex→Lower.Ex
 |.mk kind op num name kids=>.mk kind op num (cP o i name).1 (cP o i name).2 (dm o i kids)
def dm (o i:Pl):List Ex→List Lower.Ex
 |[]=>[]
 |e::l=>fA o i e::dm o i l
end
theorem jH (o i:Pl):∀l:List Ex,dm o i l=l.map (fA o i)
 |[]=>by simp[dm]
 |e::l=>by simp[dm,jH o i l]
mutual
def coreS (o i:Pl):Stm→Lower.Stm
 |.mk kind name e th el=>.mk kind (cP o i name).1 (cP o i name).2 (dm o i e) (cQ o i th) (cQ o i el)
def cQ (o i:Pl):List Stm→List Lower.Stm
 |[]=>[]
 |s::l=>coreS o i s::cQ o i l
end
theorem jI (o i:Pl):∀l:List Stm,cQ o i l=l.map (coreS o i)
 |[]=>by simp[cQ]
 |e::l=>by simp[cQ,jI o i l]
structure CFn where
 params:Int
 slots:Int
 first:Int
 word:Bool
 body:List Lower.Stm
def gV:List Str→Pl→Int→Pl×Int
 |[],m,w=>(m,w)
 |n::l,m,w=>gV l ((n,w,0)::m) (w+1)
def gA:List (Str×Int)→Pl→Int→Pl×Int
 |[],m,w=>(m,w)
 |a::l,m,w=>gA l ((a.1,w,a.2)::m) (w+a.2)
def gF:Nat→List Fn→Pl→Pl
 |_,[],m=>m
 |i,f::l,m=>gF (i+1) l ((f.name,(i:Int),0)::m)
def aP (p:Prog):Pl×Int:=
 (gF 0 p.funcs (gA p.arrays (gV p.vars [] 0).1 (gV p.vars [] 0).2).1,(gA p.arrays (gV p.vars [] 0).1 (gV p.vars [] 0).2).2)
def lP (w:Int):Nat→List Str→Pl→Pl
 |_,[],m=>m
 |i,n::l,m=>lP w (i+1) l ((n,w+i,0)::m)
def mF (o:Pl) (f:Fn) (w:Int):CFn:=
 ⟨f.params.length,f.params.length+f.locals.length,w,f.word,cQ o (lP (w+f.params.length) 0 f.locals (lP w 0 f.params [])) f.body⟩
def cX (o:Pl):List Fn→Int→List CFn×Int
 |[],w=>([],w)
 |f::l,w=>(mF o f w::(cX o l (w+(f.params.length+f.locals.length))).1,(cX o l (w+(f.params.length+f.locals.length))).2)
structure Core where
 words:Int
 funcs:List CFn
def al (p:Prog):Core:=⟨(cX (aP p).1 p.funcs (aP p).2).2,(cX (aP p).1 p.funcs (aP p).2).1⟩
def gY (p:Prog):Core×Nat:=
 if cC p≠0 then(⟨0,[]⟩,cC p) else if 32768<(al p).words then(⟨0,[]⟩,2) else(al p,0)
end
end Go.Src
